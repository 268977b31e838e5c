/- strings.Join, as the kit's shelf has it, for this program. -/
import Derived.Test.YtpcfnhjeacahdaaLtA
import Derived.Test.YtpcfnhjeacahdaaProg
import Derived.Ground.NamesProg
import Derived.Shelf.Strings.OnBuilder
namespace Go.Proofs.Ytpcfnhjeacahdaa
set_option linter.all false
open Go.Shelf
def laysJoin_ren : Go.Shelf.Ren := ⟨fun | 156 => 53 | 165 => 77 | 166 => 78 | 169 => 79 | 240 => 88 | 241 => 89 | 276 => 93 | 277 => 94 | n => n, fun | 31 => 37 | 9 => 9 | 3 => 3 | 4 => 4 | 0 => 0 | 20 => 20 | 72 => 117 | 76 => 120 | 70 => 115 | 37 => 98 | 75 => 119 | 127 => 130 | 164 => 138 | 5 => 5 | 80 => 42 | n => n, fun | n => n⟩
theorem laysJoin : Go.Proofs.Lays.n156 Try.prog laysJoin_ren := {
  mixed := by kernel_rfl
  f156 := Try.func53.trans (congrArg some (by kernel_rfl))
  f165 := Try.func77.trans (congrArg some (by kernel_rfl))
  f166 := Try.func78.trans (congrArg some (by kernel_rfl))
  f169 := Try.func79.trans (congrArg some (by kernel_rfl))
  f240 := Try.func88.trans (congrArg some (by kernel_rfl))
  f241 := Try.func89.trans (congrArg some (by kernel_rfl))
  f276 := Try.func93.trans (congrArg some (by kernel_rfl))
  f277 := Try.func94.trans (congrArg some (by kernel_rfl))
  t0 := Try.underlying0
  a0 := Try.isAgg0
  z0 := Try.sizeOf0
  v0 := Try.zeroValue0
  t3 := Try.underlying3
  a3 := Try.isAgg3
  z3 := Try.sizeOf3
  v3 := Try.zeroValue3
  t4 := Try.underlying4
  a4 := Try.isAgg4
  z4 := Try.sizeOf4
  v4 := Try.zeroValue4
  t9 := Try.underlying9
  a9 := Try.isAgg9
  z9 := Try.sizeOf9
  v9 := Try.zeroValue9
  t20 := Try.underlying20
  a20 := Try.isAgg20
  z20 := Try.sizeOf20
  v20 := Try.zeroValue20
  t31 := Try.underlying37
  a31 := Try.isAgg37
  z31 := Try.sizeOf37
  v31 := Try.zeroValue37
  t37 := Try.underlying98
  a37 := Try.isAgg98
  z37 := Try.sizeOf98
  v37 := Try.zeroValue98
  t70 := Try.underlying115
  a70 := Try.isAgg115
  z70 := Try.sizeOf115
  v70 := Try.zeroValue115
  t72 := Try.underlying117
  a72 := Try.isAgg117
  z72 := Try.sizeOf117
  v72 := Try.zeroValue117
  t75 := Try.underlying119
  a75 := Try.isAgg119
  z75 := Try.sizeOf119
  v75 := Try.zeroValue119
  t76 := Try.underlying120
  a76 := Try.isAgg120
  z76 := Try.sizeOf120
  v76 := Try.zeroValue120
  t127 := Try.underlying130
  a127 := Try.isAgg130
  z127 := Try.sizeOf130
  v127 := Try.zeroValue130
  t164 := Try.underlying138
  a164 := Try.isAgg138
  z164 := Try.sizeOf138
  v164 := Try.zeroValue138 }
end Go.Proofs.Ytpcfnhjeacahdaa
