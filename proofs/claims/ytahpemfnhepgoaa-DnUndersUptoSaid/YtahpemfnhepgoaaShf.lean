/- strings.Join, as the kit's shelf has it, for this program. -/
import Derived.Test.YtahpemfnhepgoaaLtA
import Derived.Test.YtahpemfnhepgoaaProg
import Derived.Ground.NamesProg
import Derived.Shelf.Strings.OnBuilder
namespace Go.Proofs.Ytahpemfnhepgoaa
set_option linter.all false
set_option maxRecDepth 4000
open Go.Shelf
def laysJoin_ren : Go.Shelf.Ren := ⟨fun | 156 => 48 | 165 => 59 | 166 => 60 | 169 => 61 | 240 => 77 | 241 => 78 | 276 => 86 | 277 => 87 | n => n, fun | 31 => 66 | 9 => 9 | 3 => 3 | 4 => 4 | 0 => 0 | 20 => 20 | 72 => 80 | 76 => 84 | 70 => 78 | 37 => 40 | 75 => 83 | 127 => 101 | 164 => 110 | 5 => 5 | 80 => 86 | n => n, fun | n => n⟩
theorem laysJoin : Go.Proofs.Lays.n156 Try.prog laysJoin_ren := {
  mixed := by kernel_rfl
  f156 := Try.func48.trans (congrArg some (by kernel_rfl))
  f165 := Try.func59.trans (congrArg some (by kernel_rfl))
  f166 := Try.func60.trans (congrArg some (by kernel_rfl))
  f169 := Try.func61.trans (congrArg some (by kernel_rfl))
  f240 := Try.func77.trans (congrArg some (by kernel_rfl))
  f241 := Try.func78.trans (congrArg some (by kernel_rfl))
  f276 := Try.func86.trans (congrArg some (by kernel_rfl))
  f277 := Try.func87.trans (congrArg some (by kernel_rfl))
  t0 := Try.underlying0
  a0 := Try.isAgg0
  z0 := Try.sizeOf0
  v0 := Try.zeroValue0
  t3 := Try.underlying3
  a3 := Try.isAgg3
  z3 := Try.sizeOf3
  v3 := Try.zeroValue3
  t4 := Try.underlying4
  a4 := Try.isAgg4
  z4 := Try.sizeOf4
  v4 := Try.zeroValue4
  t9 := Try.underlying9
  a9 := Try.isAgg9
  z9 := Try.sizeOf9
  v9 := Try.zeroValue9
  t20 := Try.underlying20
  a20 := Try.isAgg20
  z20 := Try.sizeOf20
  v20 := Try.zeroValue20
  t31 := Try.underlying66
  a31 := Try.isAgg66
  z31 := Try.sizeOf66
  v31 := Try.zeroValue66
  t37 := Try.underlying40
  a37 := Try.isAgg40
  z37 := Try.sizeOf40
  v37 := Try.zeroValue40
  t70 := Try.underlying78
  a70 := Try.isAgg78
  z70 := Try.sizeOf78
  v70 := Try.zeroValue78
  t72 := Try.underlying80
  a72 := Try.isAgg80
  z72 := Try.sizeOf80
  v72 := Try.zeroValue80
  t75 := Try.underlying83
  a75 := Try.isAgg83
  z75 := Try.sizeOf83
  v75 := Try.zeroValue83
  t76 := Try.underlying84
  a76 := Try.isAgg84
  z76 := Try.sizeOf84
  v76 := Try.zeroValue84
  t127 := Try.underlying101
  a127 := Try.isAgg101
  z127 := Try.sizeOf101
  v127 := Try.zeroValue101
  t164 := Try.underlying110
  a164 := Try.isAgg110
  z164 := Try.sizeOf110
  v164 := Try.zeroValue110 }
end Go.Proofs.Ytahpemfnhepgoaa
