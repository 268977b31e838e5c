/- A part of the library, as the kit's shelf has it, for this program. -/
import Derived.Test.YtahpemfnhepgoaaLtA
import Derived.Test.YtahpemfnhepgoaaProg
import Derived.Ground.NamesProg
import Derived.Shelf.Strings.Cut
namespace Go.Proofs.Ytahpemfnhepgoaa
set_option linter.all false
set_option maxRecDepth 4000
open Go.Shelf
def laysCut_ren : Go.Shelf.Ren := ⟨fun | 145 => 25 | 220 => 38 | 219 => 52 | 217 => 54 | 225 => 62 | 224 => 63 | 267 => 64 | 266 => 65 | 314 => 79 | n => n, fun | 9 => 9 | 4 => 4 | 59 => 46 | 3 => 3 | 5 => 5 | 46 => 41 | 146 => 102 | 51 => 98 | n => n, fun | 1 => 0 | n => n⟩
theorem laysCut : Go.Proofs.Lays.n145 Try.prog laysCut_ren := {
  mixed := by kernel_rfl
  f145 := Try.func25.trans (congrArg some (by kernel_rfl))
  f217 := Try.func54.trans (congrArg some (by kernel_rfl))
  f219 := Try.func52.trans (congrArg some (by kernel_rfl))
  f220 := Try.func38.trans (congrArg some (by kernel_rfl))
  f224 := Try.func63.trans (congrArg some (by kernel_rfl))
  f225 := Try.func62.trans (congrArg some (by kernel_rfl))
  f266 := Try.func65.trans (congrArg some (by kernel_rfl))
  f267 := Try.func64.trans (congrArg some (by kernel_rfl))
  f314 := Try.func79.trans (congrArg some (by kernel_rfl))
  t3 := Try.underlying3
  a3 := Try.isAgg3
  z3 := Try.sizeOf3
  v3 := Try.zeroValue3
  t4 := Try.underlying4
  a4 := Try.isAgg4
  z4 := Try.sizeOf4
  v4 := Try.zeroValue4
  t5 := Try.underlying5
  a5 := Try.isAgg5
  z5 := Try.sizeOf5
  v5 := Try.zeroValue5
  t9 := Try.underlying9
  a9 := Try.isAgg9
  z9 := Try.sizeOf9
  v9 := Try.zeroValue9
  t46 := Try.underlying41
  a46 := Try.isAgg41
  z46 := Try.sizeOf41
  v46 := Try.zeroValue41
  t51 := Try.underlying98
  a51 := Try.isAgg98
  z51 := Try.sizeOf98
  v51 := Try.zeroValue98
  t59 := Try.underlying46
  a59 := Try.isAgg46
  z59 := Try.sizeOf46
  v59 := Try.zeroValue46
  t146 := Try.underlying102
  a146 := Try.isAgg102
  z146 := Try.sizeOf102
  v146 := Try.zeroValue102
  g1 := by kernel_rfl }
end Go.Proofs.Ytahpemfnhepgoaa
