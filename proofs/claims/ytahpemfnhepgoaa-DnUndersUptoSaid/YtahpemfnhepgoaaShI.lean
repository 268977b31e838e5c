/- A part of the library, as the kit's shelf has it, for this program. -/
import Derived.Test.YtahpemfnhepgoaaLtA
import Derived.Test.YtahpemfnhepgoaaProg
import Derived.Ground.NamesProg
import Derived.Shelf.Small.Strs
namespace Go.Proofs.Ytahpemfnhepgoaa
set_option linter.all false
open Go.Shelf
def laysIdx_ren : Go.Shelf.Ren := ⟨fun | 137 => 42 | 217 => 54 | 266 => 65 | n => n, fun | 9 => 9 | 5 => 5 | 3 => 3 | n => n, fun | n => n⟩
theorem laysIdx : Go.Proofs.Lays.n137 Try.prog laysIdx_ren := {
  mixed := by kernel_rfl
  f137 := Try.func42.trans (congrArg some (by kernel_rfl))
  f217 := Try.func54.trans (congrArg some (by kernel_rfl))
  f266 := Try.func65.trans (congrArg some (by kernel_rfl))
  t3 := Try.underlying3
  a3 := Try.isAgg3
  z3 := Try.sizeOf3
  v3 := Try.zeroValue3
  t5 := Try.underlying5
  a5 := Try.isAgg5
  z5 := Try.sizeOf5
  v5 := Try.zeroValue5
  t9 := Try.underlying9
  a9 := Try.isAgg9
  z9 := Try.sizeOf9
  v9 := Try.zeroValue9 }
end Go.Proofs.Ytahpemfnhepgoaa
