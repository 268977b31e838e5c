/- A part of the library, as the kit's shelf has it, for this program. -/
import Derived.Test.YtcghcdnmpjhifaaDoorLtA
import Derived.Test.YtcghcdnmpjhifaaDoorProg
import Derived.Ground.NamesProg
import Derived.Shelf.Small.Strs
namespace Go.Proofs.YtcghcdnmpjhifaaDoor
set_option linter.all false
open Go.Shelf
def laysIdx_ren : Go.Shelf.Ren := ⟨fun | 137 => 46 | 217 => 60 | 266 => 69 | n => n, fun | 9 => 9 | 5 => 5 | 3 => 3 | n => n, fun | n => n⟩
theorem laysIdx : Go.Proofs.Lays.n137 Tryd.prog laysIdx_ren := {
  mixed := by kernel_rfl
  f137 := Tryd.func46.trans (congrArg some (by kernel_rfl))
  f217 := Tryd.func60.trans (congrArg some (by kernel_rfl))
  f266 := Tryd.func69.trans (congrArg some (by kernel_rfl))
  t3 := Tryd.underlying3
  a3 := Tryd.isAgg3
  z3 := Tryd.sizeOf3
  v3 := Tryd.zeroValue3
  t5 := Tryd.underlying5
  a5 := Tryd.isAgg5
  z5 := Tryd.sizeOf5
  v5 := Tryd.zeroValue5
  t9 := Tryd.underlying9
  a9 := Tryd.isAgg9
  z9 := Tryd.sizeOf9
  v9 := Tryd.zeroValue9 }
end Go.Proofs.YtcghcdnmpjhifaaDoor
