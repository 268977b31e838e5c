/- Rules of the light walk: a range over a map, delete. -/
import Derived.Test.YtcghcdnmpjhifaaDoorLtQ
import Derived.Maps.RangeRun
namespace Go.Proofs.YtcghcdnmpjhifaaDoor
set_option linter.all false
open Go.RowKit

section
variable {E : Env} {k : List It} {f : Fr} {h : Heap} {H Hr Hr2 : List Chunk} {all : Array Oper} {rest : List Oper} {d : Nat} {ty : TypeId} {pos : String} {aft : Array Edge}
theorem St.setObj {c : Ctx} {w : World} {r : Nat} {o o' : Obj} (s : St c h H w) (t : Take (.obj r o) H Hr) : St c h (.obj r o' :: Hr) { w with heap := w.heap.setIfInBounds r o' } := by
  have ho : w.heap[r]? = some o := s.own _ t.mem
  have hlt : r < w.heap.size := lt_of_get ho
  refine s.set (g := r) t rfl rfl ?_ rfl rfl rfl (by simp) (fun b hb => ?_)
  · show (w.heap.setIfInBounds r o')[r]? = some o'
    simp [hlt]
  · simp [Array.getElem?_setIfInBounds, Ne.symm hb]
end
end Go.Proofs.YtcghcdnmpjhifaaDoor
