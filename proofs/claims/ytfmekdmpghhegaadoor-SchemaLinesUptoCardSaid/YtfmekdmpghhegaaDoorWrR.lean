/- Rules of the light walk: elements of arrays that are several cells; fields of values. -/
import Derived.Test.YtfmekdmpghhegaaDoorLtS
import Derived.Test.YtfmekdmpghhegaaDoorLtP
namespace Go.Proofs.YtfmekdmpghhegaaDoor
set_option linter.all false
set_option maxRecDepth 4000
open Go.RowKit
section
variable {E : Env} {k : List It} {f : Fr} {h : Heap} {H : List Chunk} {st : Md} [hmd : OkMd st h H] {all : Array Oper} {rest : List Oper} {d : Nat} {ty : TypeId} {pos : String} {aft : Array Edge}
end
theorem G.anyKeep {E : Env} {k : List It} {f : Fr} {h : Heap} {H : List Chunk} (sl : Nat → Bool) {l0 : List Oper} {h0 : Heap} {H0 : List Chunk} {done done' idx : List Nat} {o : Oper} {l : List Oper} (hx : autoGo sl l0 0 done = some (o :: l, idx, done'))
    (hs : (Region.noSelect l0.toArray && takeOkC l0.toArray (l0.length - done.length) done idx) = true) (hh : Heap.le h0 h) (hs1 : SubH H0 H)
    (g : G E (.ops (.held h H0) l0.toArray (o :: l) :: .back h H :: .any h H0 l0.toArray done' :: k) f h H0) : G E (.any h0 H0 l0.toArray done :: k) f h H := by
  obtain ⟨p1, p2⟩ := autoGo_spec (l0 := l0) l0 0 done _ _ _ hx (fun j => by simp)
  exact G.anyTake p1 p2 hs hh (SubH.rfl_ _) hs1 g
end Go.Proofs.YtfmekdmpghhegaaDoor
