/- Rules of the light walk: more for drawn regions. -/
import Derived.Test.YtmbpjgjajedonaaGreatDoorLtQ
namespace Go.Proofs.YtmbpjgjajedonaaGreatDoor
set_option linter.all false
set_option maxRecDepth 4000
open Go.RowKit

theorem G.anyKeep {E : Env} {k : List It} {f : Fr} {h : Heap} {H : List Chunk} (sl : Nat -> Bool) {l0 : List Oper} {h0 : Heap} {H0 : List Chunk} {done done' idx : List Nat} {o : Oper} {l : List Oper} (hx : autoGo sl l0 0 done = some (o :: l, idx, done'))
    (hs : (Region.noSelect l0.toArray && takeOkC l0.toArray (l0.length - done.length) done idx) = true) (hh : Heap.le h0 h) (hs1 : SubH H0 H)
    (g : G E (.ops (.held h H0) l0.toArray (o :: l) :: .back h H :: .any h H0 l0.toArray done' :: k) f h H0) : G E (.any h0 H0 l0.toArray done :: k) f h H := by
  obtain ⟨p1, p2⟩ := autoGo_spec (l0 := l0) l0 0 done _ _ _ hx (fun j => by simp)
  exact G.anyTake p1 p2 hs hh (SubH.rfl_ _) hs1 g

def noMem : Op -> Bool
  | .load _ _ | .indexAddr _ _ _ | .index _ _ _ => false
  | _ => true
def autoGo2 (sl : Nat -> Bool) : List Oper -> Nat -> List Nat -> Option (List Oper × List Nat × List Nat)
  | [], _, done => some ([], [], done)
  | o :: r, i, done => bif pureOp sl o.op && noMem o.op && !inL i done && edgesIn done o.after.toList then (match autoGo2 sl r (i + 1) (i :: done) with
      | some (l, idx, d) => some (o :: l, i :: idx, d)
      | none => none) else autoGo2 sl r (i + 1) done
theorem autoGo2_spec {sl : Nat -> Bool} {l0 : List Oper} : ∀ (r : List Oper) (i : Nat) (done : List Nat) (l : List Oper) (idx d : List Nat), autoGo2 sl r i done = some (l, idx, d) -> (∀ j, r[j]? = l0[i + j]?) →
    idx.mapM (fun i => l0[i]?) = some l /\ d = idx.reverse ++ done
  | [], i, done, l, idx, d, h, _ => by
    simp only [autoGo2, Option.some.injEq, Prod.mk.injEq] at h
    obtain ⟨rfl, rfl, rfl⟩ := h
    simp
  | o :: r, i, done, l, idx, d, h, hr => by
    have hr' : ∀ j, r[j]? = l0[i + 1 + j]? := fun j => by rw [show i + 1 + j = i + (j + 1) by omega, ← hr (j + 1)]; simp
    have h0 : l0[i]? = some o := by rw [<- Nat.add_zero i, ← hr 0]; rfl
    simp only [autoGo2] at h
    cases hc : (pureOp sl o.op && noMem o.op && !inL i done && edgesIn done o.after.toList) with
    | true =>
      rw [hc] at h
      simp only [cond_true] at h
      split at h
      . rename_i l1 idx1 d1 h1
        simp only [Option.some.injEq, Prod.mk.injEq] at h
        obtain ⟨rfl, rfl, rfl⟩ := h
        obtain ⟨q1, q2⟩ := autoGo2_spec r (i + 1) (i :: done) _ _ _ h1 hr'
        refine ⟨?_, ?_⟩
        . simp [List.mapM_cons, h0, q1]
        . rw [q2]; simp
      . cases h
    | false =>
      rw [hc] at h
      simp only [cond_false] at h
      exact autoGo2_spec r (i + 1) done _ _ _ h hr'
theorem G.anyPure {E : Env} {k : List It} {f : Fr} {h : Heap} {H : List Chunk} (sl : Nat -> Bool) {l0 : List Oper} {h0 : Heap} {done done' idx : List Nat} {o : Oper} {l : List Oper} (hx : autoGo2 sl l0 0 done = some (o :: l, idx, done'))
    (hs : (Region.noSelect l0.toArray && takeOkC l0.toArray (l0.length - done.length) done idx) = true) (hh : Heap.le h0 h)
    (g : G E (.ops (.held h []) l0.toArray (o :: l) :: .back h H :: .any h [] l0.toArray done' :: k) f h []) : G E (.any h0 [] l0.toArray done :: k) f h H := by
  obtain ⟨p1, p2⟩ := autoGo2_spec (l0 := l0) l0 0 done _ _ _ hx (fun j => by simp)
  exact G.anyTake p1 p2 hs hh (SubH.nil _) (SubH.nil _) g
theorem G.anyOneX {E : Env} {k : List It} {f : Fr} {h : Heap} {H : List Chunk} {l0 : List Oper} {h0 : Heap} {H0 : List Chunk} {done : List Nat} {i0 i : Nat} {o : Oper} (ho : rdyL l0 0 (i0 :: done) = some [(i, o)])
    (hr : (Nat.blt (i0 :: done).length l0.length && (Region.ready .any l0.toArray (lst l0.length (i0 :: done)) == [i]) && sinkOp l0.toArray i0) = true)
    (g : G E (.ops .seq l0.toArray [o] :: .any h0 H0 l0.toArray (i :: i0 :: done) :: k) f h H) : G E (.any h0 H0 l0.toArray (i0 :: done) :: k) f h H := by
  rw [Bool.and_eq_true, Bool.and_eq_true] at hr
  have ho' := rdyL_spec (l0 := l0) l0 0 (i0 :: done) _ ho (fun j => by simp) (i, o) (by simp)
  refine ⟨fun a w ha hw => ⟨fun e => (by rw [hr.2] at e; cases e), ?_⟩⟩
  have hf := fuel_step (n := l0.toArray.size) (done := i0 :: done) (i := i) (by simpa using hr.1.1)
  rw [hf]
  refine wpAnyS_all (rs := [i]) (by simpa using hr.1.2) (by simp) fun j hj => ?_
  simp at hj
  subst hj
  exact any_step (by simpa using ho') (g.run a w ha hw)
end Go.Proofs.YtmbpjgjajedonaaGreatDoor
