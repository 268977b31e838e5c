/- Names: folded types and prepared values, sorted; castellanref09.plain, Norm. -/
import Derived.Test.YtahpemfnhepgoaaDnL
import Derived.Sort.Walk0
namespace Go.Proofs.Ytahpemfnhepgoaa
set_option linter.all false
open Go.RowKit

section
variable {E : Env} {k : List It} {f : Fr} {h : Heap} {H : List Chunk} {st : Md} [hmd : OkMd st h H] {all : Array Oper} {rest : List Oper} {d : Nat} {ty : TypeId} {pos : String} {aft : Array Edge}
end
/-- The texts of its parts rise. -/
def RiseR (L : Rdn) : Prop := L.Pairwise fun a b => avaT a ≤ avaT b
/-- Rising, and the same parts: the sorted texts. -/
theorem rise_sort {L l : Rdn} (hp : L.Perm (l.map keyA)) (hr : RiseR L) : L.map avaT = sortM (l.map (fA true)) := by
  have e : (l.map keyA).map avaT = l.map (fA true) := by rw [List.map_map]; rfl
  have h1 : (L.map avaT).Perm (sortM (l.map (fA true))) := by
    rw [← e]
    exact (hp.map avaT).trans (List.mergeSort_perm _ _).symm
  have h2 : (L.map avaT).Pairwise fun a b => a ≤ b := by rw [List.pairwise_map]; exact hr
  have h3 : (sortM (l.map (fA true))).Pairwise fun a b => a ≤ b := by
    have := List.pairwise_mergeSort (le := fun (x y : List UInt8) => decide (x ≤ y)) (fun a b c h1 h2 => by simp only [decide_eq_true_eq] at *; exact List.le_trans h1 h2) (fun a b => by simp only [Bool.or_eq_true, decide_eq_true_eq]; exact List.le_total a b) (l.map (fA true))
    exact this.imp fun h => by simpa using h
  exact h1.eq_of_pairwise (fun a b _ _ h1 h2 => List.le_antisymm h1 h2) h2 h3
/-- The plain form of a name. -/
structure PlainD (d p : Dn) : Prop where
  same : p.map (fun l => l.map avaT) = d.map fun r => sortM (r.map (fA true))
  w : dnW p ≤ dnW d
theorem PlainD.text {d p : Dn} (h : PlainD d p) : txt false p = txt true d := by
  have e1 : p.map (fR false) = (p.map fun l => l.map avaT).map fun l => Lib.join l [43] := by rw [List.map_map]; rfl
  have e2 : d.map (fR true) = (d.map fun r => sortM (r.map (fA true))).map fun l => Lib.join l [43] := by rw [List.map_map]; rfl
  unfold txt
  rw [e1, e2, h.same]
end Go.Proofs.Ytahpemfnhepgoaa
