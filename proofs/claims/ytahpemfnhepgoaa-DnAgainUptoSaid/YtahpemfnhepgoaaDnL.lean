/- Names: castellanref09.Print. -/
import Derived.Test.YtahpemfnhepgoaaDnJ
import Derived.Test.YtahpemfnhepgoaaLtQ
namespace Go.Proofs.Ytahpemfnhepgoaa
set_option linter.all false
open Go.RowKit

def szA (a : List UInt8 × List UInt8) : Nat := min a.2.length 5000
def szR (r : Rdn) : Nat := (r.map szA).sum
def szD (d : Dn) : Nat := (d.map szR).sum
theorem joinTail_ge (sep : List UInt8) (r : List (List UInt8)) : (r.map List.length).sum ≤ (Lib.joinTail sep r).length := by
  induction r with
  | nil => simp [Lib.joinTail]
  | cons y r ih => simp only [Lib.joinTail, List.map_cons, List.flatten_cons, List.length_append, List.sum_cons] at ih ⊢; omega
theorem join_ge (sep : List UInt8) (L : List (List UInt8)) : (L.map List.length).sum ≤ (Lib.join L sep).length := by
  cases L with
  | nil => simp [Lib.join_nil]
  | cons x r => rw [Lib.join_cons, List.length_append, List.map_cons, List.sum_cons]; have := joinTail_ge sep r; omega
theorem fR_ge (r : Rdn) : szR r ≤ (fR false r).length := by
  refine Nat.le_trans ?_ (join_ge [43] (r.map (fA false)))
  rw [List.map_map]
  exact sum_le _ _ _ fun a _ => by have := (wrM_len a.2).1; simp only [szA, Function.comp, fA, avaT, Bool.false_eq_true, if_false, List.length_append]; omega
theorem txt_ge (d : Dn) : szD d ≤ (txt false d).length := by
  refine Nat.le_trans ?_ (join_ge [44] (d.map (fR false)))
  rw [List.map_map]
  exact sum_le _ _ _ fun r _ => fR_ge r
theorem long_sz {d : Dn} (h : longB d = true) : 4096 < szD d := by
  unfold longB longR at h
  rw [List.any_eq_true] at h
  obtain ⟨r, hr, h⟩ := h
  rw [List.any_eq_true] at h
  obtain ⟨a, ha, h⟩ := h
  have h := of_decide_eq_true h
  have h1 : szA a ≤ szR r := mem_le_sum szA r a ha
  have h2 : szR r ≤ szD d := mem_le_sum szR d r hr
  unfold szA at h1
  omega
theorem printM_eq {d : Dn} (hc : chkM d = 0) : printM d = if 4096 < (txt false d).length then ([], 5) else (txt false d, 0) := by
  unfold printM
  rw [if_neg (by rw [hc]; simp)]
  by_cases h : longB d = true
  · rw [if_pos h, if_pos (by have := long_sz h; have := txt_ge d; omega)]
  · rw [if_neg h]
end Go.Proofs.Ytahpemfnhepgoaa
