/- Names, in plain words: a key is its own key. -/
import Derived.Test.YtahpemfnhepgoaaDnQ
namespace Go.Proofs.Ytahpemfnhepgoaa
set_option linter.all false
open Go.RowKit

-- folded twice, prepared twice
theorem lowB_low (c : UInt8) : lowB (lowB c) = lowB c := by
  unfold lowB
  split
  · rename_i h
    have e : (UInt8.ofNat (c.toNat + 32)).toNat = c.toNat + 32 := by simp [UInt8.toNat_ofNat']; omega
    rw [if_neg (by rw [e]; omega)]
  · rfl
theorem foldM_fold (s : List UInt8) : foldM (foldM s) = foldM s := by
  unfold foldM; rw [List.map_map]; exact List.map_congr_left fun c _ => lowB_low c
theorem low_es : ∀ c : Fin 256, inN (lowN c.val) esB = inN c.val esB ∧ (lowN c.val = 0 ↔ c.val = 0) ∧ (lowN c.val = 32 ↔ c.val = 32) ∧ (lowN c.val = 35 ↔ c.val = 35) := by decide +kernel
theorem lowB_toNat (c : UInt8) : (lowB c).toNat = lowN c.toNat := by
  unfold lowB lowN
  split
  · have := c.toNat_lt; simp [UInt8.toNat_ofNat']; omega
  · rfl
theorem join_length (sep : List UInt8) : ∀ L : List (List UInt8), L ≠ [] → (Lib.join L sep).length + sep.length = (L.map fun x => x.length + sep.length).sum := by
  intro L hL
  cases L with
  | nil => exact absurd rfl hL
  | cons x r =>
    rw [Lib.join_cons, List.length_append, List.map_cons, List.sum_cons]
    have : (Lib.joinTail sep r).length = (r.map fun x => x.length + sep.length).sum := by
      induction r with
      | nil => rfl
      | cons y r ih => simp only [Lib.joinTail, List.map_cons, List.flatten_cons, List.length_append, List.sum_cons] at ih ⊢; rw [ih (by simp)]; omega
    omega
theorem low_let : ∀ c : Fin 256, isLet (lowN c.val : Nat) = isLet (c.val : Nat) ∧ isTc (lowN c.val : Nat) = isTc (c.val : Nat) := by decide +kernel
theorem typeM_fold (s : List UInt8) : typeM (foldM s) = typeM s := by
  unfold typeM
  rw [foldM_len]
  have h1 : isLet (byteAt (foldM s) 0) = isLet (byteAt s 0) := by
    by_cases h : 0 < s.length
    · rw [byteAt_fold h]
      exact (low_let ⟨byteAt s 0, byteAt_lt s 0⟩).1
    · have : s = [] := List.eq_nil_of_length_eq_zero (by omega)
      subst this; rfl
  have h2 : (foldM s).all (fun b => isTc b.toNat) = s.all fun b => isTc b.toNat := by
    unfold foldM
    rw [List.all_map]
    congr 1
    funext b
    simp only [Function.comp, lowB_toNat]
    exact (low_let ⟨b.toNat, b.toNat_lt⟩).2
  rw [h1, h2]
theorem print_of {d : Dn} (hc : chkM d = 0) (hl : (txt false d).length ≤ 4096) : printM d = (txt false d, 0) := by
  rw [printM_eq hc, if_neg (by omega)]
theorem norm_of {d : Dn} (hc : chkM d = 0) (hl : (txt false d).length ≤ 4096) : normM d = (txt true d, 0) := by
  unfold normM; rw [print_of hc hl, if_neg (by simp)]
end Go.Proofs.Ytahpemfnhepgoaa
