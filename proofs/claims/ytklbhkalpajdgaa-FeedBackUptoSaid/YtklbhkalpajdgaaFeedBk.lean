/- FeedBack. -/
import Derived.Test.YtklbhkalpajdgaaFeed
import Derived.Test.YtklbhkalpajdgaaTlvV
import Derived.Test.YtklbhkalpajdgaaTlvT
namespace Go.Proofs.Ytklbhkalpajdgaa
set_option linter.all false
open Go.RowKit

theorem cut_bnd {s : List UInt8} {n m : Int} (h0 : byteAt s 0 = 48) (hb : bndM s = (n, m, 0)) (hl : n + m ≤ s.length) : cutM s = (n + m, 0) := by
  unfold bndM at hb
  simp only at hb
  split at hb
  · simp only [Prod.mk.injEq] at hb; omega
  · rename_i c1
    unfold cutM
    simp only
    rw [if_neg (by omega), if_neg (by omega), if_neg (by omega)]
    split at hb
    · rename_i c2
      simp only [Prod.mk.injEq] at hb; obtain ⟨e1, e2, _⟩ := hb
      rw [if_pos c2, if_neg (by omega)]
      refine Prod.ext ?_ rfl
      simp only; omega
    · rename_i c2
      rw [if_neg c2]
      split at hb
      · simp only [Prod.mk.injEq] at hb; omega
      · rename_i c3
        rw [if_neg c3]
        split at hb
        · simp only [Prod.mk.injEq] at hb; omega
        · rename_i c4
          rw [if_neg c4]
          split at hb
          · simp only [Prod.mk.injEq] at hb; omega
          · rename_i c5
            simp only [Prod.mk.injEq] at hb; obtain ⟨e1, e2, _⟩ := hb
            rw [if_neg c5, if_neg (by omega)]
            refine Prod.ext ?_ rfl
            simp only; omega
/-- A message: what comes behind is not looked at. -/
def Msg (w : List UInt8) : Prop := 0 < w.length ∧ ∀ t, cutM (w ++ t) = ((w.length : Int), 0)
theorem msg_put {ks : List Nd} (h : (putM 1 (.mk 48 [] ks)).2 = 0) : Msg (putM 1 (.mk 48 [] ks)).1 := by
  obtain ⟨h1, h2, h3, h4, _, _, _, h8, h9⟩ := putM_ok h
  refine ⟨by have := putM_pos h; omega, fun t => ?_⟩
  rw [h9, List.append_assoc]
  have hb := bnd_head 48 _ h8 (([] : List UInt8) ++ (putsM (1 + 1) ks).1 ++ t)
  rw [cut_bnd (head_byte 48 _ ⟨by omega, by omega⟩ _) hb (by simp only [List.length_append]; omega)]
  refine Prod.ext ?_ rfl
  simp only [List.length_append]; omega
theorem flatten_cons (w : List UInt8) (ws : List (List UInt8)) : (w :: ws).flatten = w ++ ws.flatten := rfl
theorem drop_one {ws : List (List UInt8)} {i : Nat} (h : i < ws.length) : (ws.drop i).flatten = ws[i] ++ (ws.drop (i + 1)).flatten := by
  rw [List.drop_eq_getElem_cons h]; rfl
end Go.Proofs.Ytklbhkalpajdgaa
