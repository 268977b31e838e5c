/- Package page: what a control says. -/
import Derived.Test.YtpcfnhjeacahdaaPgF
namespace Go.Proofs.Ytpcfnhjeacahdaa
set_option linter.all false
open Go.RowKit

/-- What these bytes say as a control. -/
def askM (s : List UInt8) : Int × List UInt8 × Bool :=
  match who s with
  | (.mk t _ [.mk t0 d0 _, .mk t1 d1 _], e) => if e = 0 ∧ t = 48 ∧ t0 = 2 ∧ t1 = 4 ∧ numOk d0 = true ∧ 0 ≤ numV d0 ∧ numV d0 ≤ 2147483647 then (numV d0, d1, true) else (0, [], false)
  | _ => (0, [], false)
theorem ansM_ok {n : Int} {c : List UInt8} (hn : 0 ≤ n ∧ n ≤ 2147483647) (hc : c.length ≤ 1000000) : (putM 1 (ansN n c)).2 = 0 := by
  have hl := intB_len n
  have k1 : putM 2 (.mk 2 (intB n) []) = (headB 2 (intB n ++ []).length ++ (intB n ++ []), 0) := by
    rw [putM, if_neg (by decide), if_neg (by decide), if_neg (by simp), if_neg (by simp [putsM]), if_neg (by simp [putsM]; omega)]
    simp [putsM]
  have k2 : putM 2 (.mk 4 c []) = (headB 4 (c ++ []).length ++ (c ++ []), 0) := by
    rw [putM, if_neg (by decide), if_neg (by decide), if_neg (by simp), if_neg (by simp [putsM]), if_neg (by simp [putsM]; omega)]
    simp [putsM]
  have h1 := headB_len 2 (intB n ++ []).length
  have h2 := headB_len 4 (c ++ []).length
  unfold ansN
  rw [putM, if_neg (by decide), if_neg (by decide), if_neg (by simp)]
  have e : putsM (1 + 1) [.mk 2 (intB n) [], .mk 4 c []] = ((headB 2 (intB n ++ []).length ++ (intB n ++ [])) ++ ((headB 4 (c ++ []).length ++ (c ++ [])) ++ []), 0) := by
    have e0 : putsM 2 [] = ([], 0) := by rw [putsM]
    have e1 : putsM 2 [.mk 4 c []] = ((headB 4 (c ++ []).length ++ (c ++ [])) ++ [], 0) := by
      rw [putsM, k2, if_neg (by simp), e0, if_neg (by simp)]
    rw [show (1 : Int) + 1 = 2 from rfl, putsM, k1, if_neg (by simp), e1, if_neg (by simp)]
  rw [e, if_neg (by simp), if_neg (by simp only [List.length_append, List.length_nil, List.append_nil] at *; omega)]
theorem who_put {a : Nd} (h : (putM 1 a).2 = 0) : who (putM 1 a).1 = (a, 0) := by
  have e := par_put h []
  rw [List.append_nil] at e
  unfold who
  rw [e]
  rfl
theorem put_bad {d : Int} {a : Nd} (h : (putM d a).2 ≠ 0) : (putM d a).1 = [] := by
  cases a with
  | mk t data ks =>
    rw [putM] at h ⊢
    split at h
    · rename_i c; rw [if_pos c]
    · rename_i c1
      rw [if_neg c1]
      split at h
      · rename_i c; rw [if_pos c]
      · rename_i c2
        rw [if_neg c2]
        split at h
        · rename_i c; rw [if_pos c]
        · rename_i c3
          rw [if_neg c3]
          split at h
          · rename_i c; rw [if_pos c]
          · rename_i c4
            rw [if_neg c4]
            split at h
            · rename_i c; rw [if_pos c]
            · exact absurd rfl h
theorem put_inj {a b : Nd} (ha : (putM 1 a).2 = 0) (h : (putM 1 a).1 = (putM 1 b).1) : a = b := by
  have hp := putM_pos ha
  have hb : (putM 1 b).2 = 0 := by
    rcases Int.decEq (putM 1 b).2 0 with h0 | h0
    · exfalso
      have : (putM 1 b).1 = [] := put_bad h0
      rw [h, this] at hp
      simp at hp
    · exact h0
  have e1 := who_put ha
  rw [h, who_put hb] at e1
  injection e1 with e1
  exact e1.symm
end Go.Proofs.Ytpcfnhjeacahdaa
