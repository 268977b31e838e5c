/- Package page: what a control says. -/
import Derived.Test.YtpcfnhjeacahdaaPgF
namespace Go.Proofs.Ytpcfnhjeacahdaa
set_option linter.all false
open Go.RowKit

/-- What these bytes say as a control. -/
def askM (s : List UInt8) : Int × List UInt8 × Bool :=
  match who s with
  | (.mk t _ [.mk t0 d0 _, .mk t1 d1 _], e) => if e = 0 ∧ t = 48 ∧ t0 = 2 ∧ t1 = 4 ∧ numOk d0 = true ∧ 0 ≤ numV d0 ∧ numV d0 ≤ 2147483647 then (numV d0, d1, true) else (0, [], false)
  | _ => (0, [], false)
theorem ansM_ok {n : Int} {c : List UInt8} (hn : 0 ≤ n ∧ n ≤ 2147483647) (hc : c.length ≤ 1000000) : (putM 1 (ansN n c)).2 = 0 := by
  have hl := intB_len n
  have k1 : putM 2 (.mk 2 (intB n) []) = (headB 2 (intB n ++ []).length ++ (intB n ++ []), 0) := by
    rw [putM, if_neg (by decide), if_neg (by decide), if_neg (by simp), if_neg (by simp [putsM]), if_neg (by simp [putsM]; omega)]
    simp [putsM]
  have k2 : putM 2 (.mk 4 c []) = (headB 4 (c ++ []).length ++ (c ++ []), 0) := by
    rw [putM, if_neg (by decide), if_neg (by decide), if_neg (by simp), if_neg (by simp [putsM]), if_neg (by simp [putsM]; omega)]
    simp [putsM]
  have h1 := headB_len 2 (intB n ++ []).length
  have h2 := headB_len 4 (c ++ []).length
  unfold ansN
  rw [putM, if_neg (by decide), if_neg (by decide), if_neg (by simp)]
  have e : putsM (1 + 1) [.mk 2 (intB n) [], .mk 4 c []] = ((headB 2 (intB n ++ []).length ++ (intB n ++ [])) ++ ((headB 4 (c ++ []).length ++ (c ++ [])) ++ []), 0) := by
    have e0 : putsM 2 [] = ([], 0) := by rw [putsM]
    have e1 : putsM 2 [.mk 4 c []] = ((headB 4 (c ++ []).length ++ (c ++ [])) ++ [], 0) := by
      rw [putsM, k2, if_neg (by simp), e0, if_neg (by simp)]
    rw [show (1 : Int) + 1 = 2 from rfl, putsM, k1, if_neg (by simp), e1, if_neg (by simp)]
  rw [e, if_neg (by simp), if_neg (by simp only [List.length_append, List.length_nil, List.append_nil] at *; omega)]
theorem who_put {a : Nd} (h : (putM 1 a).2 = 0) : who (putM 1 a).1 = (a, 0) := by
  have e := par_put h []
  rw [List.append_nil] at e
  unfold who
  rw [e]
  rfl
theorem ask_ans {n : Int} {c : List UInt8} (hn : 0 ≤ n ∧ n ≤ 2147483647) (hc : c.length ≤ 1000000) : askM (ansM n c) = (n, c, true) := by
  unfold ansM
  rw [if_neg (by omega)]
  unfold askM
  rw [who_put (ansM_ok hn hc)]
  have hi : inR .i64 n := by simp only [inR]; omega
  obtain ⟨i1, i2⟩ := int_back hi
  simp only [ansN]
  rw [if_pos]
  · unfold intB; rw [i2]
  · unfold intB; rw [i2]; simp only [i1, hn.1, hn.2, and_self]
end Go.Proofs.Ytpcfnhjeacahdaa
