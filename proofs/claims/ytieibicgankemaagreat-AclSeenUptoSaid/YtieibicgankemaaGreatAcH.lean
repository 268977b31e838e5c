/- The laws of rules: AclChecks, AclMays, AclNil. -/
import Derived.Test.YtieibicgankemaaGreatAcG
namespace Go.Proofs.YtieibicgankemaaGreat
set_option linter.all false
set_option maxRecDepth 4000
open Go.RowKit

theorem acl_NewO {a : Dn} {rs : List Rl} {l : List RlD} (hm : newM (tyN coreT) a rs = .ok l) (v1 vR vT vC : Value) (hrb : RlB rs) (h0 : dnW a ≤ 10000000) (h : Heap) (hS : HSl h vT 4 (tyR coreT)) (hA : DnC h a v1) (hR : HSl h vR 6 (rlR rs)) :
    Spec Tryz.prog 4 [.agg #[vT, vC], v1, vR] h [] (fun u h' H' => (∃ g, u = .tuple #[.pointer (some ⟨g, 0, none⟩), .int .i64 0] ∧ BookC h' a l g) ∧ H' = []) := by
  have := acl_New coreT coreT_ok a rs vT vC v1 vR hrb h0 h hS hA hR
  rw [hm] at this
  exact this
theorem acl_NewN {a : Dn} {rs : List Rl} {e : Int} (hm : newM (tyN coreT) a rs = .error e) (v1 vR vT vC : Value) (hrb : RlB rs) (h0 : dnW a ≤ 10000000) (h : Heap) (hS : HSl h vT 4 (tyR coreT)) (hA : DnC h a v1) (hR : HSl h vR 6 (rlR rs)) :
    Spec Tryz.prog 4 [.agg #[vT, vC], v1, vR] h [] (fun u h' H' => u = .tuple #[.pointer none, .int .i64 e] ∧ H' = []) := by
  have := acl_New coreT coreT_ok a rs vT vC v1 vR hrb h0 h hS hA hR
  rw [hm] at this
  exact this.mono (fun u h' H' x _ => ⟨x.1.1, x.2⟩)
theorem new_err {T : List (List UInt8)} {a : Dn} {rs : List Rl} {e : Int} (hm : newM T a rs = .error e) : e ≠ 0 := by
  unfold newM at hm
  split at hm
  · injection hm with hm; omega
  · rename_i hp
    clear hp
    induction rs with
    | nil => cases hm
    | cons r rs ih =>
      rw [rusM] at hm
      rcases ru_ways T r with ⟨w1, wr⟩ | ⟨w1, e, hd, wr⟩ | ⟨w1, d, hd, w2, wr⟩ | ⟨w1, d, hd, w2, e, hw, wr⟩ | ⟨w1, d, hd, w2, w, hw, w3, wr⟩ | ⟨w1, d, hd, w2, w, hw, w3, w4, wr⟩ | ⟨w1, d, hd, w2, w, hw, w3, w4, wr⟩
      · rw [wr] at hm; simp only [Except.error.injEq] at hm; omega
      · rw [wr] at hm; simp only [Except.error.injEq] at hm; have := parse_err hd; omega
      · rw [wr] at hm; simp only [Except.error.injEq] at hm; omega
      · rw [wr] at hm; simp only [Except.error.injEq] at hm; have := parse_err hw; omega
      · rw [wr] at hm; simp only [Except.error.injEq] at hm; omega
      · rw [wr] at hm; simp only [Except.error.injEq] at hm; omega
      · rw [wr] at hm
        simp only at hm
        cases hr : rusM T rs with
        | error e2 => rw [hr] at hm; simp only [Except.error.injEq] at hm; subst hm; exact ih hr
        | ok l => rw [hr] at hm; cases hm
theorem new_rus {T : List (List UInt8)} {a : Dn} {rs : List Rl} {l : List RlD} (hm : newM T a rs = .ok l) : (printM a).2 = 0 ∧ rusM T rs = .ok l := by
  unfold newM at hm
  split at hm
  · cases hm
  · exact ⟨by omega, hm⟩
end Go.Proofs.YtieibicgankemaaGreat
