/- Names: castellanref09.value. -/
import Derived.Test.YtahpemfnhepgoaaDnC
namespace Go.Proofs.Ytahpemfnhepgoaa
set_option linter.all false
open Go.RowKit

theorem inZ_two (c : Nat) : 0 ≤ inZ c [32, 35] ↔ (c = 32 ∨ c = 35) := by
  have h := inZ_bool c [32, 35]
  by_cases h2 : c = 32 ∨ c = 35
  · have h3 : inN c [32, 35] = true := by unfold inN; simp; rcases h2 with h | h <;> simp [h]
    rw [h3] at h
    have := of_decide_eq_true h.symm
    simp [h2, this]
  · have h3 : inN c [32, 35] = false := by unfold inN; simp; omega
    rw [h3] at h
    have := of_decide_eq_false h.symm
    simp [h2, this]
end Go.Proofs.Ytahpemfnhepgoaa
