/- The reference's numbers: signed, Int, Number; TlvNumbers. -/
import Derived.Test.YtpcfnhjeacahdaaTlvM
import Derived.Test.YtpcfnhjeacahdaaTlvG
namespace Go.Proofs.Ytpcfnhjeacahdaa
set_option linter.all false
open Go.RowKit

theorem callNumber : Callable Try.prog 68 := ⟨_, Try.func68, by kernel_rfl, rfl⟩
theorem numOk_iff {s : List UInt8} (hs : 1 ≤ s.length ∧ s.length ≤ 8) : numOk s = decide (putB (IntKind.u64.wrap (tcV s)).toNat (intF (tcV s) 7 1) = s) := by
  have hok : getOk s 0 s.length = true := by unfold getOk; simp; omega
  unfold numOk
  rw [hok, numV_tc hs, Bool.true_and]
/-- A number's bytes are read as it. -/
theorem intF_fit {n : Int} (hn : inR .i64 n) : ∀ (f k : Nat), k + f = 8 → 1 ≤ k → (n / 2 ^ (8 * intF n f k - 1) = 0 ∨ n / 2 ^ (8 * intF n f k - 1) = -1)
  | 0, k, h, _ => by
    have hk : k = 8 := by omega
    subst hk
    simp only [inR] at hn
    simp only [intF, Nat.reduceMul, Nat.reduceSub, Int.reducePow]
    omega
  | f + 1, k, h, h1 => by
    rw [intF]
    split
    · exact intF_fit hn f (k + 1) (by omega) (by omega)
    · rename_i hc
      by_cases h0 : n / 2 ^ (8 * k - 1) = 0
      · exact .inl h0
      · exact .inr (Classical.byContradiction fun h2 => hc ⟨h0, h2⟩)
theorem int_back {n : Int} (hn : inR .i64 n) : numOk (putB (IntKind.u64.wrap n).toNat (intF n 7 1)) = true ∧ numV (putB (IntKind.u64.wrap n).toNat (intF n 7 1)) = n := by
  have hr := intF_range n 7 1
  have hl : 1 ≤ (putB (IntKind.u64.wrap n).toNat (intF n 7 1)).length ∧ (putB (IntKind.u64.wrap n).toNat (intF n 7 1)).length ≤ 8 := by rw [putB_length]; omega
  have ht : tcV (putB (IntKind.u64.wrap n).toNat (intF n 7 1)) = n := (tc_fit hn ⟨by omega, by omega⟩).2 (intF_fit hn 7 1 rfl (by omega))
  rw [numOk_iff hl, numV_tc hl, ht]
  exact ⟨by simp, rfl⟩

end Go.Proofs.Ytpcfnhjeacahdaa
