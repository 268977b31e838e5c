/- Plain laws of numbers in two's complement. -/
import Derived.Test.YtpcfnhjeacahdaaTlvB
import Derived.Test.YtpcfnhjeacahdaaTlvR
namespace Go.Proofs.Ytpcfnhjeacahdaa
set_option linter.all false
open Go.RowKit

/-- The number of bytes in two's complement. -/
def tcV (s : List UInt8) : Int := if byteAt s 0 < 128 then beN s else beN s - 256 ^ s.length
theorem beN_cons (b : UInt8) (l : List UInt8) : beN (b :: l) = b.toNat * 256 ^ l.length + beN l := by
  have : ∀ (l : List UInt8) (n : Nat), l.foldl (fun n c => n * 256 + c.toNat) n = n * 256 ^ l.length + l.foldl (fun n c => n * 256 + c.toNat) 0 := by
    intro l
    induction l with
    | nil => intro n; simp
    | cons c l ih =>
      intro n
      simp only [List.foldl_cons, List.length_cons]
      rw [ih (n * 256 + c.toNat), ih (0 * 256 + c.toNat), Nat.pow_succ, Nat.add_mul, Nat.zero_mul, Nat.zero_add, Nat.mul_assoc, Nat.mul_comm 256, Nat.add_assoc]
  have h := this l b.toNat
  simp only [beN, List.foldl_cons, Nat.zero_mul, Nat.zero_add]
  exact h
theorem beN_putB (n : Nat) : ∀ k, beN (putB n k) = n % 256 ^ k
  | 0 => by simp [putB, beN, Nat.mod_one]
  | k + 1 => by
    rw [putB, beN_cons, beN_putB n k, putB_length, UInt8.toNat_ofNat']
    have h1 : n % 256 ^ (k + 1) = (n / 256 ^ k % 256) * 256 ^ k + n % 256 ^ k := by
      rw [Nat.pow_succ, Nat.mod_mul, Nat.add_comm, Nat.mul_comm]
    rw [h1]
theorem byteAt_cons (b : UInt8) (l : List UInt8) : byteAt (b :: l) 0 = b.toNat := by simp [byteAt]
theorem putB_byte (n k : Nat) : byteAt (putB n (k + 1)) 0 = n / 256 ^ k % 256 := by
  rw [putB, byteAt_cons, UInt8.toNat_ofNat']
theorem tc_putB (n k : Nat) : tcV (putB n (k + 1)) = if n / 256 ^ k % 256 < 128 then ((n % 256 ^ (k + 1) : Nat) : Int) else ((n % 256 ^ (k + 1) : Nat) : Int) - ((256 ^ (k + 1) : Nat) : Int) := by
  unfold tcV
  rw [putB_byte, beN_putB, putB_length]
  simp

theorem u64wrap (n : Int) : IntKind.u64.wrap n = n % 18446744073709551616 := by
  simp only [IntKind.wrap, IntKind.bits, IntKind.signed]; simp
/-- How many bytes it takes. -/
theorem tc_fit {n : Int} (hn : inR .i64 n) {k : Nat} (hk : 1 ≤ k ∧ k ≤ 8) : tcV (putB (IntKind.u64.wrap n).toNat k) = n ↔ (n / 2 ^ (8 * k - 1) = 0 ∨ n / 2 ^ (8 * k - 1) = -1) := by
  simp only [inR] at hn
  rw [u64wrap]
  obtain ⟨m, hm⟩ : ∃ m : Nat, (n % 18446744073709551616).toNat = m := ⟨_, rfl⟩
  have hmn : (m : Int) = n % 18446744073709551616 := by omega
  rw [hm]
  obtain ⟨h1, h2⟩ := hk
  have : k = 1 ∨ k = 2 ∨ k = 3 ∨ k = 4 ∨ k = 5 ∨ k = 6 ∨ k = 7 ∨ k = 8 := by omega
  rcases this with rfl | rfl | rfl | rfl | rfl | rfl | rfl | rfl
  all_goals
    rw [tc_putB]
    simp only [Nat.reduceAdd, Nat.reducePow, Nat.reduceMul, Nat.reduceSub, Int.reducePow]
    split <;> omega

theorem numV_tc {s : List UInt8} (hs : 1 ≤ s.length ∧ s.length ≤ 8) : numV s = tcV s := by
  have hok : getOk s 0 s.length = true := by unfold getOk; simp; omega
  have hv : getV s 0 s.length = beN s := by
    unfold getV; rw [hok]; simp
  unfold numV
  rw [hv]
  cases s with
  | nil => simp at hs
  | cons b l =>
    have hb := b.toNat_lt
    have hl := beN_lt l
    unfold tcV
    rw [byteAt_cons, beN_cons]
    simp only [List.length_cons] at *
    generalize hx : beN l = x at *
    generalize b.toNat = c at *
    have : l.length = 0 ∨ l.length = 1 ∨ l.length = 2 ∨ l.length = 3 ∨ l.length = 4 ∨ l.length = 5 ∨ l.length = 6 ∨ l.length = 7 := by omega
    rcases this with h | h | h | h | h | h | h | h
    all_goals
      rw [h] at hl ⊢
      simp only [IntKind.wrap, IntKind.bits, IntKind.signed]
      simp only [Nat.reduceAdd, Nat.reducePow, Nat.reduceMul, Nat.reduceSub, Int.reducePow] at hl ⊢
      simp
      split <;> split <;> omega
end Go.Proofs.Ytpcfnhjeacahdaa
