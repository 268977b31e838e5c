/- Plain laws of numbers in two's complement. -/
import Derived.Test.YtpcfnhjeacahdaaTlvB
import Derived.Test.YtpcfnhjeacahdaaTlvR
namespace Go.Proofs.Ytpcfnhjeacahdaa
set_option linter.all false
open Go.RowKit

theorem beN_cons (b : UInt8) (l : List UInt8) : beN (b :: l) = b.toNat * 256 ^ l.length + beN l := by
  have : ∀ (l : List UInt8) (n : Nat), l.foldl (fun n c => n * 256 + c.toNat) n = n * 256 ^ l.length + l.foldl (fun n c => n * 256 + c.toNat) 0 := by
    intro l
    induction l with
    | nil => intro n; simp
    | cons c l ih =>
      intro n
      simp only [List.foldl_cons, List.length_cons]
      rw [ih (n * 256 + c.toNat), ih (0 * 256 + c.toNat), Nat.pow_succ, Nat.add_mul, Nat.zero_mul, Nat.zero_add, Nat.mul_assoc, Nat.mul_comm 256, Nat.add_assoc]
  have h := this l b.toNat
  simp only [beN, List.foldl_cons, Nat.zero_mul, Nat.zero_add]
  exact h
theorem beN_putB (n : Nat) : ∀ k, beN (putB n k) = n % 256 ^ k
  | 0 => by simp [putB, beN, Nat.mod_one]
  | k + 1 => by
    rw [putB, beN_cons, beN_putB n k, putB_length, UInt8.toNat_ofNat']
    have h1 : n % 256 ^ (k + 1) = (n / 256 ^ k % 256) * 256 ^ k + n % 256 ^ k := by
      rw [Nat.pow_succ, Nat.mod_mul, Nat.add_comm, Nat.mul_comm]
    rw [h1]
end Go.Proofs.Ytpcfnhjeacahdaa
