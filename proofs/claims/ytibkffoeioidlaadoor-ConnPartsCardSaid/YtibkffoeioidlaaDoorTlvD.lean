/- Plain laws of numbers in two's complement. -/
import Derived.Test.YtibkffoeioidlaaDoorTlvR
import Derived.Test.YtibkffoeioidlaaDoorTlvQ
import Derived.Test.YtibkffoeioidlaaDoorWrE
import Derived.KernelRfl
namespace Go.Proofs.YtibkffoeioidlaaDoor
set_option linter.all false
set_option maxRecDepth 4000
open Go.RowKit

def tcV (s : List UInt8) : Int := if byteAt s 0 < 128 then beN s else beN s - 256 ^ s.length
theorem beN_cons (b : UInt8) (l : List UInt8) : beN (b :: l) = b.toNat * 256 ^ l.length + beN l := by
  have : ∀ (l : List UInt8) (n : Nat), l.foldl (fun n c => n * 256 + c.toNat) n = n * 256 ^ l.length + l.foldl (fun n c => n * 256 + c.toNat) 0 := by
    intro l
    induction l with
    | nil => intro n; simp
    | cons c l ih =>
      intro n
      simp only [List.foldl_cons, List.length_cons]
      rw [ih (n * 256 + c.toNat), ih (0 * 256 + c.toNat), Nat.pow_succ, Nat.add_mul, Nat.zero_mul, Nat.zero_add, Nat.mul_assoc, Nat.mul_comm 256, Nat.add_assoc]
  have h := this l b.toNat
  simp only [beN, List.foldl_cons, Nat.zero_mul, Nat.zero_add]
  exact h
theorem beN_putB (n : Nat) : ∀ k, beN (putB n k) = n % 256 ^ k
  | 0 => by simp [putB, beN, Nat.mod_one]
  | k + 1 => by
    rw [putB, beN_cons, beN_putB n k, putB_length, UInt8.toNat_ofNat']
    have h1 : n % 256 ^ (k + 1) = (n / 256 ^ k % 256) * 256 ^ k + n % 256 ^ k := by
      rw [Nat.pow_succ, Nat.mod_mul, Nat.add_comm, Nat.mul_comm]
    rw [h1]
theorem byteAt_cons (b : UInt8) (l : List UInt8) : byteAt (b :: l) 0 = b.toNat := by simp [byteAt]
theorem putB_byte (n k : Nat) : byteAt (putB n (k + 1)) 0 = n / 256 ^ k % 256 := by
  rw [putB, byteAt_cons, UInt8.toNat_ofNat']
theorem tc_putB (n k : Nat) : tcV (putB n (k + 1)) = if n / 256 ^ k % 256 < 128 then ((n % 256 ^ (k + 1) : Nat) : Int) else ((n % 256 ^ (k + 1) : Nat) : Int) - ((256 ^ (k + 1) : Nat) : Int) := by
  unfold tcV
  rw [putB_byte, beN_putB, putB_length]
  simp

theorem u64wrap (n : Int) : IntKind.u64.wrap n = n % 18446744073709551616 := by
  simp only [IntKind.wrap, IntKind.bits, IntKind.signed]; simp
theorem tc_fit {n : Int} (hn : inR .i64 n) {k : Nat} (hk : 1 ≤ k ∧ k ≤ 8) : tcV (putB (IntKind.u64.wrap n).toNat k) = n ↔ (n / 2 ^ (8 * k - 1) = 0 ∨ n / 2 ^ (8 * k - 1) = -1) := by
  simp only [inR] at hn
  rw [u64wrap]
  obtain ⟨m, hm⟩ : ∃ m : Nat, (n % 18446744073709551616).toNat = m := ⟨_, rfl⟩
  have hmn : (m : Int) = n % 18446744073709551616 := by omega
  rw [hm]
  obtain ⟨h1, h2⟩ := hk
  have : k = 1 ∨ k = 2 ∨ k = 3 ∨ k = 4 ∨ k = 5 ∨ k = 6 ∨ k = 7 ∨ k = 8 := by omega
  rcases this with rfl | rfl | rfl | rfl | rfl | rfl | rfl | rfl
  all_goals
    rw [tc_putB]
    simp only [Nat.reduceAdd, Nat.reducePow, Nat.reduceMul, Nat.reduceSub, Int.reducePow]
    split <;> omega

theorem numV_tc {s : List UInt8} (hs : 1 ≤ s.length ∧ s.length ≤ 8) : numV s = tcV s := by
  have hok : getOk s 0 s.length = true := by unfold getOk; simp; omega
  have hv : getV s 0 s.length = beN s := by
    unfold getV; rw [hok]; simp
  unfold numV
  rw [hv]
  cases s with
  | nil => simp at hs
  | cons b l =>
    have hb := b.toNat_lt
    have hl := beN_lt l
    unfold tcV
    rw [byteAt_cons, beN_cons]
    simp only [List.length_cons] at *
    generalize hx : beN l = x at *
    generalize b.toNat = c at *
    have : l.length = 0 ∨ l.length = 1 ∨ l.length = 2 ∨ l.length = 3 ∨ l.length = 4 ∨ l.length = 5 ∨ l.length = 6 ∨ l.length = 7 := by omega
    rcases this with h | h | h | h | h | h | h | h
    all_goals
      rw [h] at hl ⊢
      simp only [IntKind.wrap, IntKind.bits, IntKind.signed]
      simp only [Nat.reduceAdd, Nat.reducePow, Nat.reduceMul, Nat.reduceSub, Int.reducePow] at hl ⊢
      simp
      split <;> split <;> omega
end Go.Proofs.YtibkffoeioidlaaDoor
namespace Go.Proofs.YtibkffoeioidlaaDoor
set_option linter.all false
set_option maxRecDepth 4000
open Go.RowKit

theorem and31 (x : Nat) : x &&& 31 = x % 32 := Nat.and_two_pow_sub_one_eq_mod x 5
theorem and32 : ∀ x, x < 256 → ((x &&& 32) = 0 ↔ x / 32 % 2 = 0) := by decide +kernel
structure ESt where
  ks : List Nd
  rows : List (List Value)
  A : Option Addr
  c : Nat
  r : List UInt8
  n : Nat
  bad : Int
  place : Int

end Go.Proofs.YtibkffoeioidlaaDoor
namespace Go.Proofs.YtibkffoeioidlaaDoor
set_option linter.all false
set_option maxRecDepth 4000
open Go.RowKit

theorem NodeC.mono' {h h' : Heap} {n : Nd} {r : List Value} (hn : NodeC h n r) (hl : Heap.le h h') : NodeC h' n r := NodeC.mono hl n r hn

end Go.Proofs.YtibkffoeioidlaaDoor
namespace Go.Proofs.YtibkffoeioidlaaDoor
set_option linter.all false
set_option maxRecDepth 4000
open Go.RowKit

theorem parM_cons {f : Nat} {s inn rest : List UInt8} {n : Int} (h0 : ¬ s.length = 0) (h31 : ¬ ((byteAt s 0 &&& 31 : Nat) : Int) = 31) (h32 : ¬ ((byteAt s 0 &&& 32 : Nat) : Int) = 0) (hb : bndM s = (((inn.length : Nat) : Int), n, 0)) (hs : s = s.take n.toNat ++ inn ++ rest) (hn : 0 ≤ n ∧ n ≤ s.length) :
    parM (f + 1) s = if (kidsM (parM f) inn.length inn).2 ≠ 0 then (zN, [], (kidsM (parM f) inn.length inn).2) else (.mk (byteAt s 0) [] (kidsM (parM f) inn.length inn).1, rest, 0) := by
  have hl := congrArg List.length hs
  simp only [List.length_append, List.length_take] at hl
  have he : lenE s = 0 := by unfold lenE; rw [hb]; simp only; rw [if_neg (by omega)]
  have hp : (s.take n.toNat).length = n.toNat := by rw [List.length_take]; omega
  have hi : innM s = inn := by
    unfold innM; rw [hb]; simp only
    rw [show (n + (inn.length : Int)).toNat - n.toNat = inn.length by omega]
    conv => lhs; rw [hs]
    rw [List.append_assoc, List.drop_append_of_le_length (by omega), List.drop_of_length_le (by omega), List.nil_append, List.take_left]
  have hr : restM s = rest := by
    unfold restM; rw [hb]; simp only
    conv => lhs; rw [hs]
    rw [List.drop_append_of_le_length (by rw [List.length_append]; omega), List.drop_of_length_le (by rw [List.length_append]; omega), List.nil_append]
  rw [parM, if_neg h0, if_neg h31, he, if_neg (by simp), if_neg h32, hi, hr]
theorem parM_prim {f : Nat} {s inn rest : List UInt8} {n : Int} (h0 : ¬ s.length = 0) (h31 : ¬ ((byteAt s 0 &&& 31 : Nat) : Int) = 31) (h32 : ((byteAt s 0 &&& 32 : Nat) : Int) = 0) (hb : bndM s = (((inn.length : Nat) : Int), n, 0)) (hs : s = s.take n.toNat ++ inn ++ rest) (hn : 0 ≤ n ∧ n ≤ s.length) :
    parM (f + 1) s = (.mk (byteAt s 0) inn [], rest, 0) := by
  have hl := congrArg List.length hs
  simp only [List.length_append, List.length_take] at hl
  have he : lenE s = 0 := by unfold lenE; rw [hb]; simp only; rw [if_neg (by omega)]
  have hp : (s.take n.toNat).length = n.toNat := by rw [List.length_take]; omega
  have hi : innM s = inn := by
    unfold innM; rw [hb]; simp only
    rw [show (n + (inn.length : Int)).toNat - n.toNat = inn.length by omega]
    conv => lhs; rw [hs]
    rw [List.append_assoc, List.drop_append_of_le_length (by omega), List.drop_of_length_le (by omega), List.nil_append, List.take_left]
  have hr : restM s = rest := by
    unfold restM; rw [hb]; simp only
    conv => lhs; rw [hs]
    rw [List.drop_append_of_le_length (by rw [List.length_append]; omega), List.drop_of_length_le (by rw [List.length_append]; omega), List.nil_append]
  rw [parM, if_neg h0, if_neg h31, he, if_neg (by simp), if_pos h32, hi, hr]

def dn : Nat → Nd
  | 0 => .mk 48 [] []
  | k + 1 => .mk 48 [] [dn k]
def ds (longer : Bool) : Nat → List UInt8
  | 0 => [48, 0]
  | k + 1 => if (ds longer k).length < 128 ∧ longer = false then [48] ++ [UInt8.ofNat (ds longer k).length] ++ ds longer k else [48, 131, 0] ++ [UInt8.ofNat ((ds longer k).length / 256), UInt8.ofNat ((ds longer k).length % 256)] ++ ds longer k
end Go.Proofs.YtibkffoeioidlaaDoor
