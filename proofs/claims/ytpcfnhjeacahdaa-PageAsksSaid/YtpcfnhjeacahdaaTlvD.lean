/- TlvDeep: nodes within nodes. -/
import Derived.Test.YtpcfnhjeacahdaaTlvS
import Derived.Test.YtpcfnhjeacahdaaTlvG
import Derived.Test.YtpcfnhjeacahdaaTlvM
namespace Go.Proofs.Ytpcfnhjeacahdaa
set_option linter.all false
open Go.RowKit

/-- An element that holds others, laid open. -/
theorem parM_cons {f : Nat} {s inn rest : List UInt8} {n : Int} (h0 : ¬ s.length = 0) (h31 : ¬ ((byteAt s 0 &&& 31 : Nat) : Int) = 31) (h32 : ¬ ((byteAt s 0 &&& 32 : Nat) : Int) = 0) (hb : bndM s = (((inn.length : Nat) : Int), n, 0)) (hs : s = s.take n.toNat ++ inn ++ rest) (hn : 0 ≤ n ∧ n ≤ s.length) :
    parM (f + 1) s = if (kidsM (parM f) inn.length inn).2 ≠ 0 then (zN, [], (kidsM (parM f) inn.length inn).2) else (.mk (byteAt s 0) [] (kidsM (parM f) inn.length inn).1, rest, 0) := by
  have hl := congrArg List.length hs
  simp only [List.length_append, List.length_take] at hl
  have he : lenE s = 0 := by unfold lenE; rw [hb]; simp only; rw [if_neg (by omega)]
  have hp : (s.take n.toNat).length = n.toNat := by rw [List.length_take]; omega
  have hi : innM s = inn := by
    unfold innM; rw [hb]; simp only
    rw [show (n + (inn.length : Int)).toNat - n.toNat = inn.length by omega]
    conv => lhs; rw [hs]
    rw [List.append_assoc, List.drop_append_of_le_length (by omega), List.drop_of_length_le (by omega), List.nil_append, List.take_left]
  have hr : restM s = rest := by
    unfold restM; rw [hb]; simp only
    conv => lhs; rw [hs]
    rw [List.drop_append_of_le_length (by rw [List.length_append]; omega), List.drop_of_length_le (by rw [List.length_append]; omega), List.nil_append]
  rw [parM, if_neg h0, if_neg h31, he, if_neg (by simp), if_neg h32, hi, hr]
theorem parM_prim {f : Nat} {s inn rest : List UInt8} {n : Int} (h0 : ¬ s.length = 0) (h31 : ¬ ((byteAt s 0 &&& 31 : Nat) : Int) = 31) (h32 : ((byteAt s 0 &&& 32 : Nat) : Int) = 0) (hb : bndM s = (((inn.length : Nat) : Int), n, 0)) (hs : s = s.take n.toNat ++ inn ++ rest) (hn : 0 ≤ n ∧ n ≤ s.length) :
    parM (f + 1) s = (.mk (byteAt s 0) inn [], rest, 0) := by
  have hl := congrArg List.length hs
  simp only [List.length_append, List.length_take] at hl
  have he : lenE s = 0 := by unfold lenE; rw [hb]; simp only; rw [if_neg (by omega)]
  have hp : (s.take n.toNat).length = n.toNat := by rw [List.length_take]; omega
  have hi : innM s = inn := by
    unfold innM; rw [hb]; simp only
    rw [show (n + (inn.length : Int)).toNat - n.toNat = inn.length by omega]
    conv => lhs; rw [hs]
    rw [List.append_assoc, List.drop_append_of_le_length (by omega), List.drop_of_length_le (by omega), List.nil_append, List.take_left]
  have hr : restM s = rest := by
    unfold restM; rw [hb]; simp only
    conv => lhs; rw [hs]
    rw [List.drop_append_of_le_length (by rw [List.length_append]; omega), List.drop_of_length_le (by rw [List.length_append]; omega), List.nil_append]
  rw [parM, if_neg h0, if_neg h31, he, if_neg (by simp), if_pos h32, hi, hr]

/-- With how many bytes the length is said. -/
def ds (longer : Bool) : Nat → List UInt8
  | 0 => [48, 0]
  | k + 1 => if (ds longer k).length < 128 ∧ longer = false then [48] ++ [UInt8.ofNat (ds longer k).length] ++ ds longer k else [48, 131, 0] ++ [UInt8.ofNat ((ds longer k).length / 256), UInt8.ofNat ((ds longer k).length % 256)] ++ ds longer k
end Go.Proofs.Ytpcfnhjeacahdaa
