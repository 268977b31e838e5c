/- The reference's numbers. -/
import Derived.Test.YtibkffoeioidlaaDoorTlvB
import Derived.Test.YtibkffoeioidlaaDoorTlvQ
import Derived.KernelRfl
import Derived.Test.YtibkffoeioidlaaDoorTlvS
namespace Go.Proofs.YtibkffoeioidlaaDoor
set_option linter.all false
set_option maxRecDepth 4000
open Go.RowKit

set_option maxRecDepth 8000 in
set_option maxHeartbeats 1000000 in
theorem ref01_Put (n : Nat) (hn : n < 18446744073709551616) (m : Nat) (hm : m <= 8) (h : Heap) :
    Spec Tryd.prog 83 [.int .u64 n, .int .i64 m] h [] (fun v _ H' => H' = [] /\ v = str (putB n m)) := by
  refine Spec.enter Tryd.func83 rfl rfl ?_; intro w0
  repeat' (first | (refine G.atCode ?_; first | refine G.seq ?_ | refine G.region ?_ | refine G.block ?_ | refine G.skip ?_ | refine G.exit rfl ?_ | refine G.ret ?_ | (refine G.cond rfl ?_ ?_ <;> intro hc <;> (try simp only [tests, reduceCtorEq] at hc) <;> (try exact Zf))) | refine G.endOps ?_ | refine G.endStill ?_ | refine G.endHeld ?_ | refine G.back ?_ | refine G.endBlk ?_ | (refine G.atGd ?_; first | refine G.guardYes rfl rfl ?_ | refine G.guardNoS rfl rfl rfl ?_ | refine G.guardU rfl rfl rfl ?_ | (refine G.guardS rfl rfl rfl ?_ ?_ <;> intro hc <;> (try simp only [tests, reduceCtorEq] at hc) <;> (try exact Zf)) | refine G.guardNo rfl rfl ?_ (by rintro i ⟨⟩; rfl) | (refine G.guard rfl rfl ?_ ?_ (by rintro i ⟨⟩; rfl) <;> intro hc <;> (try simp only [tests, reduceCtorEq] at hc) <;> (try exact Zf))) | (refine G.atBin ?_; first | (refine G.atAdd ?_; first | refine G.arith rfl rfl rfl rfl rfl Zi ?_ | refine G.catStr rfl rfl rfl Zo ?_ | refine G.op rfl rfl ?_) | (refine G.atRem ?_; first | (refine G.rem rfl rfl rfl rfl Zo ?_; intro _ _ _) | refine G.remT rfl rfl rfl rfl Zo ?_) | (refine G.atQuo ?_; refine G.quo rfl rfl rfl rfl Zo Zi ?_) | refine G.op rfl rfl ?_ ) | refine G.op rfl rfl ?_ | (refine G.atBsl ?_; refine G.buildSlice (tyy rfl) (tyy rfl) rfl rfl rfl rfl ?_; intro _) | (refine G.atConv ?_; first | refine G.conv rfl (tyy rfl) (tyy rfl) rfl Zi ?_ | (refine G.convBytes rfl (tyy rfl) (tyy rfl) (tyy rfl) rfl Zo ?_; intro _) | refine G.convStr rfl (tyy rfl) (tyy rfl) (tyy rfl) Za rfl ?_ | refine G.convStrBlk1 rfl (tyy rfl) (tyy rfl) (tyy rfl) Za Zo rfl ?_ | refine G.convStrBlk2 rfl (tyy rfl) (tyy rfl) (tyy rfl) Za Zo Zo rfl ?_ | (refine G.convW rfl (tyy rfl) (tyy rfl) rfl ?_; intro hcw; (try simp only [inR] at hcw))) )
  refine G.loop (σ := Nat) (fun i => [(6, .int .i64 i), (5, str (putB n i)), (1, .int .i64 m), (0, .int .u64 (n / 256 ^ i : Nat))]) (fun _ => []) (fun i _ => i <= m) (fun i => m - i) 0
    ⟨rfl, rfl, rfl, sint (by simp), trivial⟩ (SubH.nil _) (Nat.zero_le _) ?_
  intro i h1 hle hi
  have hq : n / 256 ^ i < 18446744073709551616 := Nat.lt_of_le_of_lt (Nat.div_le_self _ _) hn
  have hl := putB_length n i
  generalize hnn : n / 256 ^ i = q at *
  repeat' (first | (refine G.atCode ?_; first | refine G.seq ?_ | refine G.region ?_ | refine G.block ?_ | refine G.skip ?_ | refine G.exit rfl ?_ | refine G.ret ?_ | (refine G.cond rfl ?_ ?_ <;> intro hc <;> (try simp only [tests, reduceCtorEq] at hc) <;> (try exact Zf))) | refine G.endOps ?_ | refine G.endStill ?_ | refine G.endHeld ?_ | refine G.back ?_ | refine G.endBlk ?_ | (refine G.atGd ?_; first | refine G.guardYes rfl rfl ?_ | refine G.guardNoS rfl rfl rfl ?_ | refine G.guardU rfl rfl rfl ?_ | (refine G.guardS rfl rfl rfl ?_ ?_ <;> intro hc <;> (try simp only [tests, reduceCtorEq] at hc) <;> (try exact Zf)) | refine G.guardNo rfl rfl ?_ (by rintro i ⟨⟩; rfl) | (refine G.guard rfl rfl ?_ ?_ (by rintro i ⟨⟩; rfl) <;> intro hc <;> (try simp only [tests, reduceCtorEq] at hc) <;> (try exact Zf))) | (refine G.atBin ?_; first | (refine G.atAdd ?_; first | refine G.arith rfl rfl rfl rfl rfl Zi ?_ | refine G.catStr rfl rfl rfl Zo ?_ | refine G.op rfl rfl ?_) | (refine G.atRem ?_; first | (refine G.rem rfl rfl rfl rfl Zo ?_; intro _ _ _) | refine G.remT rfl rfl rfl rfl Zo ?_) | (refine G.atQuo ?_; refine G.quo rfl rfl rfl rfl Zo Zi ?_) | refine G.op rfl rfl ?_ ) | refine G.op rfl rfl ?_ | (refine G.atBsl ?_; refine G.buildSlice (tyy rfl) (tyy rfl) rfl rfl rfl rfl ?_; intro _) | (refine G.atConv ?_; first | refine G.conv rfl (tyy rfl) (tyy rfl) rfl Zi ?_ | (refine G.convBytes rfl (tyy rfl) (tyy rfl) (tyy rfl) rfl Zo ?_; intro _) | refine G.convStr rfl (tyy rfl) (tyy rfl) (tyy rfl) Za rfl ?_ | refine G.convStrBlk1 rfl (tyy rfl) (tyy rfl) (tyy rfl) Za Zo rfl ?_ | refine G.convStrBlk2 rfl (tyy rfl) (tyy rfl) (tyy rfl) Za Zo Zo rfl ?_ | (refine G.convW rfl (tyy rfl) (tyy rfl) rfl ?_; intro hcw; (try simp only [inR] at hcw))) )
  . have hlt : i < m := by omega
    have hw : UInt8.ofNat ((q : Int) % 256).toNat = UInt8.ofNat q := by
      rw [show ((q : Int) % 256).toNat = q % 256 by omega]
      apply UInt8.toNat.inj
      rw [UInt8.toNat_ofNat', UInt8.toNat_ofNat']; omega
    refine G.again (i + 1) ⟨sint (by omega), ?_, rfl, sint ?_, trivial⟩ (SubH.nil _) (by omega) (Heap.le_refl _) (by omega)
    . rw [show putB n (i + 1) = [UInt8.ofNat q] ++ putB n i by rw [<- hnn]; rfl, ← hw]; rfl
    . rw [Nat.pow_succ, ← Nat.div_div_eq_div_mul, hnn]; omega
  . have hmi : i = m := by omega
    subst hmi
    exact G.done1 rfl rfl [] (SubH.nil _) ⟨rfl, rfl⟩
end Go.Proofs.YtibkffoeioidlaaDoor
namespace Go.Proofs.YtibkffoeioidlaaDoor
set_option linter.all false
set_option maxRecDepth 4000
open Go.RowKit

def tcV (s : List UInt8) : Int := if byteAt s 0 < 128 then beN s else beN s - 256 ^ s.length
theorem beN_cons (b : UInt8) (l : List UInt8) : beN (b :: l) = b.toNat * 256 ^ l.length + beN l := by
  have : ∀ (l : List UInt8) (n : Nat), l.foldl (fun n c => n * 256 + c.toNat) n = n * 256 ^ l.length + l.foldl (fun n c => n * 256 + c.toNat) 0 := by
    intro l
    induction l with
    | nil => intro n; simp
    | cons c l ih =>
      intro n
      simp only [List.foldl_cons, List.length_cons]
      rw [ih (n * 256 + c.toNat), ih (0 * 256 + c.toNat), Nat.pow_succ, Nat.add_mul, Nat.zero_mul, Nat.zero_add, Nat.mul_assoc, Nat.mul_comm 256, Nat.add_assoc]
  have h := this l b.toNat
  simp only [beN, List.foldl_cons, Nat.zero_mul, Nat.zero_add]
  exact h
theorem beN_putB (n : Nat) : ∀ k, beN (putB n k) = n % 256 ^ k
  | 0 => by simp [putB, beN, Nat.mod_one]
  | k + 1 => by
    rw [putB, beN_cons, beN_putB n k, putB_length, UInt8.toNat_ofNat']
    have h1 : n % 256 ^ (k + 1) = (n / 256 ^ k % 256) * 256 ^ k + n % 256 ^ k := by
      rw [Nat.pow_succ, Nat.mod_mul, Nat.add_comm, Nat.mul_comm]
    rw [h1]
theorem byteAt_cons (b : UInt8) (l : List UInt8) : byteAt (b :: l) 0 = b.toNat := by simp [byteAt]
theorem putB_byte (n k : Nat) : byteAt (putB n (k + 1)) 0 = n / 256 ^ k % 256 := by
  rw [putB, byteAt_cons, UInt8.toNat_ofNat']
theorem tc_putB (n k : Nat) : tcV (putB n (k + 1)) = if n / 256 ^ k % 256 < 128 then ((n % 256 ^ (k + 1) : Nat) : Int) else ((n % 256 ^ (k + 1) : Nat) : Int) - ((256 ^ (k + 1) : Nat) : Int) := by
  unfold tcV
  rw [putB_byte, beN_putB, putB_length]
  simp

theorem u64wrap (n : Int) : IntKind.u64.wrap n = n % 18446744073709551616 := by
  simp only [IntKind.wrap, IntKind.bits, IntKind.signed]; simp
theorem tc_fit {n : Int} (hn : inR .i64 n) {k : Nat} (hk : 1 <= k /\ k <= 8) : tcV (putB (IntKind.u64.wrap n).toNat k) = n ↔ (n / 2 ^ (8 * k - 1) = 0 \/ n / 2 ^ (8 * k - 1) = -1) := by
  simp only [inR] at hn
  rw [u64wrap]
  obtain ⟨m, hm⟩ : ∃ m : Nat, (n % 18446744073709551616).toNat = m := ⟨_, rfl⟩
  have hmn : (m : Int) = n % 18446744073709551616 := by omega
  rw [hm]
  obtain ⟨h1, h2⟩ := hk
  have : k = 1 \/ k = 2 \/ k = 3 \/ k = 4 \/ k = 5 \/ k = 6 \/ k = 7 \/ k = 8 := by omega
  rcases this with rfl | rfl | rfl | rfl | rfl | rfl | rfl | rfl
  all_goals
    rw [tc_putB]
    simp only [Nat.reduceAdd, Nat.reducePow, Nat.reduceMul, Nat.reduceSub, Int.reducePow]
    split <;> omega

theorem numV_tc {s : List UInt8} (hs : 1 <= s.length /\ s.length <= 8) : numV s = tcV s := by
  have hok : getOk s 0 s.length = true := by unfold getOk; simp; omega
  have hv : getV s 0 s.length = beN s := by
    unfold getV; rw [hok]; simp
  unfold numV
  rw [hv]
  cases s with
  | nil => simp at hs
  | cons b l =>
    have hb := b.toNat_lt
    have hl := beN_lt l
    unfold tcV
    rw [byteAt_cons, beN_cons]
    simp only [List.length_cons] at *
    generalize hx : beN l = x at *
    generalize b.toNat = c at *
    have : l.length = 0 \/ l.length = 1 \/ l.length = 2 \/ l.length = 3 \/ l.length = 4 \/ l.length = 5 \/ l.length = 6 \/ l.length = 7 := by omega
    rcases this with h | h | h | h | h | h | h | h
    all_goals
      rw [h] at hl ⊢
      simp only [IntKind.wrap, IntKind.bits, IntKind.signed]
      simp only [Nat.reduceAdd, Nat.reducePow, Nat.reduceMul, Nat.reduceSub, Int.reducePow] at hl ⊢
      simp
      split <;> split <;> omega
end Go.Proofs.YtibkffoeioidlaaDoor
namespace Go.Proofs.YtibkffoeioidlaaDoor
set_option linter.all false
set_option maxRecDepth 4000
open Go.RowKit

theorem and31 (x : Nat) : x &&& 31 = x % 32 := Nat.and_two_pow_sub_one_eq_mod x 5
theorem and32 : ∀ x, x < 256 -> ((x &&& 32) = 0 ↔ x / 32 % 2 = 0) := by decide +kernel
structure ESt where
  ks : List Nd
  rows : List (List Value)
  A : Option Addr
  c : Nat
  r : List UInt8
  n : Nat
  bad : Int
  place : Int

end Go.Proofs.YtibkffoeioidlaaDoor
namespace Go.Proofs.YtibkffoeioidlaaDoor
set_option linter.all false
set_option maxRecDepth 4000
open Go.RowKit

theorem NodeC.mono' {h h' : Heap} {n : Nd} {r : List Value} (hn : NodeC h n r) (hl : Heap.le h h') : NodeC h' n r := NodeC.mono hl n r hn

end Go.Proofs.YtibkffoeioidlaaDoor
namespace Go.Proofs.YtibkffoeioidlaaDoor
set_option linter.all false
set_option maxRecDepth 4000
open Go.RowKit

theorem parM_cons {f : Nat} {s inn rest : List UInt8} {n : Int} (h0 : ¬ s.length = 0) (h31 : ¬ ((byteAt s 0 &&& 31 : Nat) : Int) = 31) (h32 : ¬ ((byteAt s 0 &&& 32 : Nat) : Int) = 0) (hb : bndM s = (((inn.length : Nat) : Int), n, 0)) (hs : s = s.take n.toNat ++ inn ++ rest) (hn : 0 <= n /\ n <= s.length) :
    parM (f + 1) s = if (kidsM (parM f) inn.length inn).2 ≠ 0 then (zN, [], (kidsM (parM f) inn.length inn).2) else (.mk (byteAt s 0) [] (kidsM (parM f) inn.length inn).1, rest, 0) := by
  have hl := congrArg List.length hs
  simp only [List.length_append, List.length_take] at hl
  have he : lenE s = 0 := by unfold lenE; rw [hb]; simp only; rw [if_neg (by omega)]
  have hp : (s.take n.toNat).length = n.toNat := by rw [List.length_take]; omega
  have hi : innM s = inn := by
    unfold innM; rw [hb]; simp only
    rw [show (n + (inn.length : Int)).toNat - n.toNat = inn.length by omega]
    conv => lhs; rw [hs]
    rw [List.append_assoc, List.drop_append_of_le_length (by omega), List.drop_of_length_le (by omega), List.nil_append, List.take_left]
  have hr : restM s = rest := by
    unfold restM; rw [hb]; simp only
    conv => lhs; rw [hs]
    rw [List.drop_append_of_le_length (by rw [List.length_append]; omega), List.drop_of_length_le (by rw [List.length_append]; omega), List.nil_append]
  rw [parM, if_neg h0, if_neg h31, he, if_neg (by simp), if_neg h32, hi, hr]
theorem parM_prim {f : Nat} {s inn rest : List UInt8} {n : Int} (h0 : ¬ s.length = 0) (h31 : ¬ ((byteAt s 0 &&& 31 : Nat) : Int) = 31) (h32 : ((byteAt s 0 &&& 32 : Nat) : Int) = 0) (hb : bndM s = (((inn.length : Nat) : Int), n, 0)) (hs : s = s.take n.toNat ++ inn ++ rest) (hn : 0 <= n /\ n <= s.length) :
    parM (f + 1) s = (.mk (byteAt s 0) inn [], rest, 0) := by
  have hl := congrArg List.length hs
  simp only [List.length_append, List.length_take] at hl
  have he : lenE s = 0 := by unfold lenE; rw [hb]; simp only; rw [if_neg (by omega)]
  have hp : (s.take n.toNat).length = n.toNat := by rw [List.length_take]; omega
  have hi : innM s = inn := by
    unfold innM; rw [hb]; simp only
    rw [show (n + (inn.length : Int)).toNat - n.toNat = inn.length by omega]
    conv => lhs; rw [hs]
    rw [List.append_assoc, List.drop_append_of_le_length (by omega), List.drop_of_length_le (by omega), List.nil_append, List.take_left]
  have hr : restM s = rest := by
    unfold restM; rw [hb]; simp only
    conv => lhs; rw [hs]
    rw [List.drop_append_of_le_length (by rw [List.length_append]; omega), List.drop_of_length_le (by rw [List.length_append]; omega), List.nil_append]
  rw [parM, if_neg h0, if_neg h31, he, if_neg (by simp), if_pos h32, hi, hr]

def dn : Nat -> Nd
  | 0 => .mk 48 [] []
  | k + 1 => .mk 48 [] [dn k]
def ds (longer : Bool) : Nat -> List UInt8
  | 0 => [48, 0]
  | k + 1 => if (ds longer k).length < 128 /\ longer = false then [48] ++ [UInt8.ofNat (ds longer k).length] ++ ds longer k else [48, 131, 0] ++ [UInt8.ofNat ((ds longer k).length / 256), UInt8.ofNat ((ds longer k).length % 256)] ++ ds longer k
end Go.Proofs.YtibkffoeioidlaaDoor
