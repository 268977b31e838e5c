/- Walks of package octet: Get and Put, and of the reference's. -/
import Derived.Test.YtibkffoeioidlaaDoorNd
import Derived.Test.YtibkffoeioidlaaDoorTy
namespace Go.Proofs.YtibkffoeioidlaaDoor
set_option linter.all false
set_option maxRecDepth 4000
open Go.RowKit

def beN (l : List UInt8) : Nat := l.foldl (fun n c => n * 256 + c.toNat) 0
def getOk (l : List UInt8) (a n : Int) : Bool := decide (1 <= n /\ n <= 8 /\ 0 <= a /\ a + n <= l.length)
def getV (l : List UInt8) (a n : Int) : Nat := if getOk l a n then beN ((l.drop a.toNat).take n.toNat) else 0
theorem beN_snoc (l : List UInt8) (c : UInt8) : beN (l ++ [c]) = beN l * 256 + c.toNat := by simp [beN]
theorem beN_lt (l : List UInt8) : beN l < 256 ^ l.length := by
  have : ∀ (l : List UInt8) (n : Nat), l.foldl (fun n c => n * 256 + c.toNat) n < (n + 1) * 256 ^ l.length := by
    intro l
    induction l with
    | nil => intro n; simp
    | cons c l ih =>
      intro n
      have h1 := ih (n * 256 + c.toNat)
      have h2 := c.toNat_lt
      simp only [List.foldl_cons, List.length_cons, Nat.pow_succ]
      refine Nat.lt_of_lt_of_le h1 ?_
      rw [Nat.mul_comm (256 ^ l.length) 256, ← Nat.mul_assoc]
      exact Nat.mul_le_mul_right _ (by omega)
  simpa [beN] using this l 0

theorem or_byte (a c : Nat) (hc : c < 256) : (a * 256) ||| c = a * 256 + c := by
  rw [show a * 256 = a <<< 8 by rw [Nat.shiftLeft_eq], ← Nat.shiftLeft_add_eq_or_of_lt (by omega)]
theorem take_succ_byte (x : List UInt8) (i : Nat) (hi : i < x.length) : beN (x.take (i + 1)) = beN (x.take i) * 256 + byteAt x i := by
  rw [List.take_succ_eq_append_getElem hi, beN_snoc]; simp [byteAt, hi]

set_option maxHeartbeats 1000000 in
theorem octet_Get (l : List UInt8) (a n : Int) (hl : l.length <= 9223372036854775807) (ha : -4611686018427387904 <= a /\ a <= 4611686018427387904) (hn : -9223372036854775808 <= n /\ n <= 9223372036854775807) (h : Heap) :
    Spec Tryd.prog 96 [str l, .int .i64 a, .int .i64 n] h [] (fun v _ H' => H' = [] /\ v = .tuple #[.int .u64 (getV l a n), .bool (getOk l a n)]) := by
  refine Spec.enter Tryd.func96 rfl rfl ?_; intro w0
  repeat' (first | (refine G.atCode ?_; first | refine G.seq ?_ | refine G.region ?_ | refine G.block ?_ | refine G.skip ?_ | refine G.ret ?_ | (refine G.cond rfl ?_ ?_ <;> intro hc <;> (try simp only [tests, reduceCtorEq] at hc) <;> (try exact Zf))) | refine G.endOps ?_ | (refine G.atGd ?_; first | refine G.guardYes rfl rfl ?_ | refine G.guardNoS rfl rfl rfl ?_ | (refine G.guardS rfl rfl rfl ?_ ?_ <;> intro hc <;> (try simp only [tests, reduceCtorEq] at hc) <;> (try exact Zf))) | (refine G.atBin ?_; first | (refine G.atAdd ?_; first | refine G.arith rfl rfl rfl rfl rfl Zi ?_) | (refine G.atSub ?_; first | refine G.arith rfl rfl rfl rfl rfl Zi ?_) | refine G.op rfl rfl ?_) | refine G.op rfl rfl ?_ | (refine G.atLen ?_; first | refine G.lenStr rfl (tyy rfl) rfl ?_ | refine G.lenRowB rfl (tyy rfl) Za rfl ?_) | (refine G.atConv ?_; first | (refine G.convBytes rfl (tyy rfl) (tyy rfl) (tyy rfl) rfl Zo ?_; intro _)) | (refine G.atSlc ?_; first | refine G.sliceStr rfl rfl rfl (tyy rfl) rfl Zj Zj Zo rfl ?_))
  case refine_1.refine_1.refine_1.refine_2 =>
    rename_i v
    have hv : getV l a n = beN ((l.drop a.toNat).take n.toNat) := by unfold getV getOk; rw [if_pos]; simp; omega
    have hok : getOk l a n = true := by unfold getOk; simp; omega
    rw [show (a + n).toNat - a.toNat = n.toNat by omega]
    generalize hx : (l.drop a.toNat).take n.toNat = x
    have hxl : x.length <= 8 := by rw [<- hx]; simp; omega
    rw [hx] at hv
    have Hv := Lib.hid (And.intro hv hok)
    clear hv hok hx
    refine G.loop (σ := Nat) (fun i => [(37, .int .i64 i), (8, .int .u64 (beN (x.take i))), (36, .int .i64 x.length), (35, v)]) (fun _ => [.row v 5 1 (bytesR x)]) (fun i _ => i <= x.length) (fun i => x.length - i) 0
      ⟨rfl, rfl, rfl, rfl, trivial⟩ Zu (Nat.zero_le _) ?_
    intro i h1 hle hi
    have hb := beN_lt (x.take i)
    have hbi : i < x.length -> beN (x.take i) < 72057594037927936 := fun hlt => by
      refine Nat.lt_of_lt_of_le hb (Nat.le_trans (Nat.pow_le_pow_right (by decide) (show (x.take i).length <= 7 by simp; omega)) (by decide))
    repeat' (first | (refine G.atCode ?_; first | refine G.seq ?_ | refine G.region ?_ | refine G.block ?_ | refine G.skip ?_ | refine G.exit rfl ?_ | refine G.ret ?_ | (refine G.cond rfl ?_ ?_ <;> intro hc <;> (try simp only [tests, reduceCtorEq] at hc) <;> (try exact Zf))) | refine G.endOps ?_ | refine G.endBlk ?_ | (refine G.atBin ?_; first | (refine G.atAdd ?_; first | refine G.arith rfl rfl rfl rfl rfl Zi ?_) | (refine G.atShl ?_; refine G.shl rfl rfl Zj rfl (by simp only [IntKind.bits]; omega) rfl Zi ?_) | refine G.op rfl rfl ?_ | refine G.bit rfl rfl rfl Zj Zj rfl rfl (by simp only [lim]; omega) (by simp only [lim]; omega) ?_) | refine G.op rfl rfl ?_ | (refine G.atLoad ?_; first | (refine G.loadRowB rfl (tyy rfl) Zp Za Zo rfl ?_; intro _)) | (refine G.atIdx ?_; first | (refine G.idxRow' rfl rfl (tyy rfl) (tyy rfl) Za Zj rfl Zo ?_; intro _ _)) | (refine G.atConv ?_; first | refine G.conv rfl (tyy rfl) (tyy rfl) rfl Zi ?_))
    . have hc : i < x.length := by omega
      refine G.again (i + 1) ⟨sint (by omega), sint ?_, rfl, rfl, trivial⟩ Zu hc (Heap.le_refl _) (by omega)
      have e1 : (((beN (x.take i) : Nat) : Int) * 2 ^ 8).toNat = beN (x.take i) * 256 := by omega
      rw [take_succ_byte x i hc, e1, or_byte _ _ (byteAt_lt _ _)]
    . have hi' : x.take i = x := List.take_of_length_le (by omega)
      refine G.done2 rfl rfl rfl [] (SubH.nil _) ⟨rfl, ?_⟩
      rw [Hv.out.1, Hv.out.2, hi']
  all_goals
    have hok : getOk l a n = false := by unfold getOk; simp; omega
    refine G.done2 rfl rfl rfl [] (SubH.nil _) ⟨rfl, ?_⟩
    rw [hok, show getV l a n = 0 by unfold getV; rw [hok]; rfl]
    rfl
end Go.Proofs.YtibkffoeioidlaaDoor
namespace Go.Proofs.YtibkffoeioidlaaDoor
set_option linter.all false
set_option maxRecDepth 4000
open Go.RowKit

theorem callGet7 : Callable Tryd.prog 96 := ⟨_, Tryd.func96, by kernel_rfl, rfl⟩
theorem callPut7 : Callable Tryd.prog 102 := ⟨_, Tryd.func102, by kernel_rfl, rfl⟩
theorem callBounds : Callable Tryd.prog 113 := ⟨_, Tryd.func113, by kernel_rfl, rfl⟩
theorem callLength : Callable Tryd.prog 103 := ⟨_, Tryd.func103, by kernel_rfl, rfl⟩

def bndM (l : List UInt8) : Int × Int × Int :=
  if l.length < 2 then (0, 0, 3) else
  let k : Int := byteAt l 1
  if k < 128 then (k, 2, 0) else if k = 128 \/ 132 < k then (0, 0, 8)
  else if getOk l 2 (k - 128) = false then (0, 0, 3)
  else if 1048576 < getV l 2 (k - 128) then (0, 0, 5) else (getV l 2 (k - 128), k - 126, 0)
theorem bndM_eq {l : List UInt8} {a b c : Int} (h : bndM l = (a, b, c)) : Value.tuple #[.int .i64 a, .int .i64 b, .int .i64 c] = .tuple #[.int .i64 (bndM l).1, .int .i64 (bndM l).2.1, .int .i64 (bndM l).2.2] := by rw [h]

set_option maxRecDepth 8000 in
set_option maxHeartbeats 1000000 in
theorem tlv_bounds (l : List UInt8) (hl : l.length <= 9223372036854775807) (h : Heap) :
    Spec Tryd.prog 113 [str l] h [] (fun v _ H' => H' = [] /\ v = .tuple #[.int .i64 (bndM l).1, .int .i64 (bndM l).2.1, .int .i64 (bndM l).2.2]) := by
  refine Spec.enter Tryd.func113 rfl rfl ?_; intro w0
  repeat' (first | (show G _ (.ops .seq _ (⟨some _, .call { callee := .value (.func 96), args := _, argTypes := _ }, _, _, _, none⟩ :: _) :: _) _ _ _; refine G.call callGet7 rfl rfl (octet_Get _ _ _ hl (by omega) (by omega) _) Ze ?_; rintro _ h1 H1 ⟨rfl, rfl⟩ hle) | (refine G.atCode ?_; first | refine G.seq ?_ | refine G.region ?_ | refine G.block ?_ | refine G.skip ?_ | refine G.ret ?_ | (refine G.cond rfl ?_ ?_ <;> intro hc <;> (try simp only [tests, reduceCtorEq] at hc) <;> (try exact Zf))) | refine G.endOps ?_ | refine G.endBlk ?_ | (refine G.atGd ?_; first | refine G.guardYes rfl rfl ?_ | refine G.guardNoS rfl rfl rfl ?_ | (refine G.guardS rfl rfl rfl ?_ ?_ <;> intro hc <;> (try simp only [tests, reduceCtorEq] at hc) <;> (try exact Zf))) | (refine G.atBin ?_; first | (refine G.atSub ?_; first | refine G.arith rfl rfl rfl rfl rfl Zi ?_) | (refine G.atEql ?_; first | refine G.op rfl rfl ?_) | refine G.op rfl rfl ?_) | refine G.op rfl rfl ?_ | (refine G.atLen ?_; first | refine G.lenStr rfl (tyy rfl) rfl ?_) | (refine G.atInd ?_; refine G.idxStr rfl rfl (tyy rfl) rfl Zj Zo ?_; intro _) | (refine G.atConv ?_; first | refine G.conv rfl (tyy rfl) (tyy rfl) rfl Zi ?_))
  all_goals (refine G.done3 rfl rfl rfl rfl [] (SubH.nil _) ⟨rfl, bndM_eq ?_⟩; unfold bndM; repeat (first | rw [if_pos (by omega)] | rw [if_neg (by omega)] | rw [if_pos Zp] | rw [if_neg Zp] | rw [if_neg (by simp only [*]; decide)] | rw [if_neg (show ¬ (true = false) from fun e => by cases e)]))

def putB (n : Nat) : Nat -> List UInt8
  | 0 => []
  | k + 1 => UInt8.ofNat (n / 256 ^ k) :: putB n k
theorem putB_length (n k : Nat) : (putB n k).length = k := by
  induction k with
  | zero => rfl
  | succ k ih => simp [putB, ih]
theorem bytesR_set (l : List UInt8) (i : Nat) (b : UInt8) : (bytesR l).set i [.int .u8 b.toNat] = bytesR (l.set i b) := by
  simp [bytesR, List.map_set]
theorem putB_set (n s i : Nat) (h : i < s) : (List.replicate (s - i) (0 : UInt8) ++ putB n i).set (s - 1 - i) (UInt8.ofNat (n / 256 ^ i)) = List.replicate (s - (i + 1)) 0 ++ putB n (i + 1) := by
  have e : s - i = (s - 1 - i) + 1 := by omega
  rw [e, List.replicate_succ', List.append_assoc, List.set_append_right _ _ (by simp)]
  simp only [List.length_replicate, Nat.sub_self, List.singleton_append, List.set_cons_zero, putB]
  rw [show s - 1 - i = s - (i + 1) by omega]

set_option maxRecDepth 8000 in
set_option maxHeartbeats 1000000 in
theorem octet_Put (n : Nat) (hn : n < 18446744073709551616) (s : Int) (hs : 1 <= s /\ s <= 8) (h : Heap) :
    Spec Tryd.prog 102 [.int .u64 n, .int .i64 s] h [] (fun v _ H' => H' = [] /\ v = str (putB n s.toNat)) := by
  obtain ⟨m, rfl⟩ := Int.eq_ofNat_of_zero_le (show 0 <= s by omega)
  refine Spec.enter Tryd.func102 rfl rfl ?_; intro w0
  repeat' (first | (refine G.makeSlice rfl rfl (tyy rfl) (tyy rfl) Zj rfl rfl Zo rfl ?_; intro _) | (refine G.atCode ?_; first | refine G.seq ?_ | refine G.region ?_ | refine G.block ?_ | refine G.skip ?_ | (refine G.cond rfl ?_ ?_ <;> intro hc <;> (try simp only [tests, reduceCtorEq] at hc) <;> (try exact Zf))) | refine G.endOps ?_ | (refine G.atGd ?_; first | refine G.guardYes rfl rfl ?_ | (refine G.guardS rfl rfl rfl ?_ ?_ <;> intro hc <;> (try simp only [tests, reduceCtorEq] at hc) <;> (try exact Zf))) | (refine G.atBin ?_; first | refine G.op rfl rfl ?_) | refine G.op rfl rfl ?_ | (refine G.atLen ?_; first | refine G.lenRow rfl (tyy rfl) Za rfl ?_))
  rename_i v
  refine G.loop (σ := Nat) (fun i => [(17, .int .i64 i), (16, .int .i64 m), (15, v), (5, v), (1, .int .i64 m), (0, .int .u64 (n / 256 ^ i : Nat))]) (fun i => [.row v 5 1 (bytesR (List.replicate (m - i) 0 ++ putB n i))]) (fun i _ => i <= m) (fun i => m - i) 0
    ⟨rfl, sint (by simp), rfl, rfl, rfl, sint (by simp), trivial⟩ (by simp only [putB, List.append_nil, Nat.sub_zero]; simp only [bytesR, List.map_replicate]; exact SubH.rfl_ _) (Nat.zero_le _) ?_
  intro i h1 hle hi
  have hlen : (bytesR (List.replicate (m - i) 0 ++ putB n i)).length = m := by simp [putB_length]; omega
  have hq : n / 256 ^ i < 18446744073709551616 := Nat.lt_of_le_of_lt (Nat.div_le_self _ _) hn
  generalize hnn : n / 256 ^ i = q at *
  repeat' (first | refine G.storeRow rfl rfl (tyy rfl) Zp Za rfl rfl rfl Zo ?_ | (refine G.atCode ?_; first | refine G.seq ?_ | refine G.region ?_ | refine G.block ?_ | refine G.skip ?_ | refine G.exit rfl ?_ | refine G.ret ?_ | (refine G.cond rfl ?_ ?_ <;> intro hc <;> (try simp only [tests, reduceCtorEq] at hc) <;> (try exact Zf))) | refine G.endOps ?_ | refine G.endBlk ?_ | (refine G.atBin ?_; first | (refine G.atAdd ?_; first | refine G.arith rfl rfl rfl rfl rfl Zi ?_) | (refine G.atSub ?_; first | refine G.arith rfl rfl rfl rfl rfl Zi ?_) | (refine G.atShr ?_; refine G.shr rfl rfl Zj rfl (by simp only [IntKind.bits]; omega) rfl ?_) | refine G.op rfl rfl ?_) | refine G.op rfl rfl ?_ | (refine G.atIdx ?_; first | (refine G.idxRow' rfl rfl (tyy rfl) (tyy rfl) Za Zj rfl Zo ?_; intro _ _)) | (refine G.atConv ?_; first | refine G.convStr rfl (tyy rfl) (tyy rfl) (tyy rfl) Za rfl ?_ | (refine G.convW rfl (tyy rfl) (tyy rfl) rfl ?_; intro hcw; (try simp only [inR] at hcw))))
  . have hlt : i < m := by omega
    have hw : IntKind.u8.wrap (q : Int) = ((UInt8.ofNat q).toNat : Int) := by
      rw [UInt8.toNat_ofNat']
      simp only [IntKind.wrap, IntKind.bits, IntKind.signed]
      simp
    have hset : (bytesR (List.replicate (m - i) 0 ++ putB n i)).set ((m : Int) - 1 - i).toNat [.int .u8 (IntKind.u8.wrap (q : Int))] = bytesR (List.replicate (m - (i + 1)) 0 ++ putB n (i + 1)) := by
      rw [show ((m : Int) - 1 - i).toNat = m - 1 - i by omega, hw, bytesR_set, ← hnn, putB_set n m i hlt]
    refine G.again (i + 1) ⟨sint (by omega), rfl, rfl, rfl, rfl, sint ?_, trivial⟩ ?_ (by omega) (Heap.le_refl _) (by omega)
    . rw [Nat.pow_succ, ← Nat.div_div_eq_div_mul, hnn]; omega
    . rw [hset]; exact SubH.rfl_ _
  . have hm : i = m := by omega
    subst hm
    refine G.done1 rfl rfl [] (SubH.nil _) ⟨rfl, ?_⟩
    simp
end Go.Proofs.YtibkffoeioidlaaDoor
namespace Go.Proofs.YtibkffoeioidlaaDoor
set_option linter.all false
set_option maxRecDepth 4000
open Go.RowKit

def intF (n : Int) : Nat -> Nat -> Nat
  | 0, k => k
  | f + 1, k => if n / 2 ^ (8 * k - 1) ≠ 0 /\ n / 2 ^ (8 * k - 1) ≠ -1 then intF n f (k + 1) else k
theorem intF_range (n : Int) : ∀ (f k : Nat), k <= intF n f k /\ intF n f k <= k + f
  | 0, k => by simp [intF]
  | f + 1, k => by
    have := intF_range n f (k + 1)
    unfold intF
    split <;> omega

theorem exp_eq (k : Nat) : (8 * (k : Int) - 1).toNat = 8 * k - 1 := by omega
theorem intF_go {n : Int} {k : Nat} (h : (k : Int) < 8) (h0 : ¬ n / 2 ^ (8 * (k : Int) - 1).toNat = 0) (h1 : ¬ n / 2 ^ (8 * (k : Int) - 1).toNat = -1) : intF n (8 - k) k = intF n (8 - (k + 1)) (k + 1) := by
  rw [exp_eq] at h0 h1
  rw [show 8 - k = (8 - (k + 1)) + 1 by omega]
  rw [intF, if_pos ⟨h0, h1⟩]
theorem intF_stop {n : Int} {k : Nat} (hk : k <= 8) (h : ¬ (k : Int) < 8 \/ n / 2 ^ (8 * (k : Int) - 1).toNat = 0 \/ n / 2 ^ (8 * (k : Int) - 1).toNat = -1) : intF n (8 - k) k = k := by
  rw [exp_eq] at h
  by_cases h8 : k = 8
  . subst h8; rfl
  . rw [show 8 - k = (8 - (k + 1)) + 1 by omega, intF, if_neg]
    intro hh
    rcases h with h | h | h
    . omega
    . exact hh.1 h
    . exact hh.2 h
theorem octet_PutI (n : Int) (hn : 0 <= n /\ n <= 18446744073709551615) (s : Int) (hs : 1 <= s /\ s <= 8) (h : Heap) :
    Spec Tryd.prog 102 [.int .u64 n, .int .i64 s] h [] (fun v _ H' => H' = [] /\ v = str (putB n.toNat s.toNat)) := by
  obtain ⟨m, rfl⟩ := Int.eq_ofNat_of_zero_le hn.1
  exact octet_Put m (by omega) s hs h

set_option maxRecDepth 8000 in
set_option maxHeartbeats 1000000 in
theorem tlv_Int (n : Int) (hn : inR .i64 n) (h : Heap) :
    Spec Tryd.prog 74 [.int .i64 n] h [] (fun v _ H' => H' = [] /\ v = str (putB (IntKind.u64.wrap n).toNat (intF n 7 1))) := by
  simp only [inR] at hn
  refine Spec.enter Tryd.func74 rfl rfl ?_; intro w0
  repeat' (first | (refine G.atCode ?_; first | refine G.seq ?_ | refine G.region ?_ | refine G.block ?_) | refine G.endOps ?_ | refine G.op rfl rfl ?_)
  refine G.loop (σ := Nat) (fun k => [(3, .int .i64 k), (0, .int .i64 n)]) (fun _ => []) (fun k _ => 1 <= k /\ k <= 8 /\ intF n (8 - k) k = intF n 7 1) (fun k => 8 - k) 1
    ⟨rfl, rfl, trivial⟩ (SubH.nil _) ⟨Nat.le_refl _, by omega, rfl⟩ ?_
  intro k h1 hle hk
  obtain ⟨hk1, hk2, hk3⟩ := hk
  have hwr : 0 <= IntKind.u64.wrap n /\ IntKind.u64.wrap n <= 18446744073709551615 := wrap_inR .u64 n
  repeat' (first | (show G _ (.ops .seq _ (⟨some _, .call { callee := .value (.func 102), args := _, argTypes := _ }, _, _, _, none⟩ :: _) :: _) _ _ _; refine G.call callPut7 rfl rfl (octet_PutI _ Zp _ (by omega) _) Ze ?_; rintro _ h2 H2 ⟨rfl, rfl⟩ hle2) | (refine G.atCode ?_; first | refine G.seq ?_ | refine G.region ?_ | refine G.block ?_ | refine G.skip ?_ | refine G.exit rfl ?_ | refine G.ret ?_ | (refine G.cond rfl ?_ ?_ <;> intro hc <;> (try simp only [tests, reduceCtorEq] at hc) <;> (try exact Zf))) | refine G.endOps ?_ | refine G.endBlk ?_ | (refine G.atGd ?_; first | refine G.guardYes rfl rfl ?_ | refine G.guardNoS rfl rfl rfl ?_ | (refine G.guardS rfl rfl rfl ?_ ?_ <;> intro hc <;> (try simp only [tests, reduceCtorEq] at hc) <;> (try exact Zf))) | (refine G.atBin ?_; first | (refine G.atAdd ?_; first | refine G.arith rfl rfl rfl rfl rfl Zi ?_) | (refine G.atSub ?_; first | refine G.arith rfl rfl rfl rfl rfl Zi ?_) | (refine G.atMul ?_; first | refine G.arith rfl rfl rfl rfl rfl Zi ?_) | (refine G.atNeq ?_; first | refine G.op rfl rfl ?_) | (refine G.atShr ?_; refine G.shr rfl rfl Zj rfl (by simp only [IntKind.bits]; omega) rfl ?_) | refine G.op rfl rfl ?_) | refine G.op rfl rfl ?_ | (refine G.atConv ?_; first | (refine G.convW rfl (tyy rfl) (tyy rfl) rfl ?_; intro hcw; (try simp only [inR] at hcw))))
  . refine G.again (k + 1) ⟨sint (by omega), rfl, trivial⟩ (SubH.nil _) ⟨by omega, by omega, ?_⟩ (Heap.le_refl _) (by omega)
    rw [<- hk3]
    exact (intF_go Zp Zp Zp).symm
  all_goals
    refine G.done1 rfl rfl [] (SubH.nil _) ⟨rfl, ?_⟩
    rw [<- hk3, intF_stop hk2 (by first | exact .inl Zp | exact .inr (.inl Zp) | exact .inr (.inr Zp)), Int.toNat_natCast]
end Go.Proofs.YtibkffoeioidlaaDoor
namespace Go.Proofs.YtibkffoeioidlaaDoor
set_option linter.all false
set_option maxRecDepth 4000
open Go.RowKit

theorem callInt : Callable Tryd.prog 74 := ⟨_, Tryd.func74, by kernel_rfl, rfl⟩

theorem div_inR {a : Int} (p : Nat) (h : inR .i64 a) : inR .i64 (a / 2 ^ p) := by
  simp only [inR] at *
  have hp : (1 : Int) <= 2 ^ p := by have := Int.pow_pos (n := 2) (m := p) (by decide); omega
  generalize (2 : Int) ^ p = q at *
  constructor
  . refine (Int.le_ediv_iff_mul_le (by omega)).2 ?_
    have := Int.mul_le_mul_of_nonpos_left (show (-9223372036854775808 : Int) <= 0 by decide) hp
    omega
  . refine Int.lt_add_one_iff.1 ((Int.ediv_lt_iff_lt_mul (by omega)).2 ?_)
    have := Int.mul_le_mul_of_nonneg_left hp (show (0 : Int) <= 9223372036854775808 by decide)
    omega
def numV (s : List UInt8) : Int := IntKind.i64.wrap (IntKind.u64.wrap (getV s 0 s.length * 2 ^ (min (64 - 8 * (s.length : Int)).toNat 64))) / 2 ^ (64 - 8 * (s.length : Int)).toNat
def numOk (s : List UInt8) : Bool := getOk s 0 s.length && decide (putB (IntKind.u64.wrap (numV s)).toNat (intF (numV s) 7 1) = s)

set_option maxRecDepth 8000 in
set_option maxHeartbeats 1000000 in
theorem tlv_Number (s : List UInt8) (hs : s.length <= 9223372036854775807) (h : Heap) :
    Spec Tryd.prog 106 [str s] h [] (fun v _ H' => H' = [] /\ v = .tuple #[.int .i64 (if numOk s then numV s else 0), .bool (numOk s)]) := by
  by_cases hok : getOk s 0 s.length = true
  . have hg2 : 1 <= s.length /\ s.length <= 8 := by unfold getOk at hok; simp only [decide_eq_true_eq] at hok; omega
    refine Spec.enter Tryd.func106 rfl rfl ?_; intro w0
    repeat' (first | (refine G.shlW rfl rfl Zj rfl (by omega) ?_) | (show G _ (.ops .seq _ (⟨some _, .call { callee := .value (.func 96), args := _, argTypes := _ }, _, _, _, none⟩ :: _) :: _) _ _ _; refine G.call callGet7 rfl rfl (octet_Get _ _ _ (by omega) (by omega) (by omega) _) Ze ?_; rintro _ h1 H1 ⟨rfl, rfl⟩ hle; rw [hok]) | (show G _ (.ops .seq _ (⟨some _, .call { callee := .value (.func 74), args := _, argTypes := _ }, _, _, _, none⟩ :: _) :: _) _ _ _; refine G.call callInt rfl rfl (tlv_Int _ (div_inR _ (wrap_inR .i64 _)) _) Ze ?_; rintro _ h2 H2 ⟨rfl, rfl⟩ hle2) | (refine G.atCode ?_; first | refine G.seq ?_ | refine G.region ?_ | refine G.skip ?_ | refine G.ret ?_ | (refine G.cond rfl ?_ ?_ <;> intro hc <;> (try simp only [tests, reduceCtorEq] at hc) <;> (try exact Zf))) | refine G.endOps ?_ | (refine G.atBin ?_; first | (refine G.atSub ?_; first | refine G.arith rfl rfl rfl rfl rfl Zi ?_) | (refine G.atMul ?_; first | refine G.arith rfl rfl rfl rfl rfl Zi ?_) | (refine G.atNeq ?_; first | refine G.neStr rfl rfl rfl ?_) | (refine G.atShr ?_; refine G.shr rfl rfl Zj rfl (by simp only [IntKind.bits]; omega) rfl ?_)) | refine G.op rfl rfl ?_ | (refine G.atLen ?_; first | refine G.lenStr rfl (tyy rfl) rfl ?_) | (refine G.atConv ?_; first | (refine G.convW rfl (tyy rfl) (tyy rfl) rfl ?_; intro hcw; (try simp only [inR] at hcw))))
    . have hk : numOk s = false := by unfold numOk; rw [hok, Bool.true_and]; exact decide_eq_false hc
      refine G.done2 rfl rfl rfl [] (SubH.nil _) ⟨rfl, ?_⟩
      rw [hk]; rfl
    . have hk : numOk s = true := by unfold numOk; rw [hok, Bool.true_and]; exact decide_eq_true hc
      refine G.done2 rfl rfl rfl [] (SubH.nil _) ⟨rfl, ?_⟩
      rw [hk]; rfl
  . have hok' : getOk s 0 s.length = false := by simpa using hok
    refine Spec.enter Tryd.func106 rfl rfl ?_; intro w0
    repeat' (first | (show G _ (.ops .seq _ (⟨some _, .call { callee := .value (.func 96), args := _, argTypes := _ }, _, _, _, none⟩ :: _) :: _) _ _ _; refine G.call callGet7 rfl rfl (octet_Get _ _ _ (by omega) (by omega) (by omega) _) Ze ?_; rintro _ h1 H1 ⟨rfl, rfl⟩ hle; rw [hok']) | (refine G.atCode ?_; first | refine G.seq ?_ | refine G.region ?_ | refine G.ret ?_ | (refine G.cond rfl ?_ ?_ <;> intro hc <;> (try simp only [tests, reduceCtorEq] at hc) <;> (try exact Zf))) | refine G.endOps ?_ | refine G.op rfl rfl ?_ | (refine G.atLen ?_; first | refine G.lenStr rfl (tyy rfl) rfl ?_))
    have hk : numOk s = false := by unfold numOk; rw [hok']; rfl
    refine G.done2 rfl rfl rfl [] (SubH.nil _) ⟨rfl, ?_⟩
    rw [hk]; rfl
end Go.Proofs.YtibkffoeioidlaaDoor
namespace Go.Proofs.YtibkffoeioidlaaDoor
set_option linter.all false
set_option maxRecDepth 4000
open Go.RowKit

set_option maxRecDepth 8000 in
set_option maxHeartbeats 1000000 in
theorem tlv_Bool (s : List UInt8) (h : Heap) :
    Spec Tryd.prog 108 [str s] h [] (fun v _ H' => H' = [] /\ v = .tuple #[.bool (decide (s = [255])), .bool (decide (s = [255] \/ s = [0]))]) := by
  refine Spec.enter Tryd.func108 rfl rfl ?_; intro w0
  repeat' (first | (refine G.atCode ?_; first | refine G.seq ?_ | refine G.region ?_ | refine G.block ?_ | refine G.skip ?_ | refine G.exit rfl ?_ | refine G.ret ?_ | (refine G.cond rfl ?_ ?_ <;> intro hc <;> (try simp only [tests, reduceCtorEq] at hc) <;> (try exact Zf))) | refine G.endOps ?_ | refine G.endStill ?_ | refine G.endHeld ?_ | refine G.back ?_ | refine G.endBlk ?_ | (refine G.atGd ?_; first | refine G.guardYes rfl rfl ?_ | refine G.guardNoS rfl rfl rfl ?_ | refine G.guardU rfl rfl rfl ?_ | (refine G.guardS rfl rfl rfl ?_ ?_ <;> intro hc <;> (try simp only [tests, reduceCtorEq] at hc) <;> (try exact Zf)) | refine G.guardNo rfl rfl ?_ (by rintro i ⟨⟩; rfl) | (refine G.guard rfl rfl ?_ ?_ (by rintro i ⟨⟩; rfl) <;> intro hc <;> (try simp only [tests, reduceCtorEq] at hc) <;> (try exact Zf))) | (refine G.atBin ?_; first | (refine G.atEql ?_; first | refine G.op rfl rfl ?_ | refine G.eqStr0 rfl rfl rfl ?_ | refine G.eqStr rfl rfl rfl ?_ | refine G.eqPtr rfl rfl (tyy rfl) rfl ?_ | refine G.eqBool rfl rfl (tyy rfl) rfl ?_) | refine G.op rfl rfl ?_ ) | refine G.op rfl rfl ?_              )
  . exact G.done2 rfl rfl rfl [] (SubH.nil _) ⟨rfl, by simp [hc]⟩
  . exact G.done2 rfl rfl rfl [] (SubH.nil _) ⟨rfl, by simp [hc]⟩

theorem callPut1 : Callable Tryd.prog 83 := ⟨_, Tryd.func83, by kernel_rfl, rfl⟩
theorem callSigned : Callable Tryd.prog 84 := ⟨_, Tryd.func84, by kernel_rfl, rfl⟩
end Go.Proofs.YtibkffoeioidlaaDoor
