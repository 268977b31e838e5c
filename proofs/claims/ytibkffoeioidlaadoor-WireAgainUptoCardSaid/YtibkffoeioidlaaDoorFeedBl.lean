/- The plain laws of a head. -/
import Derived.Test.YtibkffoeioidlaaDoorTlvS
import Derived.Test.YtibkffoeioidlaaDoorTlvN
import Derived.Test.YtibkffoeioidlaaDoorTlvQ
import Derived.KernelRfl
import Derived.Test.YtibkffoeioidlaaDoorFeed
namespace Go.Proofs.YtibkffoeioidlaaDoor
set_option linter.all false
set_option maxRecDepth 4000
open Go.RowKit

theorem pB1 (n : Nat) : putB n 1 = [UInt8.ofNat n] := by simp [putB]
theorem pB2 (n : Nat) : putB n 2 = [UInt8.ofNat (n / 256), UInt8.ofNat n] := by simp [putB]
theorem pB3 (n : Nat) : putB n 3 = [UInt8.ofNat (n / 65536), UInt8.ofNat (n / 256), UInt8.ofNat n] := by simp [putB]
theorem head_cases (t : Int) (n : Nat) (hn : n <= 1048576) :
    (n < 128 /\ headB t n = [UInt8.ofNat t.toNat, UInt8.ofNat n]) \/ (128 <= n /\ n < 256 /\ headB t n = [UInt8.ofNat t.toNat, 129, UInt8.ofNat n]) ∨
    (256 <= n /\ n < 65536 /\ headB t n = [UInt8.ofNat t.toNat, 130, UInt8.ofNat (n / 256), UInt8.ofNat n]) \/ (65536 <= n /\ headB t n = [UInt8.ofNat t.toNat, 131, UInt8.ofNat (n / 65536), UInt8.ofNat (n / 256), UInt8.ofNat n]) := by
  unfold headB lenB
  by_cases h1 : n < 128
  . exact .inl ⟨h1, by rw [if_pos h1, pB1, pB1]; rfl⟩
  . by_cases h2 : n < 256
    . exact .inr (.inl ⟨by omega, h2, by rw [if_neg h1, if_pos h2, pB1, pB1, pB1]; rfl⟩)
    . by_cases h3 : n < 65536
      . exact .inr (.inr (.inl ⟨by omega, h3, by rw [if_neg h1, if_neg h2, if_pos h3, pB1, pB1, pB2]; rfl⟩))
      . exact .inr (.inr (.inr ⟨by omega, by rw [if_neg h1, if_neg h2, if_neg h3, pB1, pB1, pB3]; rfl⟩))
theorem bnd_short {t u : UInt8} {x : List UInt8} (h : u.toNat < 128) : bndM (t :: u :: x) = ((u.toNat : Int), 2, 0) := by
  have hb : byteAt (t :: u :: x) 1 = u.toNat := by simp [byteAt]
  unfold bndM
  simp only [hb]
  rw [if_neg (by simp), if_pos (by omega)]
theorem bnd_long {t u : UInt8} {l x : List UInt8} (h : u.toNat = 128 + l.length) (hl : 1 <= l.length /\ l.length <= 4) (hv : beN l <= 1048576) : bndM (t :: u :: (l ++ x)) = ((beN l : Int), 2 + (l.length : Int), 0) := by
  have hb : byteAt (t :: u :: (l ++ x)) 1 = u.toNat := by simp [byteAt]
  have hk : ((u.toNat : Nat) : Int) - 128 = l.length := by omega
  have hg : getOk (t :: u :: (l ++ x)) 2 l.length = true := by unfold getOk; simp; omega
  have hgv : getV (t :: u :: (l ++ x)) 2 l.length = beN l := by unfold getV; rw [hg]; simp
  unfold bndM
  simp only [hb]
  rw [if_neg (by simp), if_neg (by omega), if_neg (by omega), hk, hg, hgv, if_neg (by simp), if_neg (by omega), show ((u.toNat : Nat) : Int) - 126 = 2 + (l.length : Int) by omega]
theorem bnd_head (t : Int) (n : Nat) (hn : n <= 1048576) (x : List UInt8) : bndM (headB t n ++ x) = ((n : Int), ((headB t n).length : Int), 0) := by
  rcases head_cases t n hn with ⟨h, e⟩ | ⟨h1, h2, e⟩ | ⟨h1, h2, e⟩ | ⟨h1, e⟩
  . rw [e]
    have hu : (UInt8.ofNat n).toNat = n := by rw [UInt8.toNat_ofNat']; omega
    have := bnd_short (t := UInt8.ofNat t.toNat) (u := UInt8.ofNat n) (x := x) (by omega)
    rw [hu] at this
    simpa using this
  . rw [e]
    have hv : beN [UInt8.ofNat n] = n := by simp [beN]; omega
    have := bnd_long (t := UInt8.ofNat t.toNat) (u := 129) (l := [UInt8.ofNat n]) (x := x) rfl (by simp) (by omega)
    rw [hv] at this
    simpa using this
  . rw [e]
    have hv : beN [UInt8.ofNat (n / 256), UInt8.ofNat n] = n := by simp [beN]; omega
    have := bnd_long (t := UInt8.ofNat t.toNat) (u := 130) (l := [UInt8.ofNat (n / 256), UInt8.ofNat n]) (x := x) rfl (by simp) (by omega)
    rw [hv] at this
    simpa using this
  . rw [e]
    have hv : beN [UInt8.ofNat (n / 65536), UInt8.ofNat (n / 256), UInt8.ofNat n] = n := by simp [beN]; omega
    have := bnd_long (t := UInt8.ofNat t.toNat) (u := 131) (l := [UInt8.ofNat (n / 65536), UInt8.ofNat (n / 256), UInt8.ofNat n]) (x := x) rfl (by simp) (by omega)
    rw [hv] at this
    simpa using this
theorem head_byte (t : Int) (n : Nat) (ht : 0 <= t /\ t <= 255) (x : List UInt8) : byteAt (headB t n ++ x) 0 = t.toNat := by
  unfold headB
  rw [pB1]
  simp [byteAt]; omega
theorem head_ge (t : Int) (n : Nat) : 2 <= (headB t n).length := by
  unfold headB lenB
  split
  . simp [putB_length]
  . split
    . simp [putB_length]
    . split <;> simp [putB_length]

theorem putM_ok {d t : Int} {data : List UInt8} {ks : List Nd} (h : (putM d (.mk t data ks)).2 = 0) :
    d <= 64 /\ 0 <= t /\ t <= 255 /\ ¬ ((t.toNat &&& 31 : Nat) : Int) = 31 /\ (¬ ((t.toNat &&& 32 : Nat) : Int) = 0 -> data = []) /\ (((t.toNat &&& 32 : Nat) : Int) = 0 -> ks = []) /\ (putsM (d + 1) ks).2 = 0 ∧
    (data ++ (putsM (d + 1) ks).1).length <= 1048576 /\ (putM d (.mk t data ks)).1 = headB t (data ++ (putsM (d + 1) ks).1).length ++ (data ++ (putsM (d + 1) ks).1) := by
  rw [putM] at h ⊢
  split at h
  . cases h
  . rename_i c1
    rw [if_neg c1]
    split at h
    . cases h
    . rename_i c2
      rw [if_neg c2]
      split at h
      . cases h
      . rename_i c3
        rw [if_neg c3]
        split at h
        . rename_i c4; exact absurd h c4
        . rename_i c4
          rw [if_neg c4]
          split at h
          . cases h
          . rename_i c5
            rw [if_neg c5]
            refine ⟨by omega, by omega, by omega, by omega, fun hq => ?_, fun hq => ?_, by simpa using c4, by omega, rfl⟩
            . exact List.eq_nil_of_length_eq_zero (Classical.byContradiction fun hl => c3 (.inl ⟨hq, hl⟩))
            . exact List.eq_nil_of_length_eq_zero (Classical.byContradiction fun hl => c3 (.inr ⟨hq, hl⟩))
theorem putM_pos {d : Int} {a : Nd} (h : (putM d a).2 = 0) : 2 <= (putM d a).1.length := by
  cases a with
  | mk t data ks =>
    obtain ⟨_, _, _, _, _, _, _, _, e⟩ := putM_ok h
    have := head_ge t (data ++ (putsM (d + 1) ks).1).length
    rw [e, List.length_append]; omega
end Go.Proofs.YtibkffoeioidlaaDoor
namespace Go.Proofs.YtibkffoeioidlaaDoor
set_option linter.all false
set_option maxRecDepth 4000
open Go.RowKit

set_option maxRecDepth 8000 in
set_option maxHeartbeats 1000000 in
theorem tlv_Bool (s : List UInt8) (h : Heap) :
    Spec Tryd.prog 108 [str s] h [] (fun v _ H' => H' = [] /\ v = .tuple #[.bool (decide (s = [255])), .bool (decide (s = [255] \/ s = [0]))]) := by
  refine Spec.enter Tryd.func108 rfl rfl ?_; intro w0
  repeat' (first | (refine G.atCode ?_; first | refine G.seq ?_ | refine G.region ?_ | refine G.block ?_ | refine G.skip ?_ | refine G.exit rfl ?_ | refine G.ret ?_ | (refine G.cond rfl ?_ ?_ <;> intro hc <;> (try simp only [tests, reduceCtorEq] at hc) <;> (try exact Zf))) | refine G.endOps ?_ | refine G.endStill ?_ | refine G.endHeld ?_ | refine G.back ?_ | refine G.endBlk ?_ | (refine G.atGd ?_; first | refine G.guardYes rfl rfl ?_ | refine G.guardNoS rfl rfl rfl ?_ | refine G.guardU rfl rfl rfl ?_ | (refine G.guardS rfl rfl rfl ?_ ?_ <;> intro hc <;> (try simp only [tests, reduceCtorEq] at hc) <;> (try exact Zf)) | refine G.guardNo rfl rfl ?_ (by rintro i ⟨⟩; rfl) | (refine G.guard rfl rfl ?_ ?_ (by rintro i ⟨⟩; rfl) <;> intro hc <;> (try simp only [tests, reduceCtorEq] at hc) <;> (try exact Zf))) | (refine G.atBin ?_; first | (refine G.atEql ?_; first | refine G.op rfl rfl ?_ | refine G.eqStr0 rfl rfl rfl ?_ | refine G.eqStr rfl rfl rfl ?_ | refine G.eqPtr rfl rfl (tyy rfl) rfl ?_ | refine G.eqBool rfl rfl (tyy rfl) rfl ?_) | refine G.op rfl rfl ?_ ) | refine G.op rfl rfl ?_              )
  . exact G.done2 rfl rfl rfl [] (SubH.nil _) ⟨rfl, by simp [hc]⟩
  . exact G.done2 rfl rfl rfl [] (SubH.nil _) ⟨rfl, by simp [hc]⟩

end Go.Proofs.YtibkffoeioidlaaDoor
namespace Go.Proofs.YtibkffoeioidlaaDoor
set_option linter.all false
set_option maxRecDepth 4000
open Go.RowKit

def tcV (s : List UInt8) : Int := if byteAt s 0 < 128 then beN s else beN s - 256 ^ s.length
theorem beN_cons (b : UInt8) (l : List UInt8) : beN (b :: l) = b.toNat * 256 ^ l.length + beN l := by
  have : ∀ (l : List UInt8) (n : Nat), l.foldl (fun n c => n * 256 + c.toNat) n = n * 256 ^ l.length + l.foldl (fun n c => n * 256 + c.toNat) 0 := by
    intro l
    induction l with
    | nil => intro n; simp
    | cons c l ih =>
      intro n
      simp only [List.foldl_cons, List.length_cons]
      rw [ih (n * 256 + c.toNat), ih (0 * 256 + c.toNat), Nat.pow_succ, Nat.add_mul, Nat.zero_mul, Nat.zero_add, Nat.mul_assoc, Nat.mul_comm 256, Nat.add_assoc]
  have h := this l b.toNat
  simp only [beN, List.foldl_cons, Nat.zero_mul, Nat.zero_add]
  exact h
theorem beN_putB (n : Nat) : ∀ k, beN (putB n k) = n % 256 ^ k
  | 0 => by simp [putB, beN, Nat.mod_one]
  | k + 1 => by
    rw [putB, beN_cons, beN_putB n k, putB_length, UInt8.toNat_ofNat']
    have h1 : n % 256 ^ (k + 1) = (n / 256 ^ k % 256) * 256 ^ k + n % 256 ^ k := by
      rw [Nat.pow_succ, Nat.mod_mul, Nat.add_comm, Nat.mul_comm]
    rw [h1]
theorem byteAt_cons (b : UInt8) (l : List UInt8) : byteAt (b :: l) 0 = b.toNat := by simp [byteAt]
theorem putB_byte (n k : Nat) : byteAt (putB n (k + 1)) 0 = n / 256 ^ k % 256 := by
  rw [putB, byteAt_cons, UInt8.toNat_ofNat']
theorem tc_putB (n k : Nat) : tcV (putB n (k + 1)) = if n / 256 ^ k % 256 < 128 then ((n % 256 ^ (k + 1) : Nat) : Int) else ((n % 256 ^ (k + 1) : Nat) : Int) - ((256 ^ (k + 1) : Nat) : Int) := by
  unfold tcV
  rw [putB_byte, beN_putB, putB_length]
  simp

theorem u64wrap (n : Int) : IntKind.u64.wrap n = n % 18446744073709551616 := by
  simp only [IntKind.wrap, IntKind.bits, IntKind.signed]; simp
theorem tc_fit {n : Int} (hn : inR .i64 n) {k : Nat} (hk : 1 <= k /\ k <= 8) : tcV (putB (IntKind.u64.wrap n).toNat k) = n ↔ (n / 2 ^ (8 * k - 1) = 0 \/ n / 2 ^ (8 * k - 1) = -1) := by
  simp only [inR] at hn
  rw [u64wrap]
  obtain ⟨m, hm⟩ : ∃ m : Nat, (n % 18446744073709551616).toNat = m := ⟨_, rfl⟩
  have hmn : (m : Int) = n % 18446744073709551616 := by omega
  rw [hm]
  obtain ⟨h1, h2⟩ := hk
  have : k = 1 \/ k = 2 \/ k = 3 \/ k = 4 \/ k = 5 \/ k = 6 \/ k = 7 \/ k = 8 := by omega
  rcases this with rfl | rfl | rfl | rfl | rfl | rfl | rfl | rfl
  all_goals
    rw [tc_putB]
    simp only [Nat.reduceAdd, Nat.reducePow, Nat.reduceMul, Nat.reduceSub, Int.reducePow]
    split <;> omega

theorem numV_tc {s : List UInt8} (hs : 1 <= s.length /\ s.length <= 8) : numV s = tcV s := by
  have hok : getOk s 0 s.length = true := by unfold getOk; simp; omega
  have hv : getV s 0 s.length = beN s := by
    unfold getV; rw [hok]; simp
  unfold numV
  rw [hv]
  cases s with
  | nil => simp at hs
  | cons b l =>
    have hb := b.toNat_lt
    have hl := beN_lt l
    unfold tcV
    rw [byteAt_cons, beN_cons]
    simp only [List.length_cons] at *
    generalize hx : beN l = x at *
    generalize b.toNat = c at *
    have : l.length = 0 \/ l.length = 1 \/ l.length = 2 \/ l.length = 3 \/ l.length = 4 \/ l.length = 5 \/ l.length = 6 \/ l.length = 7 := by omega
    rcases this with h | h | h | h | h | h | h | h
    all_goals
      rw [h] at hl ⊢
      simp only [IntKind.wrap, IntKind.bits, IntKind.signed]
      simp only [Nat.reduceAdd, Nat.reducePow, Nat.reduceMul, Nat.reduceSub, Int.reducePow] at hl ⊢
      simp
      split <;> split <;> omega
end Go.Proofs.YtibkffoeioidlaaDoor
namespace Go.Proofs.YtibkffoeioidlaaDoor
set_option linter.all false
set_option maxRecDepth 4000
open Go.RowKit

structure ESt where
  ks : List Nd
  rows : List (List Value)
  A : Option Addr
  c : Nat
  r : List UInt8
  n : Nat
  bad : Int
  place : Int

end Go.Proofs.YtibkffoeioidlaaDoor
namespace Go.Proofs.YtibkffoeioidlaaDoor
set_option linter.all false
set_option maxRecDepth 4000
open Go.RowKit

theorem NodeC.mono' {h h' : Heap} {n : Nd} {r : List Value} (hn : NodeC h n r) (hl : Heap.le h h') : NodeC h' n r := NodeC.mono hl n r hn

end Go.Proofs.YtibkffoeioidlaaDoor
namespace Go.Proofs.YtibkffoeioidlaaDoor
set_option linter.all false
set_option maxRecDepth 4000
open Go.RowKit

theorem numOk_iff {s : List UInt8} (hs : 1 <= s.length /\ s.length <= 8) : numOk s = decide (putB (IntKind.u64.wrap (tcV s)).toNat (intF (tcV s) 7 1) = s) := by
  have hok : getOk s 0 s.length = true := by unfold getOk; simp; omega
  unfold numOk
  rw [hok, numV_tc hs, Bool.true_and]
theorem intF_fit {n : Int} (hn : inR .i64 n) : ∀ (f k : Nat), k + f = 8 -> 1 <= k -> (n / 2 ^ (8 * intF n f k - 1) = 0 \/ n / 2 ^ (8 * intF n f k - 1) = -1)
  | 0, k, h, _ => by
    have hk : k = 8 := by omega
    subst hk
    simp only [inR] at hn
    simp only [intF, Nat.reduceMul, Nat.reduceSub, Int.reducePow]
    omega
  | f + 1, k, h, h1 => by
    rw [intF]
    split
    . exact intF_fit hn f (k + 1) (by omega) (by omega)
    . rename_i hc
      by_cases h0 : n / 2 ^ (8 * k - 1) = 0
      . exact .inl h0
      . exact .inr (Classical.byContradiction fun h2 => hc ⟨h0, h2⟩)
theorem int_back {n : Int} (hn : inR .i64 n) : numOk (putB (IntKind.u64.wrap n).toNat (intF n 7 1)) = true /\ numV (putB (IntKind.u64.wrap n).toNat (intF n 7 1)) = n := by
  have hr := intF_range n 7 1
  have hl : 1 <= (putB (IntKind.u64.wrap n).toNat (intF n 7 1)).length /\ (putB (IntKind.u64.wrap n).toNat (intF n 7 1)).length <= 8 := by rw [putB_length]; omega
  have ht : tcV (putB (IntKind.u64.wrap n).toNat (intF n 7 1)) = n := (tc_fit hn ⟨by omega, by omega⟩).2 (intF_fit hn 7 1 rfl (by omega))
  rw [numOk_iff hl, numV_tc hl, ht]
  exact ⟨by simp, rfl⟩

end Go.Proofs.YtibkffoeioidlaaDoor
namespace Go.Proofs.YtibkffoeioidlaaDoor
set_option linter.all false
set_option maxRecDepth 4000
open Go.RowKit

theorem cut_bnd {s : List UInt8} {n m : Int} (h0 : byteAt s 0 = 48) (hb : bndM s = (n, m, 0)) (hl : n + m <= s.length) : cutM s = (n + m, 0) := by
  unfold bndM at hb
  simp only at hb
  split at hb
  . simp only [Prod.mk.injEq] at hb; omega
  . rename_i c1
    unfold cutM
    simp only
    rw [if_neg (by omega), if_neg (by omega), if_neg (by omega)]
    split at hb
    . rename_i c2
      simp only [Prod.mk.injEq] at hb; obtain ⟨e1, e2, _⟩ := hb
      rw [if_pos c2, if_neg (by omega)]
      refine Prod.ext ?_ rfl
      simp only; omega
    . rename_i c2
      rw [if_neg c2]
      split at hb
      . simp only [Prod.mk.injEq] at hb; omega
      . rename_i c3
        rw [if_neg c3]
        split at hb
        . simp only [Prod.mk.injEq] at hb; omega
        . rename_i c4
          rw [if_neg c4]
          split at hb
          . simp only [Prod.mk.injEq] at hb; omega
          . rename_i c5
            simp only [Prod.mk.injEq] at hb; obtain ⟨e1, e2, _⟩ := hb
            rw [if_neg c5, if_neg (by omega)]
            refine Prod.ext ?_ rfl
            simp only; omega
def Msg (w : List UInt8) : Prop := 0 < w.length /\ ∀ t, cutM (w ++ t) = ((w.length : Int), 0)
theorem msg_put {ks : List Nd} (h : (putM 1 (.mk 48 [] ks)).2 = 0) : Msg (putM 1 (.mk 48 [] ks)).1 := by
  obtain ⟨h1, h2, h3, h4, _, _, _, h8, h9⟩ := putM_ok h
  refine ⟨by have := putM_pos h; omega, fun t => ?_⟩
  rw [h9, List.append_assoc]
  have hb := bnd_head 48 _ h8 (([] : List UInt8) ++ (putsM (1 + 1) ks).1 ++ t)
  rw [cut_bnd (head_byte 48 _ ⟨by omega, by omega⟩ _) hb (by simp only [List.length_append]; omega)]
  refine Prod.ext ?_ rfl
  simp only [List.length_append]; omega
theorem flatten_cons (w : List UInt8) (ws : List (List UInt8)) : (w :: ws).flatten = w ++ ws.flatten := rfl
end Go.Proofs.YtibkffoeioidlaaDoor
namespace Go.Proofs.YtibkffoeioidlaaDoor
set_option linter.all false
set_option maxRecDepth 4000
open Go.RowKit

theorem feed_NextM (g : Nat) (w y : List UInt8) (hm : Msg w) (hl : (w ++ y).length <= 9223372036854775807) (h : Heap) :
    Spec Tryd.prog 31 [.pointer (some ⟨g, 0, none⟩)] h [buf g (w ++ y) 0] (fun v _ H' => H' = [buf g y 0] /\ v = .tuple #[str w, .bool true, .int .i64 0]) := by
  have hc := hm.2 y
  have := feed_Next g (w ++ y) hl w.length (by rw [hc]) (by rw [hc]) h
  rw [List.take_left, List.drop_left, decide_eq_true hm.1] at this
  exact this

end Go.Proofs.YtibkffoeioidlaaDoor
