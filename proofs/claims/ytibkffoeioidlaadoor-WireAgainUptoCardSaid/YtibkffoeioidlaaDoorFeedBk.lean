/- The plain laws of a head. -/
import Derived.Test.YtibkffoeioidlaaDoorTlvS
import Derived.Test.YtibkffoeioidlaaDoorTlvQ
import Derived.Test.YtibkffoeioidlaaDoorTlvM
import Derived.KernelRfl
import Derived.Test.YtibkffoeioidlaaDoorTlvA
namespace Go.Proofs.YtibkffoeioidlaaDoor
set_option linter.all false
set_option maxRecDepth 4000
open Go.RowKit

theorem pB1 (n : Nat) : putB n 1 = [UInt8.ofNat n] := by simp [putB]
theorem pB2 (n : Nat) : putB n 2 = [UInt8.ofNat (n / 256), UInt8.ofNat n] := by simp [putB]
theorem pB3 (n : Nat) : putB n 3 = [UInt8.ofNat (n / 65536), UInt8.ofNat (n / 256), UInt8.ofNat n] := by simp [putB]
theorem head_cases (t : Int) (n : Nat) (hn : n ≤ 1048576) :
    (n < 128 ∧ headB t n = [UInt8.ofNat t.toNat, UInt8.ofNat n]) ∨ (128 ≤ n ∧ n < 256 ∧ headB t n = [UInt8.ofNat t.toNat, 129, UInt8.ofNat n]) ∨
    (256 ≤ n ∧ n < 65536 ∧ headB t n = [UInt8.ofNat t.toNat, 130, UInt8.ofNat (n / 256), UInt8.ofNat n]) ∨ (65536 ≤ n ∧ headB t n = [UInt8.ofNat t.toNat, 131, UInt8.ofNat (n / 65536), UInt8.ofNat (n / 256), UInt8.ofNat n]) := by
  unfold headB lenB
  by_cases h1 : n < 128
  · exact .inl ⟨h1, by rw [if_pos h1, pB1, pB1]; rfl⟩
  · by_cases h2 : n < 256
    · exact .inr (.inl ⟨by omega, h2, by rw [if_neg h1, if_pos h2, pB1, pB1, pB1]; rfl⟩)
    · by_cases h3 : n < 65536
      · exact .inr (.inr (.inl ⟨by omega, h3, by rw [if_neg h1, if_neg h2, if_pos h3, pB1, pB1, pB2]; rfl⟩))
      · exact .inr (.inr (.inr ⟨by omega, by rw [if_neg h1, if_neg h2, if_neg h3, pB1, pB1, pB3]; rfl⟩))
theorem bnd_short {t u : UInt8} {x : List UInt8} (h : u.toNat < 128) : bndM (t :: u :: x) = ((u.toNat : Int), 2, 0) := by
  have hb : byteAt (t :: u :: x) 1 = u.toNat := by simp [byteAt]
  unfold bndM
  simp only [hb]
  rw [if_neg (by simp), if_pos (by omega)]
theorem bnd_long {t u : UInt8} {l x : List UInt8} (h : u.toNat = 128 + l.length) (hl : 1 ≤ l.length ∧ l.length ≤ 4) (hv : beN l ≤ 1048576) : bndM (t :: u :: (l ++ x)) = ((beN l : Int), 2 + (l.length : Int), 0) := by
  have hb : byteAt (t :: u :: (l ++ x)) 1 = u.toNat := by simp [byteAt]
  have hk : ((u.toNat : Nat) : Int) - 128 = l.length := by omega
  have hg : getOk (t :: u :: (l ++ x)) 2 l.length = true := by unfold getOk; simp; omega
  have hgv : getV (t :: u :: (l ++ x)) 2 l.length = beN l := by unfold getV; rw [hg]; simp
  unfold bndM
  simp only [hb]
  rw [if_neg (by simp), if_neg (by omega), if_neg (by omega), hk, hg, hgv, if_neg (by simp), if_neg (by omega), show ((u.toNat : Nat) : Int) - 126 = 2 + (l.length : Int) by omega]
theorem bnd_head (t : Int) (n : Nat) (hn : n ≤ 1048576) (x : List UInt8) : bndM (headB t n ++ x) = ((n : Int), ((headB t n).length : Int), 0) := by
  rcases head_cases t n hn with ⟨h, e⟩ | ⟨h1, h2, e⟩ | ⟨h1, h2, e⟩ | ⟨h1, e⟩
  · rw [e]
    have hu : (UInt8.ofNat n).toNat = n := by rw [UInt8.toNat_ofNat']; omega
    have := bnd_short (t := UInt8.ofNat t.toNat) (u := UInt8.ofNat n) (x := x) (by omega)
    rw [hu] at this
    simpa using this
  · rw [e]
    have hv : beN [UInt8.ofNat n] = n := by simp [beN]; omega
    have := bnd_long (t := UInt8.ofNat t.toNat) (u := 129) (l := [UInt8.ofNat n]) (x := x) rfl (by simp) (by omega)
    rw [hv] at this
    simpa using this
  · rw [e]
    have hv : beN [UInt8.ofNat (n / 256), UInt8.ofNat n] = n := by simp [beN]; omega
    have := bnd_long (t := UInt8.ofNat t.toNat) (u := 130) (l := [UInt8.ofNat (n / 256), UInt8.ofNat n]) (x := x) rfl (by simp) (by omega)
    rw [hv] at this
    simpa using this
  · rw [e]
    have hv : beN [UInt8.ofNat (n / 65536), UInt8.ofNat (n / 256), UInt8.ofNat n] = n := by simp [beN]; omega
    have := bnd_long (t := UInt8.ofNat t.toNat) (u := 131) (l := [UInt8.ofNat (n / 65536), UInt8.ofNat (n / 256), UInt8.ofNat n]) (x := x) rfl (by simp) (by omega)
    rw [hv] at this
    simpa using this
theorem head_byte (t : Int) (n : Nat) (ht : 0 ≤ t ∧ t ≤ 255) (x : List UInt8) : byteAt (headB t n ++ x) 0 = t.toNat := by
  unfold headB
  rw [pB1]
  simp [byteAt]; omega
theorem head_ge (t : Int) (n : Nat) : 2 ≤ (headB t n).length := by
  unfold headB lenB
  split
  · simp [putB_length]
  · split
    · simp [putB_length]
    · split <;> simp [putB_length]

theorem putM_ok {d t : Int} {data : List UInt8} {ks : List Nd} (h : (putM d (.mk t data ks)).2 = 0) :
    d ≤ 64 ∧ 0 ≤ t ∧ t ≤ 255 ∧ ¬ ((t.toNat &&& 31 : Nat) : Int) = 31 ∧ (¬ ((t.toNat &&& 32 : Nat) : Int) = 0 → data = []) ∧ (((t.toNat &&& 32 : Nat) : Int) = 0 → ks = []) ∧ (putsM (d + 1) ks).2 = 0 ∧
    (data ++ (putsM (d + 1) ks).1).length ≤ 1048576 ∧ (putM d (.mk t data ks)).1 = headB t (data ++ (putsM (d + 1) ks).1).length ++ (data ++ (putsM (d + 1) ks).1) := by
  rw [putM] at h ⊢
  split at h
  · cases h
  · rename_i c1
    rw [if_neg c1]
    split at h
    · cases h
    · rename_i c2
      rw [if_neg c2]
      split at h
      · cases h
      · rename_i c3
        rw [if_neg c3]
        split at h
        · rename_i c4; exact absurd h c4
        · rename_i c4
          rw [if_neg c4]
          split at h
          · cases h
          · rename_i c5
            rw [if_neg c5]
            refine ⟨by omega, by omega, by omega, by omega, fun hq => ?_, fun hq => ?_, by simpa using c4, by omega, rfl⟩
            · exact List.eq_nil_of_length_eq_zero (Classical.byContradiction fun hl => c3 (.inl ⟨hq, hl⟩))
            · exact List.eq_nil_of_length_eq_zero (Classical.byContradiction fun hl => c3 (.inr ⟨hq, hl⟩))
theorem putM_pos {d : Int} {a : Nd} (h : (putM d a).2 = 0) : 2 ≤ (putM d a).1.length := by
  cases a with
  | mk t data ks =>
    obtain ⟨_, _, _, _, _, _, _, _, e⟩ := putM_ok h
    have := head_ge t (data ++ (putsM (d + 1) ks).1).length
    rw [e, List.length_append]; omega
end Go.Proofs.YtibkffoeioidlaaDoor
namespace Go.Proofs.YtibkffoeioidlaaDoor
set_option linter.all false
set_option maxRecDepth 4000
open Go.RowKit

structure ESt where
  ks : List Nd
  rows : List (List Value)
  A : Option Addr
  c : Nat
  r : List UInt8
  n : Nat
  bad : Int
  place : Int

end Go.Proofs.YtibkffoeioidlaaDoor
namespace Go.Proofs.YtibkffoeioidlaaDoor
set_option linter.all false
set_option maxRecDepth 4000
open Go.RowKit

theorem NodeC.mono' {h h' : Heap} {n : Nd} {r : List Value} (hn : NodeC h n r) (hl : Heap.le h h') : NodeC h' n r := NodeC.mono hl n r hn

end Go.Proofs.YtibkffoeioidlaaDoor
namespace Go.Proofs.YtibkffoeioidlaaDoor
set_option linter.all false
set_option maxRecDepth 4000
open Go.RowKit

theorem numOk_iff {s : List UInt8} (hs : 1 ≤ s.length ∧ s.length ≤ 8) : numOk s = decide (putB (IntKind.u64.wrap (tcV s)).toNat (intF (tcV s) 7 1) = s) := by
  have hok : getOk s 0 s.length = true := by unfold getOk; simp; omega
  unfold numOk
  rw [hok, numV_tc hs, Bool.true_and]
theorem intF_fit {n : Int} (hn : inR .i64 n) : ∀ (f k : Nat), k + f = 8 → 1 ≤ k → (n / 2 ^ (8 * intF n f k - 1) = 0 ∨ n / 2 ^ (8 * intF n f k - 1) = -1)
  | 0, k, h, _ => by
    have hk : k = 8 := by omega
    subst hk
    simp only [inR] at hn
    simp only [intF, Nat.reduceMul, Nat.reduceSub, Int.reducePow]
    omega
  | f + 1, k, h, h1 => by
    rw [intF]
    split
    · exact intF_fit hn f (k + 1) (by omega) (by omega)
    · rename_i hc
      by_cases h0 : n / 2 ^ (8 * k - 1) = 0
      · exact .inl h0
      · exact .inr (Classical.byContradiction fun h2 => hc ⟨h0, h2⟩)
theorem int_back {n : Int} (hn : inR .i64 n) : numOk (putB (IntKind.u64.wrap n).toNat (intF n 7 1)) = true ∧ numV (putB (IntKind.u64.wrap n).toNat (intF n 7 1)) = n := by
  have hr := intF_range n 7 1
  have hl : 1 ≤ (putB (IntKind.u64.wrap n).toNat (intF n 7 1)).length ∧ (putB (IntKind.u64.wrap n).toNat (intF n 7 1)).length ≤ 8 := by rw [putB_length]; omega
  have ht : tcV (putB (IntKind.u64.wrap n).toNat (intF n 7 1)) = n := (tc_fit hn ⟨by omega, by omega⟩).2 (intF_fit hn 7 1 rfl (by omega))
  rw [numOk_iff hl, numV_tc hl, ht]
  exact ⟨by simp, rfl⟩

end Go.Proofs.YtibkffoeioidlaaDoor
namespace Go.Proofs.YtibkffoeioidlaaDoor
set_option linter.all false
set_option maxRecDepth 4000
open Go.RowKit

def cutM (l : List UInt8) : Int × Int :=
  if l.length = 0 then (0, 0) else if byteAt l 0 ≠ 48 then (0, 4) else if l.length < 2 then (0, 0) else
  let k : Int := byteAt l 1
  if k < 128 then (if l.length < 2 + k then (0, 0) else (2 + k, 0))
  else if k = 128 ∨ 132 < k then (0, 8)
  else if getOk l 2 (k - 128) = false then (0, 0)
  else if 1048576 < getV l 2 (k - 128) then (0, 5)
  else if (l.length : Int) < k - 126 + getV l 2 (k - 128) then (0, 0) else (k - 126 + getV l 2 (k - 128), 0)
end Go.Proofs.YtibkffoeioidlaaDoor
namespace Go.Proofs.YtibkffoeioidlaaDoor
set_option linter.all false
set_option maxRecDepth 4000
open Go.RowKit

theorem cut_bnd {s : List UInt8} {n m : Int} (h0 : byteAt s 0 = 48) (hb : bndM s = (n, m, 0)) (hl : n + m ≤ s.length) : cutM s = (n + m, 0) := by
  unfold bndM at hb
  simp only at hb
  split at hb
  · simp only [Prod.mk.injEq] at hb; omega
  · rename_i c1
    unfold cutM
    simp only
    rw [if_neg (by omega), if_neg (by omega), if_neg (by omega)]
    split at hb
    · rename_i c2
      simp only [Prod.mk.injEq] at hb; obtain ⟨e1, e2, _⟩ := hb
      rw [if_pos c2, if_neg (by omega)]
      refine Prod.ext ?_ rfl
      simp only; omega
    · rename_i c2
      rw [if_neg c2]
      split at hb
      · simp only [Prod.mk.injEq] at hb; omega
      · rename_i c3
        rw [if_neg c3]
        split at hb
        · simp only [Prod.mk.injEq] at hb; omega
        · rename_i c4
          rw [if_neg c4]
          split at hb
          · simp only [Prod.mk.injEq] at hb; omega
          · rename_i c5
            simp only [Prod.mk.injEq] at hb; obtain ⟨e1, e2, _⟩ := hb
            rw [if_neg c5, if_neg (by omega)]
            refine Prod.ext ?_ rfl
            simp only; omega
def Msg (w : List UInt8) : Prop := 0 < w.length ∧ ∀ t, cutM (w ++ t) = ((w.length : Int), 0)
theorem msg_put {ks : List Nd} (h : (putM 1 (.mk 48 [] ks)).2 = 0) : Msg (putM 1 (.mk 48 [] ks)).1 := by
  obtain ⟨h1, h2, h3, h4, _, _, _, h8, h9⟩ := putM_ok h
  refine ⟨by have := putM_pos h; omega, fun t => ?_⟩
  rw [h9, List.append_assoc]
  have hb := bnd_head 48 _ h8 (([] : List UInt8) ++ (putsM (1 + 1) ks).1 ++ t)
  rw [cut_bnd (head_byte 48 _ ⟨by omega, by omega⟩ _) hb (by simp only [List.length_append]; omega)]
  refine Prod.ext ?_ rfl
  simp only [List.length_append]; omega
theorem flatten_cons (w : List UInt8) (ws : List (List UInt8)) : (w :: ws).flatten = w ++ ws.flatten := rfl
end Go.Proofs.YtibkffoeioidlaaDoor
