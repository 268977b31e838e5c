/- The plain laws of a head. -/
import Derived.Test.YtibkffoeioidlaaDoorTlvS
namespace Go.Proofs.YtibkffoeioidlaaDoor
set_option linter.all false
set_option maxRecDepth 4000
open Go.RowKit

theorem pB1 (n : Nat) : putB n 1 = [UInt8.ofNat n] := by simp [putB]
theorem pB2 (n : Nat) : putB n 2 = [UInt8.ofNat (n / 256), UInt8.ofNat n] := by simp [putB]
theorem pB3 (n : Nat) : putB n 3 = [UInt8.ofNat (n / 65536), UInt8.ofNat (n / 256), UInt8.ofNat n] := by simp [putB]
theorem head_cases (t : Int) (n : Nat) (hn : n ≤ 1048576) :
    (n < 128 ∧ headB t n = [UInt8.ofNat t.toNat, UInt8.ofNat n]) ∨ (128 ≤ n ∧ n < 256 ∧ headB t n = [UInt8.ofNat t.toNat, 129, UInt8.ofNat n]) ∨
    (256 ≤ n ∧ n < 65536 ∧ headB t n = [UInt8.ofNat t.toNat, 130, UInt8.ofNat (n / 256), UInt8.ofNat n]) ∨ (65536 ≤ n ∧ headB t n = [UInt8.ofNat t.toNat, 131, UInt8.ofNat (n / 65536), UInt8.ofNat (n / 256), UInt8.ofNat n]) := by
  unfold headB lenB
  by_cases h1 : n < 128
  · exact .inl ⟨h1, by rw [if_pos h1, pB1, pB1]; rfl⟩
  · by_cases h2 : n < 256
    · exact .inr (.inl ⟨by omega, h2, by rw [if_neg h1, if_pos h2, pB1, pB1, pB1]; rfl⟩)
    · by_cases h3 : n < 65536
      · exact .inr (.inr (.inl ⟨by omega, h3, by rw [if_neg h1, if_neg h2, if_pos h3, pB1, pB1, pB2]; rfl⟩))
      · exact .inr (.inr (.inr ⟨by omega, by rw [if_neg h1, if_neg h2, if_neg h3, pB1, pB1, pB3]; rfl⟩))
theorem bnd_short {t u : UInt8} {x : List UInt8} (h : u.toNat < 128) : bndM (t :: u :: x) = ((u.toNat : Int), 2, 0) := by
  have hb : byteAt (t :: u :: x) 1 = u.toNat := by simp [byteAt]
  unfold bndM
  simp only [hb]
  rw [if_neg (by simp), if_pos (by omega)]
theorem bnd_long {t u : UInt8} {l x : List UInt8} (h : u.toNat = 128 + l.length) (hl : 1 ≤ l.length ∧ l.length ≤ 4) (hv : beN l ≤ 1048576) : bndM (t :: u :: (l ++ x)) = ((beN l : Int), 2 + (l.length : Int), 0) := by
  have hb : byteAt (t :: u :: (l ++ x)) 1 = u.toNat := by simp [byteAt]
  have hk : ((u.toNat : Nat) : Int) - 128 = l.length := by omega
  have hg : getOk (t :: u :: (l ++ x)) 2 l.length = true := by unfold getOk; simp; omega
  have hgv : getV (t :: u :: (l ++ x)) 2 l.length = beN l := by unfold getV; rw [hg]; simp
  unfold bndM
  simp only [hb]
  rw [if_neg (by simp), if_neg (by omega), if_neg (by omega), hk, hg, hgv, if_neg (by simp), if_neg (by omega), show ((u.toNat : Nat) : Int) - 126 = 2 + (l.length : Int) by omega]
theorem bnd_head (t : Int) (n : Nat) (hn : n ≤ 1048576) (x : List UInt8) : bndM (headB t n ++ x) = ((n : Int), ((headB t n).length : Int), 0) := by
  rcases head_cases t n hn with ⟨h, e⟩ | ⟨h1, h2, e⟩ | ⟨h1, h2, e⟩ | ⟨h1, e⟩
  · rw [e]
    have hu : (UInt8.ofNat n).toNat = n := by rw [UInt8.toNat_ofNat']; omega
    have := bnd_short (t := UInt8.ofNat t.toNat) (u := UInt8.ofNat n) (x := x) (by omega)
    rw [hu] at this
    simpa using this
  · rw [e]
    have hv : beN [UInt8.ofNat n] = n := by simp [beN]; omega
    have := bnd_long (t := UInt8.ofNat t.toNat) (u := 129) (l := [UInt8.ofNat n]) (x := x) rfl (by simp) (by omega)
    rw [hv] at this
    simpa using this
  · rw [e]
    have hv : beN [UInt8.ofNat (n / 256), UInt8.ofNat n] = n := by simp [beN]; omega
    have := bnd_long (t := UInt8.ofNat t.toNat) (u := 130) (l := [UInt8.ofNat (n / 256), UInt8.ofNat n]) (x := x) rfl (by simp) (by omega)
    rw [hv] at this
    simpa using this
  · rw [e]
    have hv : beN [UInt8.ofNat (n / 65536), UInt8.ofNat (n / 256), UInt8.ofNat n] = n := by simp [beN]; omega
    have := bnd_long (t := UInt8.ofNat t.toNat) (u := 131) (l := [UInt8.ofNat (n / 65536), UInt8.ofNat (n / 256), UInt8.ofNat n]) (x := x) rfl (by simp) (by omega)
    rw [hv] at this
    simpa using this
theorem head_byte (t : Int) (n : Nat) (ht : 0 ≤ t ∧ t ≤ 255) (x : List UInt8) : byteAt (headB t n ++ x) 0 = t.toNat := by
  unfold headB
  rw [pB1]
  simp [byteAt]; omega
theorem head_ge (t : Int) (n : Nat) : 2 ≤ (headB t n).length := by
  unfold headB lenB
  split
  · simp [putB_length]
  · split
    · simp [putB_length]
    · split <;> simp [putB_length]

theorem putM_ok {d t : Int} {data : List UInt8} {ks : List Nd} (h : (putM d (.mk t data ks)).2 = 0) :
    d ≤ 64 ∧ 0 ≤ t ∧ t ≤ 255 ∧ ¬ ((t.toNat &&& 31 : Nat) : Int) = 31 ∧ (¬ ((t.toNat &&& 32 : Nat) : Int) = 0 → data = []) ∧ (((t.toNat &&& 32 : Nat) : Int) = 0 → ks = []) ∧ (putsM (d + 1) ks).2 = 0 ∧
    (data ++ (putsM (d + 1) ks).1).length ≤ 1048576 ∧ (putM d (.mk t data ks)).1 = headB t (data ++ (putsM (d + 1) ks).1).length ++ (data ++ (putsM (d + 1) ks).1) := by
  rw [putM] at h ⊢
  split at h
  · cases h
  · rename_i c1
    rw [if_neg c1]
    split at h
    · cases h
    · rename_i c2
      rw [if_neg c2]
      split at h
      · cases h
      · rename_i c3
        rw [if_neg c3]
        split at h
        · rename_i c4; exact absurd h c4
        · rename_i c4
          rw [if_neg c4]
          split at h
          · cases h
          · rename_i c5
            rw [if_neg c5]
            refine ⟨by omega, by omega, by omega, by omega, fun hq => ?_, fun hq => ?_, by simpa using c4, by omega, rfl⟩
            · exact List.eq_nil_of_length_eq_zero (Classical.byContradiction fun hl => c3 (.inl ⟨hq, hl⟩))
            · exact List.eq_nil_of_length_eq_zero (Classical.byContradiction fun hl => c3 (.inr ⟨hq, hl⟩))
theorem putM_pos {d : Int} {a : Nd} (h : (putM d a).2 = 0) : 2 ≤ (putM d a).1.length := by
  cases a with
  | mk t data ks =>
    obtain ⟨_, _, _, _, _, _, _, _, e⟩ := putM_ok h
    have := head_ge t (data ++ (putsM (d + 1) ks).1).length
    rw [e, List.length_append]; omega
end Go.Proofs.YtibkffoeioidlaaDoor
