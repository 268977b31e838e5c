/- The plain laws of a head. -/
import Derived.Test.YtibkffoeioidlaaDoorTlvS
import Derived.Test.YtibkffoeioidlaaDoorTlvQ
import Derived.KernelRfl
import Derived.Test.YtibkffoeioidlaaDoorTlvM
namespace Go.Proofs.YtibkffoeioidlaaDoor
set_option linter.all false
set_option maxRecDepth 4000
open Go.RowKit

theorem pB1 (n : Nat) : putB n 1 = [UInt8.ofNat n] := by simp [putB]
theorem pB2 (n : Nat) : putB n 2 = [UInt8.ofNat (n / 256), UInt8.ofNat n] := by simp [putB]
theorem pB3 (n : Nat) : putB n 3 = [UInt8.ofNat (n / 65536), UInt8.ofNat (n / 256), UInt8.ofNat n] := by simp [putB]
theorem head_cases (t : Int) (n : Nat) (hn : n <= 1048576) :
    (n < 128 /\ headB t n = [UInt8.ofNat t.toNat, UInt8.ofNat n]) \/ (128 <= n /\ n < 256 /\ headB t n = [UInt8.ofNat t.toNat, 129, UInt8.ofNat n]) ∨
    (256 <= n /\ n < 65536 /\ headB t n = [UInt8.ofNat t.toNat, 130, UInt8.ofNat (n / 256), UInt8.ofNat n]) \/ (65536 <= n /\ headB t n = [UInt8.ofNat t.toNat, 131, UInt8.ofNat (n / 65536), UInt8.ofNat (n / 256), UInt8.ofNat n]) := by
  unfold headB lenB
  by_cases h1 : n < 128
  . exact .inl ⟨h1, by rw [if_pos h1, pB1, pB1]; rfl⟩
  . by_cases h2 : n < 256
    . exact .inr (.inl ⟨by omega, h2, by rw [if_neg h1, if_pos h2, pB1, pB1, pB1]; rfl⟩)
    . by_cases h3 : n < 65536
      . exact .inr (.inr (.inl ⟨by omega, h3, by rw [if_neg h1, if_neg h2, if_pos h3, pB1, pB1, pB2]; rfl⟩))
      . exact .inr (.inr (.inr ⟨by omega, by rw [if_neg h1, if_neg h2, if_neg h3, pB1, pB1, pB3]; rfl⟩))
theorem bnd_short {t u : UInt8} {x : List UInt8} (h : u.toNat < 128) : bndM (t :: u :: x) = ((u.toNat : Int), 2, 0) := by
  have hb : byteAt (t :: u :: x) 1 = u.toNat := by simp [byteAt]
  unfold bndM
  simp only [hb]
  rw [if_neg (by simp), if_pos (by omega)]
theorem bnd_long {t u : UInt8} {l x : List UInt8} (h : u.toNat = 128 + l.length) (hl : 1 <= l.length /\ l.length <= 4) (hv : beN l <= 1048576) : bndM (t :: u :: (l ++ x)) = ((beN l : Int), 2 + (l.length : Int), 0) := by
  have hb : byteAt (t :: u :: (l ++ x)) 1 = u.toNat := by simp [byteAt]
  have hk : ((u.toNat : Nat) : Int) - 128 = l.length := by omega
  have hg : getOk (t :: u :: (l ++ x)) 2 l.length = true := by unfold getOk; simp; omega
  have hgv : getV (t :: u :: (l ++ x)) 2 l.length = beN l := by unfold getV; rw [hg]; simp
  unfold bndM
  simp only [hb]
  rw [if_neg (by simp), if_neg (by omega), if_neg (by omega), hk, hg, hgv, if_neg (by simp), if_neg (by omega), show ((u.toNat : Nat) : Int) - 126 = 2 + (l.length : Int) by omega]
theorem bnd_head (t : Int) (n : Nat) (hn : n <= 1048576) (x : List UInt8) : bndM (headB t n ++ x) = ((n : Int), ((headB t n).length : Int), 0) := by
  rcases head_cases t n hn with ⟨h, e⟩ | ⟨h1, h2, e⟩ | ⟨h1, h2, e⟩ | ⟨h1, e⟩
  . rw [e]
    have hu : (UInt8.ofNat n).toNat = n := by rw [UInt8.toNat_ofNat']; omega
    have := bnd_short (t := UInt8.ofNat t.toNat) (u := UInt8.ofNat n) (x := x) (by omega)
    rw [hu] at this
    simpa using this
  . rw [e]
    have hv : beN [UInt8.ofNat n] = n := by simp [beN]; omega
    have := bnd_long (t := UInt8.ofNat t.toNat) (u := 129) (l := [UInt8.ofNat n]) (x := x) rfl (by simp) (by omega)
    rw [hv] at this
    simpa using this
  . rw [e]
    have hv : beN [UInt8.ofNat (n / 256), UInt8.ofNat n] = n := by simp [beN]; omega
    have := bnd_long (t := UInt8.ofNat t.toNat) (u := 130) (l := [UInt8.ofNat (n / 256), UInt8.ofNat n]) (x := x) rfl (by simp) (by omega)
    rw [hv] at this
    simpa using this
  . rw [e]
    have hv : beN [UInt8.ofNat (n / 65536), UInt8.ofNat (n / 256), UInt8.ofNat n] = n := by simp [beN]; omega
    have := bnd_long (t := UInt8.ofNat t.toNat) (u := 131) (l := [UInt8.ofNat (n / 65536), UInt8.ofNat (n / 256), UInt8.ofNat n]) (x := x) rfl (by simp) (by omega)
    rw [hv] at this
    simpa using this
theorem head_byte (t : Int) (n : Nat) (ht : 0 <= t /\ t <= 255) (x : List UInt8) : byteAt (headB t n ++ x) 0 = t.toNat := by
  unfold headB
  rw [pB1]
  simp [byteAt]; omega
theorem head_ge (t : Int) (n : Nat) : 2 <= (headB t n).length := by
  unfold headB lenB
  split
  . simp [putB_length]
  . split
    . simp [putB_length]
    . split <;> simp [putB_length]

theorem putM_ok {d t : Int} {data : List UInt8} {ks : List Nd} (h : (putM d (.mk t data ks)).2 = 0) :
    d <= 64 /\ 0 <= t /\ t <= 255 /\ ¬ ((t.toNat &&& 31 : Nat) : Int) = 31 /\ (¬ ((t.toNat &&& 32 : Nat) : Int) = 0 -> data = []) /\ (((t.toNat &&& 32 : Nat) : Int) = 0 -> ks = []) /\ (putsM (d + 1) ks).2 = 0 ∧
    (data ++ (putsM (d + 1) ks).1).length <= 1048576 /\ (putM d (.mk t data ks)).1 = headB t (data ++ (putsM (d + 1) ks).1).length ++ (data ++ (putsM (d + 1) ks).1) := by
  rw [putM] at h ⊢
  split at h
  . cases h
  . rename_i c1
    rw [if_neg c1]
    split at h
    . cases h
    . rename_i c2
      rw [if_neg c2]
      split at h
      . cases h
      . rename_i c3
        rw [if_neg c3]
        split at h
        . rename_i c4; exact absurd h c4
        . rename_i c4
          rw [if_neg c4]
          split at h
          . cases h
          . rename_i c5
            rw [if_neg c5]
            refine ⟨by omega, by omega, by omega, by omega, fun hq => ?_, fun hq => ?_, by simpa using c4, by omega, rfl⟩
            . exact List.eq_nil_of_length_eq_zero (Classical.byContradiction fun hl => c3 (.inl ⟨hq, hl⟩))
            . exact List.eq_nil_of_length_eq_zero (Classical.byContradiction fun hl => c3 (.inr ⟨hq, hl⟩))
theorem putM_pos {d : Int} {a : Nd} (h : (putM d a).2 = 0) : 2 <= (putM d a).1.length := by
  cases a with
  | mk t data ks =>
    obtain ⟨_, _, _, _, _, _, _, _, e⟩ := putM_ok h
    have := head_ge t (data ++ (putsM (d + 1) ks).1).length
    rw [e, List.length_append]; omega
end Go.Proofs.YtibkffoeioidlaaDoor
namespace Go.Proofs.YtibkffoeioidlaaDoor
set_option linter.all false
set_option maxRecDepth 4000
open Go.RowKit

theorem and31 (x : Nat) : x &&& 31 = x % 32 := Nat.and_two_pow_sub_one_eq_mod x 5
theorem and32 : ∀ x, x < 256 -> ((x &&& 32) = 0 ↔ x / 32 % 2 = 0) := by decide +kernel
structure ESt where
  ks : List Nd
  rows : List (List Value)
  A : Option Addr
  c : Nat
  r : List UInt8
  n : Nat
  bad : Int
  place : Int

end Go.Proofs.YtibkffoeioidlaaDoor
namespace Go.Proofs.YtibkffoeioidlaaDoor
set_option linter.all false
set_option maxRecDepth 4000
open Go.RowKit

theorem NodeC.mono' {h h' : Heap} {n : Nd} {r : List Value} (hn : NodeC h n r) (hl : Heap.le h h') : NodeC h' n r := NodeC.mono hl n r hn

end Go.Proofs.YtibkffoeioidlaaDoor
namespace Go.Proofs.YtibkffoeioidlaaDoor
set_option linter.all false
set_option maxRecDepth 4000
open Go.RowKit

theorem parM_cons {f : Nat} {s inn rest : List UInt8} {n : Int} (h0 : ¬ s.length = 0) (h31 : ¬ ((byteAt s 0 &&& 31 : Nat) : Int) = 31) (h32 : ¬ ((byteAt s 0 &&& 32 : Nat) : Int) = 0) (hb : bndM s = (((inn.length : Nat) : Int), n, 0)) (hs : s = s.take n.toNat ++ inn ++ rest) (hn : 0 <= n /\ n <= s.length) :
    parM (f + 1) s = if (kidsM (parM f) inn.length inn).2 ≠ 0 then (zN, [], (kidsM (parM f) inn.length inn).2) else (.mk (byteAt s 0) [] (kidsM (parM f) inn.length inn).1, rest, 0) := by
  have hl := congrArg List.length hs
  simp only [List.length_append, List.length_take] at hl
  have he : lenE s = 0 := by unfold lenE; rw [hb]; simp only; rw [if_neg (by omega)]
  have hp : (s.take n.toNat).length = n.toNat := by rw [List.length_take]; omega
  have hi : innM s = inn := by
    unfold innM; rw [hb]; simp only
    rw [show (n + (inn.length : Int)).toNat - n.toNat = inn.length by omega]
    conv => lhs; rw [hs]
    rw [List.append_assoc, List.drop_append_of_le_length (by omega), List.drop_of_length_le (by omega), List.nil_append, List.take_left]
  have hr : restM s = rest := by
    unfold restM; rw [hb]; simp only
    conv => lhs; rw [hs]
    rw [List.drop_append_of_le_length (by rw [List.length_append]; omega), List.drop_of_length_le (by rw [List.length_append]; omega), List.nil_append]
  rw [parM, if_neg h0, if_neg h31, he, if_neg (by simp), if_neg h32, hi, hr]
theorem parM_prim {f : Nat} {s inn rest : List UInt8} {n : Int} (h0 : ¬ s.length = 0) (h31 : ¬ ((byteAt s 0 &&& 31 : Nat) : Int) = 31) (h32 : ((byteAt s 0 &&& 32 : Nat) : Int) = 0) (hb : bndM s = (((inn.length : Nat) : Int), n, 0)) (hs : s = s.take n.toNat ++ inn ++ rest) (hn : 0 <= n /\ n <= s.length) :
    parM (f + 1) s = (.mk (byteAt s 0) inn [], rest, 0) := by
  have hl := congrArg List.length hs
  simp only [List.length_append, List.length_take] at hl
  have he : lenE s = 0 := by unfold lenE; rw [hb]; simp only; rw [if_neg (by omega)]
  have hp : (s.take n.toNat).length = n.toNat := by rw [List.length_take]; omega
  have hi : innM s = inn := by
    unfold innM; rw [hb]; simp only
    rw [show (n + (inn.length : Int)).toNat - n.toNat = inn.length by omega]
    conv => lhs; rw [hs]
    rw [List.append_assoc, List.drop_append_of_le_length (by omega), List.drop_of_length_le (by omega), List.nil_append, List.take_left]
  have hr : restM s = rest := by
    unfold restM; rw [hb]; simp only
    conv => lhs; rw [hs]
    rw [List.drop_append_of_le_length (by rw [List.length_append]; omega), List.drop_of_length_le (by rw [List.length_append]; omega), List.nil_append]
  rw [parM, if_neg h0, if_neg h31, he, if_neg (by simp), if_pos h32, hi, hr]

def dn : Nat -> Nd
  | 0 => .mk 48 [] []
  | k + 1 => .mk 48 [] [dn k]
def ds (longer : Bool) : Nat -> List UInt8
  | 0 => [48, 0]
  | k + 1 => if (ds longer k).length < 128 /\ longer = false then [48] ++ [UInt8.ofNat (ds longer k).length] ++ ds longer k else [48, 131, 0] ++ [UInt8.ofNat ((ds longer k).length / 256), UInt8.ofNat ((ds longer k).length % 256)] ++ ds longer k
end Go.Proofs.YtibkffoeioidlaaDoor
namespace Go.Proofs.YtibkffoeioidlaaDoor
set_option linter.all false
set_option maxRecDepth 4000
open Go.RowKit

mutual
theorem put_par : ∀ (a : Nd) (f : Nat) (d : Int), (f : Int) + d = 65 -> 1 <= d -> (putM d a).2 = 0 -> ∀ b : List UInt8, parM f ((putM d a).1 ++ b) = (a, b, 0)
  | .mk t data ks, f, d, hf, hd, h, b => by
    obtain ⟨h1, h2, h3, h4, h5, h6, h7, h8, h9⟩ := putM_ok h
    obtain ⟨f', rfl⟩ : ∃ f', f = f' + 1 := ⟨f - 1, by omega⟩
    rw [h9]
    generalize hin : data ++ (putsM (d + 1) ks).1 = inn at *
    have hge := head_ge t inn.length
    have hbt := head_byte t inn.length ⟨h2, h3⟩ (inn ++ b)
    have hbn := bnd_head t inn.length h8 (inn ++ b)
    have hcat : headB t inn.length ++ inn ++ b = headB t inn.length ++ (inn ++ b) := by rw [List.append_assoc]
    have hti : ((t.toNat : Nat) : Int) = t := by omega
    by_cases hc : ((t.toNat &&& 32 : Nat) : Int) = 0
    . have hk := h6 hc
      subst hk
      simp only [putsM, List.append_nil] at hin
      subst hin
      rw [hcat, parM_prim (inn := data) (rest := b) (n := ((headB t data.length).length : Int)) (by rw [List.length_append]; omega) (by rw [hbt]; exact h4) (by rw [hbt]; exact hc) hbn (by rw [Int.toNat_natCast, List.take_left, List.append_assoc]) ⟨by omega, by rw [List.length_append]; omega⟩]
      rw [hbt, hti]
    . have hk := h5 hc
      subst hk
      simp only [List.nil_append] at hin
      have hkids := puts_kids ks f' (d + 1) (by omega) (by omega) h7 inn.length (by rw [hin]; exact Nat.le_refl _)
      rw [hin] at hkids
      rw [hcat, parM_cons (inn := inn) (rest := b) (n := ((headB t inn.length).length : Int)) (by rw [List.length_append]; omega) (by rw [hbt]; exact h4) (by rw [hbt]; exact hc) hbn (by rw [Int.toNat_natCast, List.take_left, List.append_assoc]) ⟨by omega, by rw [List.length_append]; omega⟩]
      rw [hkids, hbt, hti, if_neg (by simp)]
theorem puts_kids : ∀ (ks : List Nd) (f : Nat) (d : Int), (f : Int) + d = 65 -> 1 <= d -> (putsM d ks).2 = 0 -> ∀ n : Nat, (putsM d ks).1.length <= n -> kidsM (parM f) n (putsM d ks).1 = (ks, 0)
  | [], f, d, hf, hd, h, n, hn => by
    simp only [putsM]
    exact kidsM_nil rfl
  | k :: ks, f, d, hf, hd, h, n, hn => by
    rw [putsM] at h hn ⊢
    split at h
    . rename_i c; exact absurd h c
    . rename_i c
      split at h
      . rename_i c2; exact absurd h c2
      . rename_i c2
        rw [if_neg c, if_neg c2] at hn ⊢
        have hk : (putM d k).2 = 0 := by simpa using c
        have hks : (putsM d ks).2 = 0 := by simpa using c2
        have hp := put_par k f d hf hd hk (putsM d ks).1
        have hpos := putM_pos hk
        simp only [List.length_append] at hn
        obtain ⟨m, rfl⟩ : ∃ m, n = m + 1 := ⟨n - 1, by omega⟩
        have hr := puts_kids ks f d hf hd hks m (by omega)
        rw [kidsM_ok1 (by rw [List.length_append]; omega) (by rw [hp]), hp]
        simp only [hr]
        simp
end

theorem par_put {a : Nd} (h : (putM 1 a).2 = 0) (b : List UInt8) : par ((putM 1 a).1 ++ b) = (a, b, 0) := by rw [par_eq]; exact put_par a 64 1 (by omega) (by omega) h b
end Go.Proofs.YtibkffoeioidlaaDoor
