/- The plain laws of a head. -/
import Derived.Test.YtibkffoeioidlaaDoorTlvS
import Derived.Test.YtibkffoeioidlaaDoorTlvQ
import Derived.Test.YtibkffoeioidlaaDoorTlvD
import Derived.Test.YtibkffoeioidlaaDoorWrD
namespace Go.Proofs.YtibkffoeioidlaaDoor
set_option linter.all false
set_option maxRecDepth 4000
open Go.RowKit

theorem pB1 (n : Nat) : putB n 1 = [UInt8.ofNat n] := by simp [putB]
theorem pB2 (n : Nat) : putB n 2 = [UInt8.ofNat (n / 256), UInt8.ofNat n] := by simp [putB]
theorem pB3 (n : Nat) : putB n 3 = [UInt8.ofNat (n / 65536), UInt8.ofNat (n / 256), UInt8.ofNat n] := by simp [putB]
theorem head_cases (t : Int) (n : Nat) (hn : n <= 1048576) :
    (n < 128 /\ headB t n = [UInt8.ofNat t.toNat, UInt8.ofNat n]) \/ (128 <= n /\ n < 256 /\ headB t n = [UInt8.ofNat t.toNat, 129, UInt8.ofNat n]) ∨
    (256 <= n /\ n < 65536 /\ headB t n = [UInt8.ofNat t.toNat, 130, UInt8.ofNat (n / 256), UInt8.ofNat n]) \/ (65536 <= n /\ headB t n = [UInt8.ofNat t.toNat, 131, UInt8.ofNat (n / 65536), UInt8.ofNat (n / 256), UInt8.ofNat n]) := by
  unfold headB lenB
  by_cases h1 : n < 128
  . exact .inl ⟨h1, by rw [if_pos h1, pB1, pB1]; rfl⟩
  . by_cases h2 : n < 256
    . exact .inr (.inl ⟨by omega, h2, by rw [if_neg h1, if_pos h2, pB1, pB1, pB1]; rfl⟩)
    . by_cases h3 : n < 65536
      . exact .inr (.inr (.inl ⟨by omega, h3, by rw [if_neg h1, if_neg h2, if_pos h3, pB1, pB1, pB2]; rfl⟩))
      . exact .inr (.inr (.inr ⟨by omega, by rw [if_neg h1, if_neg h2, if_neg h3, pB1, pB1, pB3]; rfl⟩))
theorem bnd_short {t u : UInt8} {x : List UInt8} (h : u.toNat < 128) : bndM (t :: u :: x) = ((u.toNat : Int), 2, 0) := by
  have hb : byteAt (t :: u :: x) 1 = u.toNat := by simp [byteAt]
  unfold bndM
  simp only [hb]
  rw [if_neg (by simp), if_pos (by omega)]
theorem bnd_long {t u : UInt8} {l x : List UInt8} (h : u.toNat = 128 + l.length) (hl : 1 <= l.length /\ l.length <= 4) (hv : beN l <= 1048576) : bndM (t :: u :: (l ++ x)) = ((beN l : Int), 2 + (l.length : Int), 0) := by
  have hb : byteAt (t :: u :: (l ++ x)) 1 = u.toNat := by simp [byteAt]
  have hk : ((u.toNat : Nat) : Int) - 128 = l.length := by omega
  have hg : getOk (t :: u :: (l ++ x)) 2 l.length = true := by unfold getOk; simp; omega
  have hgv : getV (t :: u :: (l ++ x)) 2 l.length = beN l := by unfold getV; rw [hg]; simp
  unfold bndM
  simp only [hb]
  rw [if_neg (by simp), if_neg (by omega), if_neg (by omega), hk, hg, hgv, if_neg (by simp), if_neg (by omega), show ((u.toNat : Nat) : Int) - 126 = 2 + (l.length : Int) by omega]
theorem bnd_head (t : Int) (n : Nat) (hn : n <= 1048576) (x : List UInt8) : bndM (headB t n ++ x) = ((n : Int), ((headB t n).length : Int), 0) := by
  rcases head_cases t n hn with ⟨h, e⟩ | ⟨h1, h2, e⟩ | ⟨h1, h2, e⟩ | ⟨h1, e⟩
  . rw [e]
    have hu : (UInt8.ofNat n).toNat = n := by rw [UInt8.toNat_ofNat']; omega
    have := bnd_short (t := UInt8.ofNat t.toNat) (u := UInt8.ofNat n) (x := x) (by omega)
    rw [hu] at this
    simpa using this
  . rw [e]
    have hv : beN [UInt8.ofNat n] = n := by simp [beN]; omega
    have := bnd_long (t := UInt8.ofNat t.toNat) (u := 129) (l := [UInt8.ofNat n]) (x := x) rfl (by simp) (by omega)
    rw [hv] at this
    simpa using this
  . rw [e]
    have hv : beN [UInt8.ofNat (n / 256), UInt8.ofNat n] = n := by simp [beN]; omega
    have := bnd_long (t := UInt8.ofNat t.toNat) (u := 130) (l := [UInt8.ofNat (n / 256), UInt8.ofNat n]) (x := x) rfl (by simp) (by omega)
    rw [hv] at this
    simpa using this
  . rw [e]
    have hv : beN [UInt8.ofNat (n / 65536), UInt8.ofNat (n / 256), UInt8.ofNat n] = n := by simp [beN]; omega
    have := bnd_long (t := UInt8.ofNat t.toNat) (u := 131) (l := [UInt8.ofNat (n / 65536), UInt8.ofNat (n / 256), UInt8.ofNat n]) (x := x) rfl (by simp) (by omega)
    rw [hv] at this
    simpa using this
theorem head_byte (t : Int) (n : Nat) (ht : 0 <= t /\ t <= 255) (x : List UInt8) : byteAt (headB t n ++ x) 0 = t.toNat := by
  unfold headB
  rw [pB1]
  simp [byteAt]; omega
theorem head_ge (t : Int) (n : Nat) : 2 <= (headB t n).length := by
  unfold headB lenB
  split
  . simp [putB_length]
  . split
    . simp [putB_length]
    . split <;> simp [putB_length]

theorem putM_ok {d t : Int} {data : List UInt8} {ks : List Nd} (h : (putM d (.mk t data ks)).2 = 0) :
    d <= 64 /\ 0 <= t /\ t <= 255 /\ ¬ ((t.toNat &&& 31 : Nat) : Int) = 31 /\ (¬ ((t.toNat &&& 32 : Nat) : Int) = 0 -> data = []) /\ (((t.toNat &&& 32 : Nat) : Int) = 0 -> ks = []) /\ (putsM (d + 1) ks).2 = 0 ∧
    (data ++ (putsM (d + 1) ks).1).length <= 1048576 /\ (putM d (.mk t data ks)).1 = headB t (data ++ (putsM (d + 1) ks).1).length ++ (data ++ (putsM (d + 1) ks).1) := by
  rw [putM] at h ⊢
  split at h
  . cases h
  . rename_i c1
    rw [if_neg c1]
    split at h
    . cases h
    . rename_i c2
      rw [if_neg c2]
      split at h
      . cases h
      . rename_i c3
        rw [if_neg c3]
        split at h
        . rename_i c4; exact absurd h c4
        . rename_i c4
          rw [if_neg c4]
          split at h
          . cases h
          . rename_i c5
            rw [if_neg c5]
            refine ⟨by omega, by omega, by omega, by omega, fun hq => ?_, fun hq => ?_, by simpa using c4, by omega, rfl⟩
            . exact List.eq_nil_of_length_eq_zero (Classical.byContradiction fun hl => c3 (.inl ⟨hq, hl⟩))
            . exact List.eq_nil_of_length_eq_zero (Classical.byContradiction fun hl => c3 (.inr ⟨hq, hl⟩))
theorem putM_pos {d : Int} {a : Nd} (h : (putM d a).2 = 0) : 2 <= (putM d a).1.length := by
  cases a with
  | mk t data ks =>
    obtain ⟨_, _, _, _, _, _, _, _, e⟩ := putM_ok h
    have := head_ge t (data ++ (putsM (d + 1) ks).1).length
    rw [e, List.length_append]; omega
end Go.Proofs.YtibkffoeioidlaaDoor
namespace Go.Proofs.YtibkffoeioidlaaDoor
set_option linter.all false
set_option maxRecDepth 4000
open Go.RowKit

mutual
def WfN : Nd -> Nat -> Prop
  | .mk t d ks, f => 0 < f /\ 0 <= t /\ t <= 255 /\ ((t.toNat &&& 31 : Nat) : Int) ≠ 31 /\ (((t.toNat &&& 32 : Nat) : Int) ≠ 0 -> d.length = 0) /\ (((t.toNat &&& 32 : Nat) : Int) = 0 -> ks.length = 0) /\ WfKs ks (f - 1)
def WfKs : List Nd -> Nat -> Prop
  | [], _ => True
  | k :: ks, f => WfN k f /\ WfKs ks f
end
mutual
theorem WfN.mono : ∀ (a : Nd) {f g : Nat}, WfN a f -> f <= g -> WfN a g
  | .mk t d ks, f, g, h, hl => by
    rw [WfN] at h ⊢
    obtain ⟨h1, h2, h3, h4, h5, h6, h7⟩ := h
    exact ⟨by omega, h2, h3, h4, h5, h6, WfKs.mono ks h7 (by omega)⟩
theorem WfKs.mono : ∀ (l : List Nd) {f g : Nat}, WfKs l f -> f <= g -> WfKs l g
  | [], _, _, _, _ => by rw [WfKs]; trivial
  | k :: ks, f, g, h, hl => by
    rw [WfKs] at h ⊢
    exact ⟨WfN.mono k h.1 hl, WfKs.mono ks h.2 hl⟩
end
theorem WfKs.mem : ∀ {l : List Nd} {f : Nat}, WfKs l f -> ∀ n ∈ l, WfN n f
  | [], _, _, n, hn => by simp at hn
  | k :: ks, f, h, n, hn => by
    rw [WfKs] at h
    rcases List.mem_cons.1 hn with rfl | hn
    . exact h.1
    . exact WfKs.mem h.2 n hn
theorem WfKs.of : ∀ {l : List Nd} {f : Nat}, (∀ n ∈ l, WfN n f) -> WfKs l f
  | [], _, _ => by rw [WfKs]; trivial
  | k :: ks, f, h => by
    rw [WfKs]
    exact ⟨h k (List.mem_cons_self ..), WfKs.of fun n hn => h n (List.mem_cons_of_mem _ hn)⟩
theorem kids_wf {p : List UInt8 -> Nd × List UInt8 × Int} {f : Nat} (hp : ∀ s, (p s).2.2 = 0 -> WfN (p s).1 f) : ∀ (n : Nat) (s : List UInt8), WfKs (kidsM p n s).1 f
  | 0, s => by rw [kidsM, WfKs]; trivial
  | n + 1, s => by
    have ih := kids_wf hp n (p s).2.1
    by_cases h0 : s.length = 0
    . rw [kidsM_nil h0, WfKs]; trivial
    . by_cases h1 : (p s).2.2 = 0
      . rw [kidsM_ok1 h0 h1]
        split
        . rw [WfKs]; trivial
        . rw [WfKs]; exact ⟨hp s h1, ih⟩
      . rw [kidsM_err1 h0 h1, WfKs]; trivial
theorem parM_wf : ∀ (f : Nat) (s : List UInt8), (parM f s).2.2 = 0 -> WfN (parM f s).1 f
  | 0, s, h => by simp [parM] at h
  | f + 1, s, h => by
    have hb := byteAt_lt s 0
    rw [parM] at h ⊢
    split at h
    . cases h
    rename_i h0
    rw [if_neg h0]
    split at h
    . cases h
    rename_i h1
    rw [if_neg h1]
    split at h
    . rename_i h2; exact absurd h h2
    rename_i h2
    rw [if_neg h2]
    split at h
    . rename_i h3
      rw [if_pos h3, WfN]
      exact ⟨by omega, by omega, by omega, by rw [Int.toNat_natCast]; exact h1, fun h => absurd h3 (by rw [Int.toNat_natCast] at h; exact h), fun _ => rfl, by rw [WfKs]; trivial⟩
    rename_i h3
    rw [if_neg h3]
    split at h
    . rename_i h4; exact absurd h h4
    rename_i h4
    rw [if_neg h4, WfN]
    exact ⟨by omega, by omega, by omega, by rw [Int.toNat_natCast]; exact h1, fun _ => rfl, fun h => absurd (by rw [Int.toNat_natCast] at h; exact h) h3, kids_wf (parM_wf f) _ _⟩
theorem who_wf {s : List UInt8} (h : (who s).2 = 0) : WfN (who s).1 64 := by
  unfold who at h ⊢
  split at h
  . rename_i hc; exact absurd h hc
  . rename_i hc
    rw [if_neg hc]
    split at h
    . cases h
    . rename_i hc2
      rw [if_neg hc2, par_eq]
      exact parM_wf 64 s (by rw [<- par_eq]; simpa using hc)
theorem kids_wt {p : List UInt8 -> Nd × List UInt8 × Int} (hp : ∀ s, (p s).2.2 = 0 -> (p s).1.wt + (p s).2.1.length <= s.length) : ∀ (n : Nat) (s : List UInt8), wts (kidsM p n s).1 <= s.length
  | 0, s => by rw [kidsM, wts]; exact Nat.zero_le _
  | n + 1, s => by
    have ih := kids_wt hp n (p s).2.1
    by_cases h0 : s.length = 0
    . rw [kidsM_nil h0, wts]; exact Nat.zero_le _
    . by_cases h1 : (p s).2.2 = 0
      . rw [kidsM_ok1 h0 h1]
        have := hp s h1
        split
        . rw [wts]; exact Nat.zero_le _
        . rw [wts]; omega
      . rw [kidsM_err1 h0 h1, wts]; exact Nat.zero_le _
theorem parM_wt : ∀ (f : Nat) (s : List UInt8), (parM f s).2.2 = 0 -> (parM f s).1.wt + (parM f s).2.1.length <= s.length
  | 0, s, h => by simp [parM] at h
  | f + 1, s, h => by
    have key : lenE s = 0 -> ¬ s.length = 0 -> 2 + (innM s).length + (restM s).length <= s.length := fun h1 h2 => by
      have := lenE_ok h1
      have := innM_len h1
      unfold restM
      rw [List.length_drop]; omega
    have hk := kids_wt (parM_wt f) (innM s).length (innM s)
    rw [parM] at h ⊢
    split at h
    . cases h
    rename_i h0
    rw [if_neg h0]
    split at h
    . cases h
    rename_i h1
    rw [if_neg h1]
    split at h
    . rename_i h2; exact absurd h h2
    rename_i h2
    have h2' : lenE s = 0 := by simpa using h2
    have := key h2' h0
    rw [if_neg h2]
    split at h
    . rename_i h3
      rw [if_pos h3]
      simp only [Nd.wt, wts]; omega
    rename_i h3
    rw [if_neg h3]
    split at h
    . rename_i h4; exact absurd h h4
    rename_i h4
    rw [if_neg h4]
    simp only [Nd.wt, List.length_nil]; omega
theorem who_wt {s : List UInt8} (h : (who s).2 = 0) : (who s).1.wt <= s.length := by
  unfold who at h ⊢
  split at h
  . rename_i hc; exact absurd h hc
  . rename_i hc
    rw [if_neg hc]
    split at h
    . cases h
    . rename_i hc2
      rw [if_neg hc2]
      have := parM_wt 64 s (by rw [<- par_eq]; simpa using hc)
      rw [<- par_eq] at this
      simp only; omega
end Go.Proofs.YtibkffoeioidlaaDoor
namespace Go.Proofs.YtibkffoeioidlaaDoor
set_option linter.all false
set_option maxRecDepth 4000
open Go.RowKit

mutual
theorem put_par : ∀ (a : Nd) (f : Nat) (d : Int), (f : Int) + d = 65 -> 1 <= d -> (putM d a).2 = 0 -> ∀ b : List UInt8, parM f ((putM d a).1 ++ b) = (a, b, 0)
  | .mk t data ks, f, d, hf, hd, h, b => by
    obtain ⟨h1, h2, h3, h4, h5, h6, h7, h8, h9⟩ := putM_ok h
    obtain ⟨f', rfl⟩ : ∃ f', f = f' + 1 := ⟨f - 1, by omega⟩
    rw [h9]
    generalize hin : data ++ (putsM (d + 1) ks).1 = inn at *
    have hge := head_ge t inn.length
    have hbt := head_byte t inn.length ⟨h2, h3⟩ (inn ++ b)
    have hbn := bnd_head t inn.length h8 (inn ++ b)
    have hcat : headB t inn.length ++ inn ++ b = headB t inn.length ++ (inn ++ b) := by rw [List.append_assoc]
    have hti : ((t.toNat : Nat) : Int) = t := by omega
    by_cases hc : ((t.toNat &&& 32 : Nat) : Int) = 0
    . have hk := h6 hc
      subst hk
      simp only [putsM, List.append_nil] at hin
      subst hin
      rw [hcat, parM_prim (inn := data) (rest := b) (n := ((headB t data.length).length : Int)) (by rw [List.length_append]; omega) (by rw [hbt]; exact h4) (by rw [hbt]; exact hc) hbn (by rw [Int.toNat_natCast, List.take_left, List.append_assoc]) ⟨by omega, by rw [List.length_append]; omega⟩]
      rw [hbt, hti]
    . have hk := h5 hc
      subst hk
      simp only [List.nil_append] at hin
      have hkids := puts_kids ks f' (d + 1) (by omega) (by omega) h7 inn.length (by rw [hin]; exact Nat.le_refl _)
      rw [hin] at hkids
      rw [hcat, parM_cons (inn := inn) (rest := b) (n := ((headB t inn.length).length : Int)) (by rw [List.length_append]; omega) (by rw [hbt]; exact h4) (by rw [hbt]; exact hc) hbn (by rw [Int.toNat_natCast, List.take_left, List.append_assoc]) ⟨by omega, by rw [List.length_append]; omega⟩]
      rw [hkids, hbt, hti, if_neg (by simp)]
theorem puts_kids : ∀ (ks : List Nd) (f : Nat) (d : Int), (f : Int) + d = 65 -> 1 <= d -> (putsM d ks).2 = 0 -> ∀ n : Nat, (putsM d ks).1.length <= n -> kidsM (parM f) n (putsM d ks).1 = (ks, 0)
  | [], f, d, hf, hd, h, n, hn => by
    simp only [putsM]
    exact kidsM_nil rfl
  | k :: ks, f, d, hf, hd, h, n, hn => by
    rw [putsM] at h hn ⊢
    split at h
    . rename_i c; exact absurd h c
    . rename_i c
      split at h
      . rename_i c2; exact absurd h c2
      . rename_i c2
        rw [if_neg c, if_neg c2] at hn ⊢
        have hk : (putM d k).2 = 0 := by simpa using c
        have hks : (putsM d ks).2 = 0 := by simpa using c2
        have hp := put_par k f d hf hd hk (putsM d ks).1
        have hpos := putM_pos hk
        simp only [List.length_append] at hn
        obtain ⟨m, rfl⟩ : ∃ m, n = m + 1 := ⟨n - 1, by omega⟩
        have hr := puts_kids ks f d hf hd hks m (by omega)
        rw [kidsM_ok1 (by rw [List.length_append]; omega) (by rw [hp]), hp]
        simp only [hr]
        simp
end

theorem par_put {a : Nd} (h : (putM 1 a).2 = 0) (b : List UInt8) : par ((putM 1 a).1 ++ b) = (a, b, 0) := by rw [par_eq]; exact put_par a 64 1 (by omega) (by omega) h b
end Go.Proofs.YtibkffoeioidlaaDoor
namespace Go.Proofs.YtibkffoeioidlaaDoor
set_option linter.all false
set_option maxRecDepth 4000
open Go.RowKit

theorem pcs_kind : ∀ (b : Bool) (ps : Pcs), pcsOkF b ps = true -> ∀ p ∈ ps, 0 <= p.1 /\ p.1 <= 2
  | _, [], _, p, hp => by simp at hp
  | b, (k, t) :: ps, h, p, hp => by
    rw [pcsOkF, Bool.and_eq_true, Bool.and_eq_true, decide_eq_true_eq, decide_eq_true_eq] at h
    rcases List.mem_cons.1 hp with rfl | hp
    . rcases h.1.2 with q | ⟨q, _⟩ | ⟨q, _⟩ <;> (simp only; omega)
    . exact pcs_kind false ps h.2 p hp
structure RdOk (id op : Int) (n : Nd) (m : Ms) : Prop where
  hid : m.id = id
  hop : m.op = op
  hctls : m.ctls = []
  hok : okM m = true
  hbare : bareM m = m
  hfl : op = 3 -> WfN (flN m.fl) 62
theorem who_put {a : Nd} (h : (putM 1 a).2 = 0) : who (putM 1 a).1 = (a, 0) := by
  have e := par_put h []
  rw [List.append_nil] at e
  unfold who
  rw [e]
  simp
theorem write_ok {m : Ms} (h : (writeM m).2 = 0) : inM m.id 0 2147483647 = true /\ tagM m.op ≠ 0 /\ okM m = true /\ (putM 1 (nodeM m)).2 = 0 /\ (writeM m).1 = (putM 1 (nodeM m)).1 := by
  unfold writeM at h ⊢
  split at h
  . cases h
  rename_i h1
  rw [if_neg h1]
  split at h
  . cases h
  rename_i h2
  rw [if_neg h2]
  split at h
  . cases h
  rename_i h3
  rw [if_neg h3]
  exact ⟨by simpa using h1, h2, by simpa using h3, h, rfl⟩
theorem write_read {m : Ms} (h : (writeM m).2 = 0) : readM (writeM m).1 = .ok (bareM m) := by
  obtain ⟨h1, h2, h3, h4, h5⟩ := write_ok h
  rw [h5]
  unfold readM
  rw [who_put h4]
  rw [if_pos rfl]
  exact rd_node h1 h2 h3
end Go.Proofs.YtibkffoeioidlaaDoor
