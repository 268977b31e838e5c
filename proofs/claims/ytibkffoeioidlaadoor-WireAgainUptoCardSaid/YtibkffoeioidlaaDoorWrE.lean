/- Elements that can be written, but for their size; those that were read are such. -/
import Derived.Test.YtibkffoeioidlaaDoorTlvS
import Derived.Test.YtibkffoeioidlaaDoorTlvQ
namespace Go.Proofs.YtibkffoeioidlaaDoor
set_option linter.all false
set_option maxRecDepth 4000
open Go.RowKit

mutual
def WfN : Nd -> Nat -> Prop
  | .mk t d ks, f => 0 < f /\ 0 <= t /\ t <= 255 /\ ((t.toNat &&& 31 : Nat) : Int) ≠ 31 /\ (((t.toNat &&& 32 : Nat) : Int) ≠ 0 -> d.length = 0) /\ (((t.toNat &&& 32 : Nat) : Int) = 0 -> ks.length = 0) /\ WfKs ks (f - 1)
def WfKs : List Nd -> Nat -> Prop
  | [], _ => True
  | k :: ks, f => WfN k f /\ WfKs ks f
end
mutual
theorem WfN.mono : ∀ (a : Nd) {f g : Nat}, WfN a f -> f <= g -> WfN a g
  | .mk t d ks, f, g, h, hl => by
    rw [WfN] at h ⊢
    obtain ⟨h1, h2, h3, h4, h5, h6, h7⟩ := h
    exact ⟨by omega, h2, h3, h4, h5, h6, WfKs.mono ks h7 (by omega)⟩
theorem WfKs.mono : ∀ (l : List Nd) {f g : Nat}, WfKs l f -> f <= g -> WfKs l g
  | [], _, _, _, _ => by rw [WfKs]; trivial
  | k :: ks, f, g, h, hl => by
    rw [WfKs] at h ⊢
    exact ⟨WfN.mono k h.1 hl, WfKs.mono ks h.2 hl⟩
end
theorem WfKs.mem : ∀ {l : List Nd} {f : Nat}, WfKs l f -> ∀ n ∈ l, WfN n f
  | [], _, _, n, hn => by simp at hn
  | k :: ks, f, h, n, hn => by
    rw [WfKs] at h
    rcases List.mem_cons.1 hn with rfl | hn
    . exact h.1
    . exact WfKs.mem h.2 n hn
theorem WfKs.of : ∀ {l : List Nd} {f : Nat}, (∀ n ∈ l, WfN n f) -> WfKs l f
  | [], _, _ => by rw [WfKs]; trivial
  | k :: ks, f, h => by
    rw [WfKs]
    exact ⟨h k (List.mem_cons_self ..), WfKs.of fun n hn => h n (List.mem_cons_of_mem _ hn)⟩
mutual
theorem put_err : ∀ (a : Nd) (f : Nat) (d : Int), (f : Int) + d <= 65 -> WfN a f -> (putM d a).2 = 0 \/ (putM d a).2 = 5
  | .mk t data ks, f, d, hf, h => by
    rw [WfN] at h
    obtain ⟨h1, h2, h3, h4, h5, h6, h7⟩ := h
    have ih := puts_err ks (f - 1) (d + 1) (by omega) h7
    rw [putM, if_neg (by omega), if_neg (by omega), if_neg (by omega)]
    split
    . rename_i hc
      exact .inr (ih.resolve_left hc)
    . split
      . exact .inr rfl
      . exact .inl rfl
theorem puts_err : ∀ (l : List Nd) (f : Nat) (d : Int), (f : Int) + d <= 65 -> WfKs l f -> (putsM d l).2 = 0 \/ (putsM d l).2 = 5
  | [], _, _, _, _ => by rw [putsM]; exact .inl rfl
  | k :: ks, f, d, hf, h => by
    rw [WfKs] at h
    have ih1 := put_err k f d hf h.1
    have ih2 := puts_err ks f d hf h.2
    rw [putsM]
    split
    . rename_i hc; exact .inr (ih1.resolve_left hc)
    . split
      . rename_i hc; exact .inr (ih2.resolve_left hc)
      . exact .inl rfl
end
theorem kids_wf {p : List UInt8 -> Nd × List UInt8 × Int} {f : Nat} (hp : ∀ s, (p s).2.2 = 0 -> WfN (p s).1 f) : ∀ (n : Nat) (s : List UInt8), WfKs (kidsM p n s).1 f
  | 0, s => by rw [kidsM, WfKs]; trivial
  | n + 1, s => by
    have ih := kids_wf hp n (p s).2.1
    by_cases h0 : s.length = 0
    . rw [kidsM_nil h0, WfKs]; trivial
    . by_cases h1 : (p s).2.2 = 0
      . rw [kidsM_ok1 h0 h1]
        split
        . rw [WfKs]; trivial
        . rw [WfKs]; exact ⟨hp s h1, ih⟩
      . rw [kidsM_err1 h0 h1, WfKs]; trivial
theorem parM_wf : ∀ (f : Nat) (s : List UInt8), (parM f s).2.2 = 0 -> WfN (parM f s).1 f
  | 0, s, h => by simp [parM] at h
  | f + 1, s, h => by
    have hb := byteAt_lt s 0
    rw [parM] at h ⊢
    split at h
    . cases h
    rename_i h0
    rw [if_neg h0]
    split at h
    . cases h
    rename_i h1
    rw [if_neg h1]
    split at h
    . rename_i h2; exact absurd h h2
    rename_i h2
    rw [if_neg h2]
    split at h
    . rename_i h3
      rw [if_pos h3, WfN]
      exact ⟨by omega, by omega, by omega, by rw [Int.toNat_natCast]; exact h1, fun h => absurd h3 (by rw [Int.toNat_natCast] at h; exact h), fun _ => rfl, by rw [WfKs]; trivial⟩
    rename_i h3
    rw [if_neg h3]
    split at h
    . rename_i h4; exact absurd h h4
    rename_i h4
    rw [if_neg h4, WfN]
    exact ⟨by omega, by omega, by omega, by rw [Int.toNat_natCast]; exact h1, fun _ => rfl, fun h => absurd (by rw [Int.toNat_natCast] at h; exact h) h3, kids_wf (parM_wf f) _ _⟩
theorem who_wf {s : List UInt8} (h : (who s).2 = 0) : WfN (who s).1 64 := by
  unfold who at h ⊢
  split at h
  . rename_i hc; exact absurd h hc
  . rename_i hc
    rw [if_neg hc]
    split at h
    . cases h
    . rename_i hc2
      rw [if_neg hc2, par_eq]
      exact parM_wf 64 s (by rw [<- par_eq]; simpa using hc)
theorem kids_wt {p : List UInt8 -> Nd × List UInt8 × Int} (hp : ∀ s, (p s).2.2 = 0 -> (p s).1.wt + (p s).2.1.length <= s.length) : ∀ (n : Nat) (s : List UInt8), wts (kidsM p n s).1 <= s.length
  | 0, s => by rw [kidsM, wts]; exact Nat.zero_le _
  | n + 1, s => by
    have ih := kids_wt hp n (p s).2.1
    by_cases h0 : s.length = 0
    . rw [kidsM_nil h0, wts]; exact Nat.zero_le _
    . by_cases h1 : (p s).2.2 = 0
      . rw [kidsM_ok1 h0 h1]
        have := hp s h1
        split
        . rw [wts]; exact Nat.zero_le _
        . rw [wts]; omega
      . rw [kidsM_err1 h0 h1, wts]; exact Nat.zero_le _
theorem parM_wt : ∀ (f : Nat) (s : List UInt8), (parM f s).2.2 = 0 -> (parM f s).1.wt + (parM f s).2.1.length <= s.length
  | 0, s, h => by simp [parM] at h
  | f + 1, s, h => by
    have key : lenE s = 0 -> ¬ s.length = 0 -> 2 + (innM s).length + (restM s).length <= s.length := fun h1 h2 => by
      have := lenE_ok h1
      have := innM_len h1
      unfold restM
      rw [List.length_drop]; omega
    have hk := kids_wt (parM_wt f) (innM s).length (innM s)
    rw [parM] at h ⊢
    split at h
    . cases h
    rename_i h0
    rw [if_neg h0]
    split at h
    . cases h
    rename_i h1
    rw [if_neg h1]
    split at h
    . rename_i h2; exact absurd h h2
    rename_i h2
    have h2' : lenE s = 0 := by simpa using h2
    have := key h2' h0
    rw [if_neg h2]
    split at h
    . rename_i h3
      rw [if_pos h3]
      simp only [Nd.wt, wts]; omega
    rename_i h3
    rw [if_neg h3]
    split at h
    . rename_i h4; exact absurd h h4
    rename_i h4
    rw [if_neg h4]
    simp only [Nd.wt, List.length_nil]; omega
theorem who_wt {s : List UInt8} (h : (who s).2 = 0) : (who s).1.wt <= s.length := by
  unfold who at h ⊢
  split at h
  . rename_i hc; exact absurd h hc
  . rename_i hc
    rw [if_neg hc]
    split at h
    . cases h
    . rename_i hc2
      rw [if_neg hc2]
      have := parM_wt 64 s (by rw [<- par_eq]; simpa using hc)
      rw [<- par_eq] at this
      simp only; omega
end Go.Proofs.YtibkffoeioidlaaDoor
