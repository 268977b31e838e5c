/- Elements that can be written, but for their size; those that were read are such. -/
import Derived.Test.YtibkffoeioidlaaDoorTlvS
import Derived.Test.YtibkffoeioidlaaDoorTlvQ
import Derived.Test.YtibkffoeioidlaaDoorWrG
import Derived.Test.YtibkffoeioidlaaDoorFlO
namespace Go.Proofs.YtibkffoeioidlaaDoor
set_option linter.all false
set_option maxRecDepth 4000
open Go.RowKit

mutual
def WfN : Nd -> Nat -> Prop
  | .mk t d ks, f => 0 < f /\ 0 <= t /\ t <= 255 /\ ((t.toNat &&& 31 : Nat) : Int) ≠ 31 /\ (((t.toNat &&& 32 : Nat) : Int) ≠ 0 -> d.length = 0) /\ (((t.toNat &&& 32 : Nat) : Int) = 0 -> ks.length = 0) /\ WfKs ks (f - 1)
def WfKs : List Nd -> Nat -> Prop
  | [], _ => True
  | k :: ks, f => WfN k f /\ WfKs ks f
end
mutual
theorem WfN.mono : ∀ (a : Nd) {f g : Nat}, WfN a f -> f <= g -> WfN a g
  | .mk t d ks, f, g, h, hl => by
    rw [WfN] at h ⊢
    obtain ⟨h1, h2, h3, h4, h5, h6, h7⟩ := h
    exact ⟨by omega, h2, h3, h4, h5, h6, WfKs.mono ks h7 (by omega)⟩
theorem WfKs.mono : ∀ (l : List Nd) {f g : Nat}, WfKs l f -> f <= g -> WfKs l g
  | [], _, _, _, _ => by rw [WfKs]; trivial
  | k :: ks, f, g, h, hl => by
    rw [WfKs] at h ⊢
    exact ⟨WfN.mono k h.1 hl, WfKs.mono ks h.2 hl⟩
end
theorem WfKs.mem : ∀ {l : List Nd} {f : Nat}, WfKs l f -> ∀ n ∈ l, WfN n f
  | [], _, _, n, hn => by simp at hn
  | k :: ks, f, h, n, hn => by
    rw [WfKs] at h
    rcases List.mem_cons.1 hn with rfl | hn
    . exact h.1
    . exact WfKs.mem h.2 n hn
theorem WfKs.of : ∀ {l : List Nd} {f : Nat}, (∀ n ∈ l, WfN n f) -> WfKs l f
  | [], _, _ => by rw [WfKs]; trivial
  | k :: ks, f, h => by
    rw [WfKs]
    exact ⟨h k (List.mem_cons_self ..), WfKs.of fun n hn => h n (List.mem_cons_of_mem _ hn)⟩
theorem kids_wf {p : List UInt8 -> Nd × List UInt8 × Int} {f : Nat} (hp : ∀ s, (p s).2.2 = 0 -> WfN (p s).1 f) : ∀ (n : Nat) (s : List UInt8), WfKs (kidsM p n s).1 f
  | 0, s => by rw [kidsM, WfKs]; trivial
  | n + 1, s => by
    have ih := kids_wf hp n (p s).2.1
    by_cases h0 : s.length = 0
    . rw [kidsM_nil h0, WfKs]; trivial
    . by_cases h1 : (p s).2.2 = 0
      . rw [kidsM_ok1 h0 h1]
        split
        . rw [WfKs]; trivial
        . rw [WfKs]; exact ⟨hp s h1, ih⟩
      . rw [kidsM_err1 h0 h1, WfKs]; trivial
theorem parM_wf : ∀ (f : Nat) (s : List UInt8), (parM f s).2.2 = 0 -> WfN (parM f s).1 f
  | 0, s, h => by simp [parM] at h
  | f + 1, s, h => by
    have hb := byteAt_lt s 0
    rw [parM] at h ⊢
    split at h
    . cases h
    rename_i h0
    rw [if_neg h0]
    split at h
    . cases h
    rename_i h1
    rw [if_neg h1]
    split at h
    . rename_i h2; exact absurd h h2
    rename_i h2
    rw [if_neg h2]
    split at h
    . rename_i h3
      rw [if_pos h3, WfN]
      exact ⟨by omega, by omega, by omega, by rw [Int.toNat_natCast]; exact h1, fun h => absurd h3 (by rw [Int.toNat_natCast] at h; exact h), fun _ => rfl, by rw [WfKs]; trivial⟩
    rename_i h3
    rw [if_neg h3]
    split at h
    . rename_i h4; exact absurd h h4
    rename_i h4
    rw [if_neg h4, WfN]
    exact ⟨by omega, by omega, by omega, by rw [Int.toNat_natCast]; exact h1, fun _ => rfl, fun h => absurd (by rw [Int.toNat_natCast] at h; exact h) h3, kids_wf (parM_wf f) _ _⟩
theorem who_wf {s : List UInt8} (h : (who s).2 = 0) : WfN (who s).1 64 := by
  unfold who at h ⊢
  split at h
  . rename_i hc; exact absurd h hc
  . rename_i hc
    rw [if_neg hc]
    split at h
    . cases h
    . rename_i hc2
      rw [if_neg hc2, par_eq]
      exact parM_wf 64 s (by rw [<- par_eq]; simpa using hc)
theorem kids_wt {p : List UInt8 -> Nd × List UInt8 × Int} (hp : ∀ s, (p s).2.2 = 0 -> (p s).1.wt + (p s).2.1.length <= s.length) : ∀ (n : Nat) (s : List UInt8), wts (kidsM p n s).1 <= s.length
  | 0, s => by rw [kidsM, wts]; exact Nat.zero_le _
  | n + 1, s => by
    have ih := kids_wt hp n (p s).2.1
    by_cases h0 : s.length = 0
    . rw [kidsM_nil h0, wts]; exact Nat.zero_le _
    . by_cases h1 : (p s).2.2 = 0
      . rw [kidsM_ok1 h0 h1]
        have := hp s h1
        split
        . rw [wts]; exact Nat.zero_le _
        . rw [wts]; omega
      . rw [kidsM_err1 h0 h1, wts]; exact Nat.zero_le _
theorem parM_wt : ∀ (f : Nat) (s : List UInt8), (parM f s).2.2 = 0 -> (parM f s).1.wt + (parM f s).2.1.length <= s.length
  | 0, s, h => by simp [parM] at h
  | f + 1, s, h => by
    have key : lenE s = 0 -> ¬ s.length = 0 -> 2 + (innM s).length + (restM s).length <= s.length := fun h1 h2 => by
      have := lenE_ok h1
      have := innM_len h1
      unfold restM
      rw [List.length_drop]; omega
    have hk := kids_wt (parM_wt f) (innM s).length (innM s)
    rw [parM] at h ⊢
    split at h
    . cases h
    rename_i h0
    rw [if_neg h0]
    split at h
    . cases h
    rename_i h1
    rw [if_neg h1]
    split at h
    . rename_i h2; exact absurd h h2
    rename_i h2
    have h2' : lenE s = 0 := by simpa using h2
    have := key h2' h0
    rw [if_neg h2]
    split at h
    . rename_i h3
      rw [if_pos h3]
      simp only [Nd.wt, wts]; omega
    rename_i h3
    rw [if_neg h3]
    split at h
    . rename_i h4; exact absurd h h4
    rename_i h4
    rw [if_neg h4]
    simp only [Nd.wt, List.length_nil]; omega
theorem who_wt {s : List UInt8} (h : (who s).2 = 0) : (who s).1.wt <= s.length := by
  unfold who at h ⊢
  split at h
  . rename_i hc; exact absurd h hc
  . rename_i hc
    rw [if_neg hc]
    split at h
    . cases h
    . rename_i hc2
      rw [if_neg hc2]
      have := parM_wt 64 s (by rw [<- par_eq]; simpa using hc)
      rw [<- par_eq] at this
      simp only; omega
end Go.Proofs.YtibkffoeioidlaaDoor
namespace Go.Proofs.YtibkffoeioidlaaDoor
set_option linter.all false
set_option maxRecDepth 4000
open Go.RowKit

def RfR (gc : Nat) (o : Option (Fl × Nat)) (u : Value) (h' : Heap) (H' : List Chunk) : Prop := ∃ (k : Int) (a v : Bs) (A : Option Addr) (m1 c : Nat) (B : Option Addr) (m2 d n' : Nat) (b : Bool),
  u = .tuple #[.agg #[.int .i64 k, str a, str v, .slice A m1 c, .slice B m2 d], .bool b] /\ H' = [.blk gc [.int .i64 n'] 3] ∧
  ((b = true /\ ∃ fl, o = some (fl, n') /\ FlC h' fl [.int .i64 k, str a, str v, .slice A m1 c, .slice B m2 d]) \/ (b = false /\ o = none))
theorem RfR.ok {gc : Nat} {o : Option (Fl × Nat)} {h' : Heap} {k : Int} {a v : Bs} {A : Option Addr} {m1 c : Nat} {B : Option Addr} {m2 d n' : Nat} {fl : Fl} (ho : o = some (fl, n')) (hf : FlC h' fl [.int .i64 k, str a, str v, .slice A m1 c, .slice B m2 d]) :
    RfR gc o (.tuple #[.agg #[.int .i64 k, str a, str v, .slice A m1 c, .slice B m2 d], .bool true]) h' [.blk gc [.int .i64 n'] 3] := ⟨k, a, v, A, m1, c, B, m2, d, n', true, rfl, rfl, .inl ⟨rfl, fl, ho, hf⟩⟩
theorem RfR.no {gc : Nat} {o : Option (Fl × Nat)} {h' : Heap} {k : Int} {a v : Bs} {A : Option Addr} {m1 c : Nat} {B : Option Addr} {m2 d n' : Nat} (ho : o = none) :
    RfR gc o (.tuple #[.agg #[.int .i64 k, str a, str v, .slice A m1 c, .slice B m2 d], .bool false]) h' [.blk gc [.int .i64 n'] 3] := ⟨k, a, v, A, m1, c, B, m2, d, n', false, rfl, rfl, .inr ⟨rfl, ho⟩⟩
theorem RfR.ofB {gc : Nat} {o : Option (Fl × Nat)} {h' : Heap} {k : Int} {a v : Bs} {A : Option Addr} {m1 c : Nat} {B : Option Addr} {m2 d n' : Nat} {fl : Fl} (P : Bool) (ho : o = if P = true then some (fl, n') else none) (hf : FlC h' fl [.int .i64 k, str a, str v, .slice A m1 c, .slice B m2 d]) :
    RfR gc o (.tuple #[.agg #[.int .i64 k, str a, str v, .slice A m1 c, .slice B m2 d], .bool P]) h' [.blk gc [.int .i64 n'] 3] := by
  cases P with
  | true => exact RfR.ok (by rw [ho, if_pos rfl]) hf
  | false => exact RfR.no (by rw [ho, if_neg Bool.false_ne_true])
def PsWf (s : PS) (w : Nat) : Prop := ∀ l, s = some l -> WfKs l w
theorem PsWf.nxt {s : PS} {w : Nat} (h : PsWf s w) (t : Int) : PsWf (nxt t s) w := by
  intro l hl
  rcases psW_cases t s with ⟨e, _⟩ | ⟨n, l', e0, e, _⟩
  . rw [e] at hl; cases hl
  . rw [e] at hl
    injection hl with hl
    subst hl
    have := h _ e0
    rw [WfKs] at this
    exact this.2
theorem PsWf.nxN {s : PS} {w : Nat} (h : PsWf s w) (t : Int) (hn : Go.Proofs.YtibkffoeioidlaaDoor.nxt t s ≠ none) : WfN (nxN t s) w := by
  rcases psW_cases t s with ⟨e, _⟩ | ⟨n, l', e0, e, e1, _⟩
  . exact absurd e hn
  . rw [e1]
    have := h _ e0
    rw [WfKs] at this
    exact this.1
theorem wi_some {t : Int} {s : PS} {l : List Nd} (h : wiS t s = some l) : l = (nxN t s).kids /\ nxt t s ≠ none := by
  unfold wiS at h
  split at h
  . rename_i hc
    injection h with h
    exact ⟨h.symm, fun e => by rw [e] at hc; cases hc⟩
  . cases h
theorem WfN.kids : ∀ {n : Nd} {w : Nat}, WfN n w -> WfKs n.kids (w - 1)
  | .mk t d ks, w, h => by rw [WfN] at h; exact h.2.2.2.2.2.2
theorem WfN.tag : ∀ {n : Nd} {w : Nat}, WfN n w -> 0 <= n.tag /\ n.tag <= 255
  | .mk t d ks, w, h => by rw [WfN] at h; exact ⟨h.2.1, h.2.2.1⟩
theorem PsWf.wi {s : PS} {w : Nat} (h : PsWf s w) (t : Int) : PsWf (wiS t s) (w - 1) := by
  intro l hl
  obtain ⟨rfl, hn⟩ := wi_some hl
  exact (h.nxN t hn).kids
end Go.Proofs.YtibkffoeioidlaaDoor
