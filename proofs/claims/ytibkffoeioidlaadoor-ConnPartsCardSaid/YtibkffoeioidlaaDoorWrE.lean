/- Walk of tlv.Int. -/
import Derived.Test.YtibkffoeioidlaaDoorTlvA
import Derived.Test.YtibkffoeioidlaaDoorTlvQ
namespace Go.Proofs.YtibkffoeioidlaaDoor
set_option linter.all false
set_option maxRecDepth 4000
open Go.RowKit

def intF (n : Int) : Nat → Nat → Nat
  | 0, k => k
  | f + 1, k => if n / 2 ^ (8 * k - 1) ≠ 0 ∧ n / 2 ^ (8 * k - 1) ≠ -1 then intF n f (k + 1) else k
theorem intF_range (n : Int) : ∀ (f k : Nat), k ≤ intF n f k ∧ intF n f k ≤ k + f
  | 0, k => by simp [intF]
  | f + 1, k => by
    have := intF_range n f (k + 1)
    unfold intF
    split <;> omega

theorem exp_eq (k : Nat) : (8 * (k : Int) - 1).toNat = 8 * k - 1 := by omega
theorem intF_go {n : Int} {k : Nat} (h : (k : Int) < 8) (h0 : ¬ n / 2 ^ (8 * (k : Int) - 1).toNat = 0) (h1 : ¬ n / 2 ^ (8 * (k : Int) - 1).toNat = -1) : intF n (8 - k) k = intF n (8 - (k + 1)) (k + 1) := by
  rw [exp_eq] at h0 h1
  rw [show 8 - k = (8 - (k + 1)) + 1 by omega]
  rw [intF, if_pos ⟨h0, h1⟩]
theorem intF_stop {n : Int} {k : Nat} (hk : k ≤ 8) (h : ¬ (k : Int) < 8 ∨ n / 2 ^ (8 * (k : Int) - 1).toNat = 0 ∨ n / 2 ^ (8 * (k : Int) - 1).toNat = -1) : intF n (8 - k) k = k := by
  rw [exp_eq] at h
  by_cases h8 : k = 8
  · subst h8; rfl
  · rw [show 8 - k = (8 - (k + 1)) + 1 by omega, intF, if_neg]
    intro hh
    rcases h with h | h | h
    · omega
    · exact hh.1 h
    · exact hh.2 h
theorem octet_PutI (n : Int) (hn : 0 ≤ n ∧ n ≤ 18446744073709551615) (s : Int) (hs : 1 ≤ s ∧ s ≤ 8) (h : Heap) :
    Spec Tryd.prog 102 [.int .u64 n, .int .i64 s] h [] (fun v _ H' => H' = [] ∧ v = str (putB n.toNat s.toNat)) := by
  obtain ⟨m, rfl⟩ := Int.eq_ofNat_of_zero_le hn.1
  exact octet_Put m (by omega) s hs h

set_option maxRecDepth 8000 in
set_option maxHeartbeats 1000000 in
theorem tlv_Int (n : Int) (hn : inR .i64 n) (h : Heap) :
    Spec Tryd.prog 74 [.int .i64 n] h [] (fun v _ H' => H' = [] ∧ v = str (putB (IntKind.u64.wrap n).toNat (intF n 7 1))) := by
  simp only [inR] at hn
  refine Spec.enter Tryd.func74 rfl rfl ?_; intro w0
  repeat' (first | (refine G.atCode ?_; first | refine G.seq ?_ | refine G.region ?_ | refine G.block ?_) | refine G.endOps ?_ | refine G.op rfl rfl ?_)
  refine G.loop (σ := Nat) (fun k => [(3, .int .i64 k), (0, .int .i64 n)]) (fun _ => []) (fun k _ => 1 ≤ k ∧ k ≤ 8 ∧ intF n (8 - k) k = intF n 7 1) (fun k => 8 - k) 1
    ⟨rfl, rfl, trivial⟩ (SubH.nil _) ⟨Nat.le_refl _, by omega, rfl⟩ ?_
  intro k h1 hle hk
  obtain ⟨hk1, hk2, hk3⟩ := hk
  have hwr : 0 ≤ IntKind.u64.wrap n ∧ IntKind.u64.wrap n ≤ 18446744073709551615 := wrap_inR .u64 n
  repeat' (first | (show G _ (.ops .seq _ (⟨some _, .call { callee := .value (.func 102), args := _, argTypes := _ }, _, _, _, none⟩ :: _) :: _) _ _ _; refine G.call callPut7 rfl rfl (octet_PutI _ (by assumption) _ (by omega) _) (by solve | (repeat (first | apply Takes.nil | apply Take.hd | apply Take.tl | apply Takes.cons))) ?_; rintro _ h2 H2 ⟨rfl, rfl⟩ hle2) | (refine G.atCode ?_; first | refine G.seq ?_ | refine G.region ?_ | refine G.block ?_ | refine G.skip ?_ | refine G.exit rfl ?_ | refine G.ret ?_ | (refine G.cond rfl ?_ ?_ <;> intro hc <;> (try simp only [tests, reduceCtorEq] at hc) <;> (try (exfalso; first | omega | exact absurd hc (by with_reducible assumption) | exact absurd (by with_reducible assumption) hc | exact Bool.noConfusion hc | exact hc | exact hc trivial | fail)))) | refine G.endOps ?_ | refine G.endBlk ?_ | (refine G.atGd ?_; first | refine G.guardYes rfl rfl ?_ | refine G.guardNoS rfl rfl rfl ?_ | (refine G.guardS rfl rfl rfl ?_ ?_ <;> intro hc <;> (try simp only [tests, reduceCtorEq] at hc) <;> (try (exfalso; first | omega | exact absurd hc (by with_reducible assumption) | exact absurd (by with_reducible assumption) hc | exact Bool.noConfusion hc | exact hc | exact hc trivial | fail)))) | (refine G.atBin ?_; first | (refine G.atAdd ?_; first | refine G.arith rfl rfl rfl rfl rfl (by simp only [inR]; omega) ?_) | (refine G.atSub ?_; first | refine G.arith rfl rfl rfl rfl rfl (by simp only [inR]; omega) ?_) | (refine G.atMul ?_; first | refine G.arith rfl rfl rfl rfl rfl (by simp only [inR]; omega) ?_) | (refine G.atNeq ?_; first | refine G.op rfl rfl ?_) | (refine G.atShr ?_; refine G.shr rfl rfl (by first | (simp only [Int.reduceToNat]; rfl) | with_reducible apply Int.toNat_natCast | exact Eq.refl _) rfl (by simp only [IntKind.bits]; omega) rfl ?_) | refine G.op rfl rfl ?_) | refine G.op rfl rfl ?_ | (refine G.atConv ?_; first | (refine G.convW rfl (tyy rfl) (tyy rfl) rfl ?_; intro hcw; (try simp only [inR] at hcw))))
  · refine G.again (k + 1) ⟨sint (by omega), rfl, trivial⟩ (SubH.nil _) ⟨by omega, by omega, ?_⟩ (Heap.le_refl _) (by omega)
    rw [← hk3]
    exact (intF_go (by assumption) (by assumption) (by assumption)).symm
  all_goals
    refine G.done1 rfl rfl [] (SubH.nil _) ⟨rfl, ?_⟩
    rw [← hk3, intF_stop hk2 (by first | exact .inl (by assumption) | exact .inr (.inl (by assumption)) | exact .inr (.inr (by assumption))), Int.toNat_natCast]
end Go.Proofs.YtibkffoeioidlaaDoor
namespace Go.Proofs.YtibkffoeioidlaaDoor
set_option linter.all false
set_option maxRecDepth 4000
open Go.RowKit

def lenB (n : Nat) : List UInt8 := if n < 128 then putB n 1 else if n < 256 then putB 129 1 ++ putB n 1 else if n < 65536 then putB 130 1 ++ putB n 2 else putB 131 1 ++ putB n 3
theorem lenB_len (n : Nat) : (lenB n).length ≤ 4 := by
  unfold lenB
  split
  · simp [putB_length]
  · split
    · simp [putB_length]
    · split <;> simp [putB_length]
def headB (t : Int) (n : Nat) : List UInt8 := putB t.toNat 1 ++ lenB n
theorem headB_len (t : Int) (n : Nat) : (headB t n).length ≤ 5 := by
  have := lenB_len n
  unfold headB
  rw [List.length_append, putB_length]; omega

mutual
def putM : Int → Nd → List UInt8 × Int
  | d, .mk t data ks =>
    if 64 < d then ([], 6) else if t < 0 ∨ 255 < t ∨ ((t.toNat &&& 31 : Nat) : Int) = 31 then ([], 7) else
    if (((t.toNat &&& 32 : Nat) : Int) ≠ 0 ∧ data.length ≠ 0) ∨ (((t.toNat &&& 32 : Nat) : Int) = 0 ∧ ks.length ≠ 0) then ([], 4) else
    if (putsM (d + 1) ks).2 ≠ 0 then ([], (putsM (d + 1) ks).2) else
    if 1048576 < (data ++ (putsM (d + 1) ks).1).length then ([], 5) else (headB t (data ++ (putsM (d + 1) ks).1).length ++ (data ++ (putsM (d + 1) ks).1), 0)
def putsM : Int → List Nd → List UInt8 × Int
  | _, [] => ([], 0)
  | d, k :: ks => if (putM d k).2 ≠ 0 then ([], (putM d k).2) else if (putsM d ks).2 ≠ 0 then ([], (putsM d ks).2) else ((putM d k).1 ++ (putsM d ks).1, 0)
end
mutual
def Nd.wt : Nd → Nat
  | .mk _ data ks => 1 + data.length + wts ks
def wts : List Nd → Nat
  | [] => 0
  | k :: ks => Nd.wt k + wts ks
end
mutual
theorem putM_len : ∀ (d : Int) (n : Nd), (putM d n).1.length ≤ 6 * n.wt
  | d, .mk t data ks => by
    have h1 := putsM_len (d + 1) ks
    have h2 := headB_len t (data ++ (putsM (d + 1) ks).1).length
    rw [putM]
    simp only [Nd.wt]
    split
    · simp
    · split
      · simp
      · split
        · simp
        · split
          · simp
          · split
            · simp
            · simp only [List.length_append] at *; omega
theorem putsM_len : ∀ (d : Int) (l : List Nd), (putsM d l).1.length ≤ 6 * wts l
  | _, [] => by simp [putsM]
  | d, k :: ks => by
    have h1 := putM_len d k
    have h2 := putsM_len d ks
    rw [putsM]
    simp only [wts]
    split
    · simp
    · split
      · simp
      · simp only [List.length_append]; omega
end
theorem putsM_snoc {d : Int} {k : Nd} : ∀ {l : List Nd}, (putsM d l).2 = 0 → (putM d k).2 = 0 → putsM d (l ++ [k]) = ((putsM d l).1 ++ (putM d k).1, 0)
  | [], _, h2 => by
    simp only [List.nil_append]
    simp [putsM, h2]
  | q :: l, h1, h2 => by
    rw [putsM] at h1
    split at h1
    · rename_i h; exact absurd h1 h
    · rename_i h
      split at h1
      · rename_i h3; exact absurd h1 h3
      · rename_i h3
        have ih := putsM_snoc (l := l) (by simpa using h3) h2
        rw [List.cons_append, putsM, if_neg h, ih, putsM, if_neg h, if_neg h3]
        simp
theorem putsM_bad {d : Int} {k : Nd} {r : List Nd} : ∀ {l : List Nd}, (putsM d l).2 = 0 → (putM d k).2 ≠ 0 → putsM d (l ++ k :: r) = ([], (putM d k).2)
  | [], _, h2 => by
    simp only [List.nil_append]
    rw [putsM, if_pos h2]
  | q :: l, h1, h2 => by
    rw [putsM] at h1
    split at h1
    · rename_i h; exact absurd h1 h
    · rename_i h
      split at h1
      · rename_i h3; exact absurd h1 h3
      · rename_i h3
        have ih := putsM_bad (r := r) (l := l) (by simpa using h3) h2
        rw [List.cons_append, putsM, if_neg h, ih, if_pos h2]
theorem KidsC.at_ {h : Heap} : ∀ {a : List Nd} {ra : List (List Value)} {i : Nat} {r : List Value}, KidsC h a ra → ra[i]? = some r → ∃ n, a[i]? = some n ∧ NodeC h n r
  | [], ra, i, r, hk, hi => by simp only [KidsC] at hk; subst hk; simp at hi
  | k :: ks, ra, i, r, hk, hi => by
    simp only [KidsC] at hk
    obtain ⟨r1, rs, rfl, h1, h2⟩ := hk
    cases i with
    | zero => simp at hi; subst hi; exact ⟨k, rfl, h1⟩
    | succ i => simp at hi; obtain ⟨n, h3, h4⟩ := KidsC.at_ h2 hi; exact ⟨n, by simpa using h3, h4⟩
theorem wt_mem : ∀ {ks : List Nd} {k : Nd}, k ∈ ks → k.wt ≤ wts ks
  | [], _, h => by cases h
  | q :: ks, k, h => by
    simp only [wts]
    rcases List.mem_cons.1 h with rfl | h
    · omega
    · have := wt_mem h; omega
theorem wts_append : ∀ (a b : List Nd), wts (a ++ b) = wts a + wts b
  | [], b => by simp [wts]
  | k :: a, b => by have := wts_append a b; simp only [List.cons_append, wts]; omega
theorem wts_take : ∀ (ks : List Nd) (i : Nat), wts (ks.take i) ≤ wts ks
  | [], i => by simp
  | k :: ks, 0 => by simp [wts]
  | k :: ks, i + 1 => by have := wts_take ks i; simp only [List.take_succ_cons, wts]; omega

end Go.Proofs.YtibkffoeioidlaaDoor
namespace Go.Proofs.YtibkffoeioidlaaDoor
set_option linter.all false
set_option maxRecDepth 4000
open Go.RowKit

mutual
def WfN : Nd → Nat → Prop
  | .mk t d ks, f => 0 < f ∧ 0 ≤ t ∧ t ≤ 255 ∧ ((t.toNat &&& 31 : Nat) : Int) ≠ 31 ∧ (((t.toNat &&& 32 : Nat) : Int) ≠ 0 → d.length = 0) ∧ (((t.toNat &&& 32 : Nat) : Int) = 0 → ks.length = 0) ∧ WfKs ks (f - 1)
def WfKs : List Nd → Nat → Prop
  | [], _ => True
  | k :: ks, f => WfN k f ∧ WfKs ks f
end
mutual
theorem WfN.mono : ∀ (a : Nd) {f g : Nat}, WfN a f → f ≤ g → WfN a g
  | .mk t d ks, f, g, h, hl => by
    rw [WfN] at h ⊢
    obtain ⟨h1, h2, h3, h4, h5, h6, h7⟩ := h
    exact ⟨by omega, h2, h3, h4, h5, h6, WfKs.mono ks h7 (by omega)⟩
theorem WfKs.mono : ∀ (l : List Nd) {f g : Nat}, WfKs l f → f ≤ g → WfKs l g
  | [], _, _, _, _ => by rw [WfKs]; trivial
  | k :: ks, f, g, h, hl => by
    rw [WfKs] at h ⊢
    exact ⟨WfN.mono k h.1 hl, WfKs.mono ks h.2 hl⟩
end
theorem WfKs.mem : ∀ {l : List Nd} {f : Nat}, WfKs l f → ∀ n ∈ l, WfN n f
  | [], _, _, n, hn => by simp at hn
  | k :: ks, f, h, n, hn => by
    rw [WfKs] at h
    rcases List.mem_cons.1 hn with rfl | hn
    · exact h.1
    · exact WfKs.mem h.2 n hn
theorem WfKs.of : ∀ {l : List Nd} {f : Nat}, (∀ n ∈ l, WfN n f) → WfKs l f
  | [], _, _ => by rw [WfKs]; trivial
  | k :: ks, f, h => by
    rw [WfKs]
    exact ⟨h k (List.mem_cons_self ..), WfKs.of fun n hn => h n (List.mem_cons_of_mem _ hn)⟩
theorem kids_wf {p : List UInt8 → Nd × List UInt8 × Int} {f : Nat} (hp : ∀ s, (p s).2.2 = 0 → WfN (p s).1 f) : ∀ (n : Nat) (s : List UInt8), WfKs (kidsM p n s).1 f
  | 0, s => by rw [kidsM, WfKs]; trivial
  | n + 1, s => by
    have ih := kids_wf hp n (p s).2.1
    by_cases h0 : s.length = 0
    · rw [kidsM_nil h0, WfKs]; trivial
    · by_cases h1 : (p s).2.2 = 0
      · rw [kidsM_ok1 h0 h1]
        split
        · rw [WfKs]; trivial
        · rw [WfKs]; exact ⟨hp s h1, ih⟩
      · rw [kidsM_err1 h0 h1, WfKs]; trivial
theorem parM_wf : ∀ (f : Nat) (s : List UInt8), (parM f s).2.2 = 0 → WfN (parM f s).1 f
  | 0, s, h => by simp [parM] at h
  | f + 1, s, h => by
    have hb := byteAt_lt s 0
    rw [parM] at h ⊢
    split at h
    · cases h
    rename_i h0
    rw [if_neg h0]
    split at h
    · cases h
    rename_i h1
    rw [if_neg h1]
    split at h
    · rename_i h2; exact absurd h h2
    rename_i h2
    rw [if_neg h2]
    split at h
    · rename_i h3
      rw [if_pos h3, WfN]
      exact ⟨by omega, by omega, by omega, by rw [Int.toNat_natCast]; exact h1, fun h => absurd h3 (by rw [Int.toNat_natCast] at h; exact h), fun _ => rfl, by rw [WfKs]; trivial⟩
    rename_i h3
    rw [if_neg h3]
    split at h
    · rename_i h4; exact absurd h h4
    rename_i h4
    rw [if_neg h4, WfN]
    exact ⟨by omega, by omega, by omega, by rw [Int.toNat_natCast]; exact h1, fun _ => rfl, fun h => absurd (by rw [Int.toNat_natCast] at h; exact h) h3, kids_wf (parM_wf f) _ _⟩
theorem who_wf {s : List UInt8} (h : (who s).2 = 0) : WfN (who s).1 64 := by
  unfold who at h ⊢
  split at h
  · rename_i hc; exact absurd h hc
  · rename_i hc
    rw [if_neg hc]
    split at h
    · cases h
    · rename_i hc2
      rw [if_neg hc2, par_eq]
      exact parM_wf 64 s (by rw [← par_eq]; simpa using hc)
theorem kids_wt {p : List UInt8 → Nd × List UInt8 × Int} (hp : ∀ s, (p s).2.2 = 0 → (p s).1.wt + (p s).2.1.length ≤ s.length) : ∀ (n : Nat) (s : List UInt8), wts (kidsM p n s).1 ≤ s.length
  | 0, s => by rw [kidsM, wts]; exact Nat.zero_le _
  | n + 1, s => by
    have ih := kids_wt hp n (p s).2.1
    by_cases h0 : s.length = 0
    · rw [kidsM_nil h0, wts]; exact Nat.zero_le _
    · by_cases h1 : (p s).2.2 = 0
      · rw [kidsM_ok1 h0 h1]
        have := hp s h1
        split
        · rw [wts]; exact Nat.zero_le _
        · rw [wts]; omega
      · rw [kidsM_err1 h0 h1, wts]; exact Nat.zero_le _
theorem parM_wt : ∀ (f : Nat) (s : List UInt8), (parM f s).2.2 = 0 → (parM f s).1.wt + (parM f s).2.1.length ≤ s.length
  | 0, s, h => by simp [parM] at h
  | f + 1, s, h => by
    have key : lenE s = 0 → ¬ s.length = 0 → 2 + (innM s).length + (restM s).length ≤ s.length := fun h1 h2 => by
      have := lenE_ok h1
      have := innM_len h1
      unfold restM
      rw [List.length_drop]; omega
    have hk := kids_wt (parM_wt f) (innM s).length (innM s)
    rw [parM] at h ⊢
    split at h
    · cases h
    rename_i h0
    rw [if_neg h0]
    split at h
    · cases h
    rename_i h1
    rw [if_neg h1]
    split at h
    · rename_i h2; exact absurd h h2
    rename_i h2
    have h2' : lenE s = 0 := by simpa using h2
    have := key h2' h0
    rw [if_neg h2]
    split at h
    · rename_i h3
      rw [if_pos h3]
      simp only [Nd.wt, wts]; omega
    rename_i h3
    rw [if_neg h3]
    split at h
    · rename_i h4; exact absurd h h4
    rename_i h4
    rw [if_neg h4]
    simp only [Nd.wt, List.length_nil]; omega
theorem who_wt {s : List UInt8} (h : (who s).2 = 0) : (who s).1.wt ≤ s.length := by
  unfold who at h ⊢
  split at h
  · rename_i hc; exact absurd h hc
  · rename_i hc
    rw [if_neg hc]
    split at h
    · cases h
    · rename_i hc2
      rw [if_neg hc2]
      have := parM_wt 64 s (by rw [← par_eq]; simpa using hc)
      rw [← par_eq] at this
      simp only; omega
end Go.Proofs.YtibkffoeioidlaaDoor
