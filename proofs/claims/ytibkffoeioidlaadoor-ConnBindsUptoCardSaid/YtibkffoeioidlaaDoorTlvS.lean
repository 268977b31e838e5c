/- Walk of tlv.Int. -/
import Derived.Test.YtibkffoeioidlaaDoorTlvA
import Derived.Test.YtibkffoeioidlaaDoorTlvQ
namespace Go.Proofs.YtibkffoeioidlaaDoor
set_option linter.all false
set_option maxRecDepth 4000
open Go.RowKit

def intF (n : Int) : Nat -> Nat -> Nat
  | 0, k => k
  | f + 1, k => if n / 2 ^ (8 * k - 1) ≠ 0 /\ n / 2 ^ (8 * k - 1) ≠ -1 then intF n f (k + 1) else k
theorem intF_range (n : Int) : ∀ (f k : Nat), k <= intF n f k /\ intF n f k <= k + f
  | 0, k => by simp [intF]
  | f + 1, k => by
    have := intF_range n f (k + 1)
    unfold intF
    split <;> omega

theorem exp_eq (k : Nat) : (8 * (k : Int) - 1).toNat = 8 * k - 1 := by omega
theorem intF_go {n : Int} {k : Nat} (h : (k : Int) < 8) (h0 : ¬ n / 2 ^ (8 * (k : Int) - 1).toNat = 0) (h1 : ¬ n / 2 ^ (8 * (k : Int) - 1).toNat = -1) : intF n (8 - k) k = intF n (8 - (k + 1)) (k + 1) := by
  rw [exp_eq] at h0 h1
  rw [show 8 - k = (8 - (k + 1)) + 1 by omega]
  rw [intF, if_pos ⟨h0, h1⟩]
theorem intF_stop {n : Int} {k : Nat} (hk : k <= 8) (h : ¬ (k : Int) < 8 \/ n / 2 ^ (8 * (k : Int) - 1).toNat = 0 \/ n / 2 ^ (8 * (k : Int) - 1).toNat = -1) : intF n (8 - k) k = k := by
  rw [exp_eq] at h
  by_cases h8 : k = 8
  . subst h8; rfl
  . rw [show 8 - k = (8 - (k + 1)) + 1 by omega, intF, if_neg]
    intro hh
    rcases h with h | h | h
    . omega
    . exact hh.1 h
    . exact hh.2 h
theorem octet_PutI (n : Int) (hn : 0 <= n /\ n <= 18446744073709551615) (s : Int) (hs : 1 <= s /\ s <= 8) (h : Heap) :
    Spec Tryd.prog 102 [.int .u64 n, .int .i64 s] h [] (fun v _ H' => H' = [] /\ v = str (putB n.toNat s.toNat)) := by
  obtain ⟨m, rfl⟩ := Int.eq_ofNat_of_zero_le hn.1
  exact octet_Put m (by omega) s hs h

set_option maxRecDepth 8000 in
set_option maxHeartbeats 1000000 in
theorem tlv_Int (n : Int) (hn : inR .i64 n) (h : Heap) :
    Spec Tryd.prog 74 [.int .i64 n] h [] (fun v _ H' => H' = [] /\ v = str (putB (IntKind.u64.wrap n).toNat (intF n 7 1))) := by
  simp only [inR] at hn
  refine Spec.enter Tryd.func74 rfl rfl ?_; intro w0
  repeat' (first | (refine G.atCode ?_; first | refine G.seq ?_ | refine G.region ?_ | refine G.block ?_) | refine G.endOps ?_ | refine G.op rfl rfl ?_)
  refine G.loop (σ := Nat) (fun k => [(3, .int .i64 k), (0, .int .i64 n)]) (fun _ => []) (fun k _ => 1 <= k /\ k <= 8 /\ intF n (8 - k) k = intF n 7 1) (fun k => 8 - k) 1
    ⟨rfl, rfl, trivial⟩ (SubH.nil _) ⟨Nat.le_refl _, by omega, rfl⟩ ?_
  intro k h1 hle hk
  obtain ⟨hk1, hk2, hk3⟩ := hk
  have hwr : 0 <= IntKind.u64.wrap n /\ IntKind.u64.wrap n <= 18446744073709551615 := wrap_inR .u64 n
  repeat' (first | (show G _ (.ops .seq _ (⟨some _, .call { callee := .value (.func 102), args := _, argTypes := _ }, _, _, _, none⟩ :: _) :: _) _ _ _; refine G.call callPut7 rfl rfl (octet_PutI _ (by assumption) _ (by omega) _) (by solve | repeat first | apply Zn | apply Zh | apply Zt | apply Zc) ?_; rintro _ h2 H2 ⟨rfl, rfl⟩ hle2) | (refine G.atCode ?_; first | refine G.seq ?_ | refine G.region ?_ | refine G.block ?_ | refine G.skip ?_ | refine G.exit rfl ?_ | refine G.ret ?_ | (refine G.cond rfl ?_ ?_ <;> intro hc <;> (try simp only [tests, reduceCtorEq] at hc) <;> (try (exfalso; first | omega | exact Zx hc | exact Zy hc | exact Zb hc | exact hc | exact hc trivial)))) | refine G.endOps ?_ | refine G.endBlk ?_ | (refine G.atGd ?_; first | refine G.guardYes rfl rfl ?_ | refine G.guardNoS rfl rfl rfl ?_ | (refine G.guardS rfl rfl rfl ?_ ?_ <;> intro hc <;> (try simp only [tests, reduceCtorEq] at hc) <;> (try (exfalso; first | omega | exact Zx hc | exact Zy hc | exact Zb hc | exact hc | exact hc trivial)))) | (refine G.atBin ?_; first | (refine G.atAdd ?_; first | refine G.arith rfl rfl rfl rfl rfl (by simp only [inR]; omega) ?_) | (refine G.atSub ?_; first | refine G.arith rfl rfl rfl rfl rfl (by simp only [inR]; omega) ?_) | (refine G.atMul ?_; first | refine G.arith rfl rfl rfl rfl rfl (by simp only [inR]; omega) ?_) | (refine G.atNeq ?_; first | refine G.op rfl rfl ?_) | (refine G.atShr ?_; refine G.shr rfl rfl (by first | (simp only [Int.reduceToNat]; rfl) | with_reducible apply Int.toNat_natCast | exact Eq.refl _) rfl (by simp only [IntKind.bits]; omega) rfl ?_) | refine G.op rfl rfl ?_) | refine G.op rfl rfl ?_ | (refine G.atConv ?_; first | (refine G.convW rfl (tyy rfl) (tyy rfl) rfl ?_; intro hcw; (try simp only [inR] at hcw))))
  . refine G.again (k + 1) ⟨sint (by omega), rfl, trivial⟩ (SubH.nil _) ⟨by omega, by omega, ?_⟩ (Heap.le_refl _) (by omega)
    rw [<- hk3]
    exact (intF_go (by assumption) (by assumption) (by assumption)).symm
  all_goals
    refine G.done1 rfl rfl [] (SubH.nil _) ⟨rfl, ?_⟩
    rw [<- hk3, intF_stop hk2 (by first | exact .inl (by assumption) | exact .inr (.inl (by assumption)) | exact .inr (.inr (by assumption))), Int.toNat_natCast]
end Go.Proofs.YtibkffoeioidlaaDoor
namespace Go.Proofs.YtibkffoeioidlaaDoor
set_option linter.all false
set_option maxRecDepth 4000
open Go.RowKit

def lenB (n : Nat) : List UInt8 := if n < 128 then putB n 1 else if n < 256 then putB 129 1 ++ putB n 1 else if n < 65536 then putB 130 1 ++ putB n 2 else putB 131 1 ++ putB n 3
theorem lenB_len (n : Nat) : (lenB n).length <= 4 := by
  unfold lenB
  split
  . simp [putB_length]
  . split
    . simp [putB_length]
    . split <;> simp [putB_length]
def headB (t : Int) (n : Nat) : List UInt8 := putB t.toNat 1 ++ lenB n
theorem headB_len (t : Int) (n : Nat) : (headB t n).length <= 5 := by
  have := lenB_len n
  unfold headB
  rw [List.length_append, putB_length]; omega

mutual
def putM : Int -> Nd -> List UInt8 × Int
  | d, .mk t data ks =>
    if 64 < d then ([], 6) else if t < 0 \/ 255 < t \/ ((t.toNat &&& 31 : Nat) : Int) = 31 then ([], 7) else
    if (((t.toNat &&& 32 : Nat) : Int) ≠ 0 /\ data.length ≠ 0) \/ (((t.toNat &&& 32 : Nat) : Int) = 0 /\ ks.length ≠ 0) then ([], 4) else
    if (putsM (d + 1) ks).2 ≠ 0 then ([], (putsM (d + 1) ks).2) else
    if 1048576 < (data ++ (putsM (d + 1) ks).1).length then ([], 5) else (headB t (data ++ (putsM (d + 1) ks).1).length ++ (data ++ (putsM (d + 1) ks).1), 0)
def putsM : Int -> List Nd -> List UInt8 × Int
  | _, [] => ([], 0)
  | d, k :: ks => if (putM d k).2 ≠ 0 then ([], (putM d k).2) else if (putsM d ks).2 ≠ 0 then ([], (putsM d ks).2) else ((putM d k).1 ++ (putsM d ks).1, 0)
end
mutual
def Nd.wt : Nd -> Nat
  | .mk _ data ks => 1 + data.length + wts ks
def wts : List Nd -> Nat
  | [] => 0
  | k :: ks => Nd.wt k + wts ks
end
mutual
theorem putM_len : ∀ (d : Int) (n : Nd), (putM d n).1.length <= 6 * n.wt
  | d, .mk t data ks => by
    have h1 := putsM_len (d + 1) ks
    have h2 := headB_len t (data ++ (putsM (d + 1) ks).1).length
    rw [putM]
    simp only [Nd.wt]
    split
    . simp
    . split
      . simp
      . split
        . simp
        . split
          . simp
          . split
            . simp
            . simp only [List.length_append] at *; omega
theorem putsM_len : ∀ (d : Int) (l : List Nd), (putsM d l).1.length <= 6 * wts l
  | _, [] => by simp [putsM]
  | d, k :: ks => by
    have h1 := putM_len d k
    have h2 := putsM_len d ks
    rw [putsM]
    simp only [wts]
    split
    . simp
    . split
      . simp
      . simp only [List.length_append]; omega
end
theorem putsM_snoc {d : Int} {k : Nd} : ∀ {l : List Nd}, (putsM d l).2 = 0 -> (putM d k).2 = 0 -> putsM d (l ++ [k]) = ((putsM d l).1 ++ (putM d k).1, 0)
  | [], _, h2 => by
    simp only [List.nil_append]
    simp [putsM, h2]
  | q :: l, h1, h2 => by
    rw [putsM] at h1
    split at h1
    . rename_i h; exact absurd h1 h
    . rename_i h
      split at h1
      . rename_i h3; exact absurd h1 h3
      . rename_i h3
        have ih := putsM_snoc (l := l) (by simpa using h3) h2
        rw [List.cons_append, putsM, if_neg h, ih, putsM, if_neg h, if_neg h3]
        simp
theorem putsM_bad {d : Int} {k : Nd} {r : List Nd} : ∀ {l : List Nd}, (putsM d l).2 = 0 -> (putM d k).2 ≠ 0 -> putsM d (l ++ k :: r) = ([], (putM d k).2)
  | [], _, h2 => by
    simp only [List.nil_append]
    rw [putsM, if_pos h2]
  | q :: l, h1, h2 => by
    rw [putsM] at h1
    split at h1
    . rename_i h; exact absurd h1 h
    . rename_i h
      split at h1
      . rename_i h3; exact absurd h1 h3
      . rename_i h3
        have ih := putsM_bad (r := r) (l := l) (by simpa using h3) h2
        rw [List.cons_append, putsM, if_neg h, ih, if_pos h2]
theorem KidsC.at_ {h : Heap} : ∀ {a : List Nd} {ra : List (List Value)} {i : Nat} {r : List Value}, KidsC h a ra -> ra[i]? = some r -> ∃ n, a[i]? = some n /\ NodeC h n r
  | [], ra, i, r, hk, hi => by simp only [KidsC] at hk; subst hk; simp at hi
  | k :: ks, ra, i, r, hk, hi => by
    simp only [KidsC] at hk
    obtain ⟨r1, rs, rfl, h1, h2⟩ := hk
    cases i with
    | zero => simp at hi; subst hi; exact ⟨k, rfl, h1⟩
    | succ i => simp at hi; obtain ⟨n, h3, h4⟩ := KidsC.at_ h2 hi; exact ⟨n, by simpa using h3, h4⟩
theorem wt_mem : ∀ {ks : List Nd} {k : Nd}, k ∈ ks -> k.wt <= wts ks
  | [], _, h => by cases h
  | q :: ks, k, h => by
    simp only [wts]
    rcases List.mem_cons.1 h with rfl | h
    . omega
    . have := wt_mem h; omega
theorem wts_append : ∀ (a b : List Nd), wts (a ++ b) = wts a + wts b
  | [], b => by simp [wts]
  | k :: a, b => by have := wts_append a b; simp only [List.cons_append, wts]; omega
theorem wts_take : ∀ (ks : List Nd) (i : Nat), wts (ks.take i) <= wts ks
  | [], i => by simp
  | k :: ks, 0 => by simp [wts]
  | k :: ks, i + 1 => by have := wts_take ks i; simp only [List.take_succ_cons, wts]; omega

end Go.Proofs.YtibkffoeioidlaaDoor
