/- Filters: check, text, bare, in plain Lean; a text is read as the filter. -/
import Derived.Test.YtcghcdnmpjhifaaDoorFlR
namespace Go.Proofs.YtcghcdnmpjhifaaDoor
set_option linter.all false
set_option maxRecDepth 4000
open Go.RowKit

def isEsc (b : UInt8) : Prop := b.toNat = 0 \/ b.toNat = 40 \/ b.toNat = 41 \/ b.toNat = 42 \/ b.toNat = 92
instance (b : UInt8) : Decidable (isEsc b) := by unfold isEsc; infer_instance
def escB (b : UInt8) : List UInt8 := if isEsc b then [92, UInt8.ofNat (digN (b.toNat / 16)), UInt8.ofNat (digN (b.toNat % 16))] else [b]
def escS (v : List UInt8) : List UInt8 := v.flatMap escB
theorem escS_cons (b : UInt8) (v : List UInt8) : escS (b :: v) = escB b ++ escS v := by simp [escS]
theorem escS_app (a b : List UInt8) : escS (a ++ b) = escS a ++ escS b := by simp [escS]
theorem escB_len (b : UInt8) : 1 <= (escB b).length /\ (escB b).length <= 3 := by unfold escB; split <;> simp
theorem escS_len : ∀ v : List UInt8, v.length <= (escS v).length /\ (escS v).length <= 3 * v.length
  | [] => by simp [escS]
  | b :: v => by
    have := escS_len v
    have := escB_len b
    rw [escS_cons, List.length_append, List.length_cons]; omega
theorem hexM_dig : ∀ n : Fin 256, hexM (UInt8.ofNat (digN (n.val / 16))) (UInt8.ofNat (digN (n.val % 16))) = some (UInt8.ofNat n.val) := by decide +kernel
theorem scan_escB (b : UInt8) (s : List UInt8) : scanM (escB b ++ s) = (scanM s).map (pushB b) := by
  unfold escB
  by_cases h : isEsc b
  . rw [if_pos h]
    simp only [List.cons_append, List.nil_append]
    rw [scanM_eq, if_neg (by decide), if_neg (by decide), if_pos (by decide)]
    simp only
    have h1 := hexM_dig ⟨b.toNat, b.toNat_lt⟩
    simp only at h1
    rw [h1]
    simp
  . rw [if_neg h]
    unfold isEsc at h
    simp only [List.cons_append, List.nil_append]
    rw [scanM_eq, if_neg (by omega), if_neg (by omega), if_neg (by omega), if_neg (by omega)]
theorem combS_head {b : UInt8} {v : List UInt8} (x : Option (List (List UInt8) × List UInt8)) : (combS [] v x).map (pushB b) = combS [] (b :: v) x := by
  match x with
  | none => rfl
  | some ([], r) => rfl
  | some (p :: ps, r) => rfl
theorem combS_nil {x : Option (List (List UInt8) × List UInt8)} (hx : ∀ r, x ≠ some ([], r)) : combS [] [] x = x := by
  match x, hx with
  | none, _ => rfl
  | some ([], r), hx => exact absurd rfl (hx r)
  | some (p :: ps, r), _ => simp [combS]
theorem scan_escS (s : List UInt8) : ∀ v, scanM (escS v ++ s) = combS [] v (scanM s)
  | [] => by rw [combS_nil (scanM_ne s)]; rfl
  | b :: v => by rw [escS_cons, List.append_assoc, scan_escB, scan_escS s v, combS_head]
theorem scan_close (s : List UInt8) : scanM (41 :: s) = some ([[]], s) := by rw [scanM_eq, if_pos (by decide)]
theorem scan_star (s : List UInt8) : scanM (42 :: s) = (scanM s).map (fun x => ([] :: x.1, x.2)) := by rw [scanM_eq, if_neg (by decide), if_pos (by decide)]

def pcsOkF : Bool -> Pcs -> Bool
  | _, [] => true
  | fst, (k, t) :: ps => decide (t ≠ []) && decide (k = 1 \/ (k = 0 /\ fst = true) \/ (k = 2 /\ ps = [])) && pcsOkF false ps
def pcsOk (ps : Pcs) : Bool := decide (ps ≠ []) && pcsOkF true ps
def pcTA : Pcs -> List UInt8
  | [] => [42]
  | (k, t) :: r => if k = 2 then 42 :: escS t else 42 :: (escS t ++ pcTA r)
def pcT : Pcs -> List UInt8
  | [] => pcTA []
  | (k, t) :: r => if k = 0 then escS t ++ pcTA r else pcTA ((k, t) :: r)
def partsA : Pcs -> List (List UInt8)
  | [] => [[]]
  | (k, t) :: r => if k = 2 then [t] else t :: partsA r
def parts0 : Pcs -> List (List UInt8)
  | [] => [] :: partsA []
  | (k, t) :: r => if k = 0 then t :: partsA r else [] :: partsA ((k, t) :: r)
theorem partsA_ne : ∀ ps, partsA ps ≠ []
  | [] => by simp [partsA]
  | (k, t) :: r => by unfold partsA; split <;> simp
theorem pcsOkF_cons {f : Bool} {k : Int} {t : List UInt8} {ps : Pcs} (h : pcsOkF f ((k, t) :: ps) = true) : t ≠ [] /\ (k = 1 \/ (k = 0 /\ f = true) \/ (k = 2 /\ ps = [])) /\ pcsOkF false ps = true := by
  simp only [pcsOkF, Bool.and_eq_true, decide_eq_true_eq] at h
  exact ⟨h.1.1, h.1.2, h.2⟩
theorem pcsOkF_mk {f : Bool} {k : Int} {t : List UInt8} {ps : Pcs} (h1 : t ≠ []) (h2 : k = 1 \/ (k = 0 /\ f = true) \/ (k = 2 /\ ps = [])) (h3 : pcsOkF false ps = true) : pcsOkF f ((k, t) :: ps) = true := by
  simp only [pcsOkF, Bool.and_eq_true, decide_eq_true_eq]
  exact ⟨⟨h1, h2⟩, h3⟩
theorem scan_pcTA (s : List UInt8) : ∀ ps, pcsOkF false ps = true -> scanM (pcTA ps ++ 41 :: s) = some ([] :: partsA ps, s)
  | [], _ => by
    simp only [pcTA, partsA, List.cons_append, List.nil_append]
    rw [scan_star, scan_close]; rfl
  | (k, t) :: r, h => by
    obtain ⟨h1, h2, h3⟩ := pcsOkF_cons h
    rcases h2 with rfl | ⟨_, h⟩ | ⟨rfl, rfl⟩
    . rw [pcTA, if_neg (by decide), partsA, if_neg (by decide)]
      simp only [List.cons_append, List.append_assoc]
      rw [scan_star, scan_escS, scan_pcTA s r h3]
      simp [combS]
    . cases h
    . rw [pcTA, if_pos rfl, partsA, if_pos rfl]
      simp only [List.cons_append]
      rw [scan_star, scan_escS, scan_close]
      simp [combS]
theorem scan_pcT (s : List UInt8) {ps : Pcs} (h : pcsOkF true ps = true) : scanM (pcT ps ++ 41 :: s) = some (parts0 ps, s) := by
  match ps, h with
  | [], _ => exact scan_pcTA s [] rfl
  | (k, t) :: r, h =>
    obtain ⟨h1, h2, h3⟩ := pcsOkF_cons h
    by_cases hk : k = 0
    . rw [pcT, if_pos hk, parts0, if_pos hk, List.append_assoc, scan_escS, scan_pcTA s r h3]
      simp [combS]
    . rw [pcT, if_neg hk, parts0, if_neg hk]
      exact scan_pcTA s _ (pcsOkF_mk h1 (by rcases h2 with h | ⟨h, _⟩ | h; exact .inl h; exact absurd h hk; exact .inr (.inr h)) h3)
theorem pcsF_partsA (n : Nat) : ∀ (ps : Pcs) (i : Nat), pcsOkF false ps = true -> 1 <= i -> i + (partsA ps).length = n -> pcsF n i (partsA ps) = some ps
  | [], i, _, hi, hn => by
    simp only [partsA, List.length_cons, List.length_nil] at hn
    simp only [partsA, pcsF]
    rw [if_pos trivial, if_pos (.inr (by omega))]
  | (k, t) :: r, i, h, hi, hn => by
    obtain ⟨h1, h2, h3⟩ := pcsOkF_cons h
    rcases h2 with rfl | ⟨_, h⟩ | ⟨rfl, rfl⟩
    . rw [partsA, if_neg (by decide)] at hn ⊢
      have hne := List.length_pos_iff.2 (partsA_ne r)
      simp only [List.length_cons] at hn
      rw [pcsF, if_neg h1, pcsF_partsA n r (i + 1) h3 (by omega) (by omega), if_neg (by omega), if_neg (by omega)]; rfl
    . cases h
    . rw [partsA, if_pos rfl] at hn ⊢
      simp only [List.length_cons, List.length_nil] at hn
      rw [pcsF, if_neg h1, if_neg (by omega), if_pos (by omega)]; rfl
theorem pcsF_parts0 {ps : Pcs} (h : pcsOkF true ps = true) : pcsF (parts0 ps).length 0 (parts0 ps) = some ps := by
  match ps, h with
  | [], _ => decide
  | (k, t) :: r, h =>
    obtain ⟨h1, h2, h3⟩ := pcsOkF_cons h
    by_cases hk : k = 0
    . rw [parts0, if_pos hk, pcsF, if_neg h1, pcsF_partsA (t :: partsA r).length r 1 h3 (by omega) (by simp only [List.length_cons]; omega)]
      subst hk; rfl
    . rw [parts0, if_neg hk, pcsF, if_pos rfl, if_pos (.inl rfl)]
      exact pcsF_partsA ([] :: partsA ((k, t) :: r)).length _ 1 (pcsOkF_mk h1 (by rcases h2 with h | ⟨h, _⟩ | h; exact .inl h; exact absurd h hk; exact .inr (.inr h)) h3) (by omega) (by simp only [List.length_cons]; omega)
theorem parts0_two (ps : Pcs) : 2 <= (parts0 ps).length := by
  match ps with
  | [] => simp [parts0, partsA]
  | (k, t) :: r =>
    by_cases hk : k = 0
    . rw [parts0, if_pos hk]
      have := List.length_pos_iff.2 (partsA_ne r); simp only [List.length_cons]; omega
    . rw [parts0, if_neg hk]
      have := List.length_pos_iff.2 (partsA_ne ((k, t) :: r)); simp only [List.length_cons]; omega
theorem parts0_some {ps : Pcs} (hne : ps ≠ []) (h : pcsOkF true ps = true) : parts0 ps ≠ [[], []] := by
  match ps, hne, h with
  | (k, t) :: r, _, h =>
    obtain ⟨h1, h2, h3⟩ := pcsOkF_cons h
    intro e
    by_cases hk : k = 0
    . rw [parts0, if_pos hk] at e
      injection e with e _; exact h1 e
    . rw [parts0, if_neg hk, partsA] at e
      split at e <;> (injection e with _ e; injection e with e _; exact h1 e)

def sgT (k : Int) : List UInt8 := if k = 5 then [62, 61] else if k = 6 then [60, 61] else if k = 8 then [126, 61] else [61]
def txB (k : Int) (a v : List UInt8) (ps : Pcs) : List UInt8 := if k = 7 then a ++ [61, 42] else if k = 4 then a ++ 61 :: pcT ps else a ++ (sgT k ++ escS v)
def opT (k : Int) : List UInt8 := if k = 0 then [38] else if k = 1 then [124] else [33]
mutual
def txF : Fl -> List UInt8
  | .mk k a v ps ks => 40 :: ((if k <= 2 then opT k ++ txFs ks else txB k a v ps) ++ [41])
def txFs : List Fl -> List UInt8
  | [] => []
  | k :: ks => txF k ++ txFs ks
end
mutual
def bareF : Fl -> Fl
  | .mk k a v ps ks => if k < 0 \/ 8 < k then .mk k [] [] [] [] else if k <= 2 then .mk k [] [] [] (bareFs ks) else .mk k a (if k = 4 \/ k = 7 then [] else v) (if k = 4 then ps else []) []
def bareFs : List Fl -> List Fl
  | [] => []
  | k :: ks => bareF k :: bareFs ks
end
mutual
def okF : Fl -> Prop
  | .mk k a _ ps ks => 0 <= k /\ k <= 8 /\ (k <= 2 -> (k = 2 -> ks.length = 1) /\ okFs ks) /\ (2 < k -> typeM a = true /\ (k = 4 -> pcsOk ps = true))
def okFs : List Fl -> Prop
  | [] => True
  | k :: ks => okF k /\ okFs ks
end
def chkKs (f : Nat -> Fl -> Except Int Nat) : Nat -> List Fl -> Except Int Nat
  | n, [] => .ok n
  | n, k :: ks => match f n k with
    | .error e => .error e
    | .ok n' => chkKs f n' ks
def chkM : Nat -> Nat -> Fl -> Except Int Nat
  | 0, _, _ => .error 6
  | d + 1, n, .mk k a _ ps ks => if 1000 < n + 1 then .error 9 else if k < 0 \/ 8 < k then .error 24 else if k = 2 /\ ks.length ≠ 1 then .error 2
    else if k <= 2 then chkKs (chkM d) (n + 1) ks else if typeM a = false then .error 20 else if k = 4 /\ pcsOk ps = false then .error 4 else .ok (n + 1)
theorem chkKs_ok {f : Nat -> Fl -> Except Int Nat} (hf : ∀ n k n', f n k = .ok n' -> okF k) : ∀ (ks : List Fl) (n n' : Nat), chkKs f n ks = .ok n' -> okFs ks
  | [], _, _, _ => trivial
  | k :: ks, n, n', h => by
    rw [chkKs] at h
    split at h
    . cases h
    . rename_i n1 h1
      exact ⟨hf _ _ _ h1, chkKs_ok hf ks _ _ h⟩
theorem chkM_ok : ∀ (d n : Nat) (f : Fl) (n' : Nat), chkM d n f = .ok n' -> okF f
  | 0, n, f, n', h => by simp [chkM] at h
  | d + 1, n, .mk k a v ps ks, n', h => by
    rw [chkM] at h
    split at h
    . cases h
    . split at h
      . cases h
      . split at h
        . cases h
        . rename_i h1 h2 h3
          split at h
          . rename_i h4
            exact ⟨by omega, by omega, fun _ => ⟨fun h9 => by by_cases h8 : ks.length = 1; exact h8; exact absurd ⟨h9, h8⟩ h3, chkKs_ok (chkM_ok d) _ _ _ h⟩, fun h9 => absurd h4 (by omega)⟩
          . rename_i h4
            split at h
            . cases h
            . split at h
              . cases h
              . rename_i h5 h6
                refine ⟨by omega, by omega, fun h9 => absurd h9 h4, fun _ => ⟨by simpa using h5, fun h9 => ?_⟩⟩
                cases h8 : pcsOk ps with
                | true => rfl
                | false => exact absurd ⟨h9, h8⟩ h6
theorem typeM_len {a : List UInt8} (h : typeM a = true) : 1 <= a.length /\ a.length <= 32 := by
  unfold typeM at h
  simp only [Bool.and_eq_true, decide_eq_true_eq] at h
  exact h.1.1
theorem typL_type {a : List UInt8} (h : typeM a = true) {c : UInt8} (hc : isSg c = true) (s : List UInt8) : typL (a ++ c :: s) = a.length := by
  have hl := typeM_len h
  unfold typeM at h
  simp only [Bool.and_eq_true, decide_eq_true_eq, List.all_eq_true] at h
  have hrun : ∀ a : List UInt8, (∀ x ∈ a, isTc x.toNat = true) -> tcRun (a ++ c :: s) = a.length := by
    intro a
    induction a with
    | nil =>
      intro _
      have hct : isTc c.toNat = false := by
        cases h9 : isTc c.toNat with
        | false => rfl
        | true => have := (tc_low h9).2; simp at this; rw [this] at hc; cases hc
      simp only [List.nil_append, tcRun, hct]; rfl
    | cons x a ih =>
      intro hx
      simp only [List.cons_append, tcRun, List.length_cons]
      rw [if_pos (hx x (by simp)), ih (fun y hy => hx y (by simp [hy]))]
  unfold typL
  have e0 : byteAt (a ++ c :: s) 0 = byteAt a 0 := by unfold byteAt; rw [List.getElem?_append_left (by omega)]
  rw [e0, if_pos h.1.2, hrun a h.2]
  omega
theorem sgT_read {k : Int} (h : k = 3 \/ k = 5 \/ k = 6 \/ k = 8) (s : List UInt8) : signM (sgT k ++ s) = some (k, s) := by
  rcases h with rfl | rfl | rfl | rfl <;> rfl
theorem typ_sgn {a : List UInt8} (ha : typeM a = true) {T : List UInt8} {k : Int} {r : List UInt8} (h : signM T = some (k, r)) : typL (a ++ T) = a.length /\ (a ++ T).drop a.length = T /\ (a ++ T).take a.length = a := by
  obtain ⟨c, l, rfl, hc⟩ := signM_sg h
  exact ⟨typL_type ha hc l, List.drop_left, List.take_left⟩
theorem item_read {a : List UInt8} (ha : typeM a = true) {T r r' : List UInt8} {k : Int} {ps : List (List UInt8)} (h : signM T = some (k, r)) (hs : scanM r = some (ps, r')) : itemM (a ++ T) = (finM k a ps).map (·, r') := by
  obtain ⟨h1, h2, h3⟩ := typ_sgn ha h
  have hl := typeM_len ha
  unfold itemM
  rw [h1, if_neg (by omega), h2, h3, h]
  simp only
  rw [hs]
theorem item_txB {k : Int} {a v : List UInt8} {ps : Pcs} (h1 : 2 < k) (h2 : k <= 8) (ha : typeM a = true) (hp : k = 4 -> pcsOk ps = true) (s : List UInt8) :
    itemM (txB k a v ps ++ 41 :: s) = some (.mk k a (if k = 4 \/ k = 7 then [] else v) (if k = 4 then ps else []) [], s) := by
  unfold txB
  by_cases h7 : k = 7
  . rw [if_pos h7, List.append_assoc]
    subst h7
    rw [item_read ha (k := 3) (r := 42 :: 41 :: s) (ps := [[], []]) (r' := s) rfl (by rw [scan_star, scan_close]; rfl)]
    rfl
  . rw [if_neg h7]
    by_cases h4 : k = 4
    . rw [if_pos h4, List.append_assoc]
      subst h4
      have hp := hp rfl
      unfold pcsOk at hp
      simp only [Bool.and_eq_true, decide_eq_true_eq] at hp
      rw [item_read ha (k := 3) (r := pcT ps ++ 41 :: s) (ps := parts0 ps) (r' := s) rfl (scan_pcT s hp.2)]
      have h2 := parts0_two ps
      unfold finM
      rw [if_neg (by omega), if_neg (by decide), if_neg (parts0_some hp.1 hp.2), pcsF_parts0 hp.2]
      rfl
    . rw [if_neg h4, List.append_assoc, List.append_assoc]
      rw [item_read ha (ps := [v]) (r' := s) (sgT_read (by omega) _) (by rw [scan_escS, scan_close]; simp [combS])]
      rw [if_neg (show ¬ (k = 4 \/ k = 7) by omega), if_neg h4]
      simp [finM]
theorem opT_op {k : Int} (h0 : 0 <= k) (h2 : k <= 2) : opT k = opS k.toNat := by
  rcases (show k = 0 \/ k = 1 \/ k = 2 by omega) with rfl | rfl | rfl <;> rfl
theorem txF_head (f : Fl) : ∃ l, txF f = 40 :: l := by cases f; simp [txF]
theorem preM_ne {c b : UInt8} {l : List UInt8} (h : b ≠ c) : preM [c] (b :: l) = false := by
  cases h9 : preM [c] (b :: l) with
  | false => rfl
  | true => obtain ⟨r, h8⟩ := preM_one h9; injection h8 with h8 _; exact absurd h8 h
theorem preM_txF (f : Fl) (s : List UInt8) : preM [40] (txF f ++ s) = true := by
  obtain ⟨l, h⟩ := txF_head f; rw [h]; exact preM_cons1
def thenF (f : Fl) (s : List UInt8) : Except Int Nat -> FlRes
  | .error e => .error e
  | .ok n => .ok (f, s, n)
def thenFs (ks : List Fl) (s : List UInt8) : Except Int Nat -> Except Int (List Fl × List UInt8 × Nat)
  | .error e => .error e
  | .ok n => .ok (ks, s, n)
theorem kids_read {d : Nat} (ih : ∀ (n : Nat) (f : Fl) (s : List UInt8), okF f -> flM d n (txF f ++ s) = thenF (bareF f) s (chkM d n f)) (s : List UInt8) : ∀ (ks : List Fl) (m n : Nat), okFs ks -> (txFs ks ++ 41 :: s).length <= m -> kidsF (flM d) m n (txFs ks ++ 41 :: s) = thenFs (bareFs ks) (41 :: s) (chkKs (chkM d) n ks)
  | [], m, n, _, hm => by
    simp only [txFs, bareFs, chkKs, thenFs, List.nil_append]
    cases m with
    | zero => rfl
    | succ m => rw [kidsF, preM_ne (by decide)]; rfl
  | k :: ks, m, n, hk, hm => by
    obtain ⟨hk1, hk2⟩ := hk
    simp only [txFs, List.append_assoc] at hm ⊢
    obtain ⟨l, hl⟩ := txF_head k
    obtain ⟨m, rfl⟩ : ∃ m', m = m' + 1 := ⟨m - 1, by rw [hl] at hm; simp at hm; omega⟩
    rw [kidsF, preM_txF, if_pos rfl, ih n k _ hk1, chkKs]
    cases chkM d n k with
    | error e => rfl
    | ok n' =>
      simp only [thenF]
      rw [kids_read ih s ks m n' hk2 (by rw [hl] at hm; simp only [List.length_append, List.length_cons] at hm ⊢; omega)]
      cases chkKs (chkM d) n' ks with
      | error e => rfl
      | ok n2 => rfl
theorem isTc_op {b : UInt8} (h : isLet b.toNat = true) : b ≠ 38 /\ b ≠ 124 /\ b ≠ 33 := by
  unfold isLet at h
  simp only [decide_eq_true_eq] at h
  refine ⟨?_, ?_, ?_⟩ <;> (rintro rfl; revert h; decide)
theorem txB_head {k : Int} {a v : List UInt8} {ps : Pcs} (ha : typeM a = true) : ∃ b l, txB k a v ps = b :: l /\ isLet b.toNat = true := by
  have hl := typeM_len ha
  match a, ha, hl with
  | b :: a, ha, _ =>
    unfold typeM at ha
    simp only [Bool.and_eq_true] at ha
    have hb : isLet b.toNat = true := ha.1.2
    unfold txB
    split
    . exact ⟨b, _, rfl, hb⟩
    . split <;> exact ⟨b, _, rfl, hb⟩
theorem text_read : ∀ (d n : Nat) (f : Fl) (s : List UInt8), okF f -> flM d n (txF f ++ s) = thenF (bareF f) s (chkM d n f)
  | 0, n, f, s, _ => by rw [flM, preM_txF]; rfl
  | d + 1, n, .mk k a v ps ks, s, h => by
    obtain ⟨h0, h8, hop, hit⟩ := h
    have ih := text_read d
    have hb : ¬ (k < 0 \/ 8 < k) := by omega
    rw [chkM, if_neg hb, bareF, if_neg hb]
    by_cases hn : 1000 < n + 1
    . rw [flM, preM_txF, if_neg (by simp), if_pos hn, if_pos hn]; rfl
    rw [if_neg hn]
    by_cases hk : k <= 2
    . obtain ⟨hn1, hks⟩ := hop hk
      rw [if_pos hk, if_pos hk, if_neg (fun e => e.2 (hn1 e.1))]
      have htx : txF (.mk k a v ps ks) ++ s = 40 :: (opS k.toNat ++ (txFs ks ++ 41 :: s)) := by
        simp [txF, if_pos hk, opT_op h0 hk]
      rw [htx]
      have hlen := opS_len k.toNat
      have hd2 : (40 :: (opS k.toNat ++ (txFs ks ++ 41 :: s))).drop 2 = txFs ks ++ 41 :: s := by
        rw [show 2 = 1 + 1 from rfl, List.drop_succ_cons, ← hlen, List.drop_left]
      have hpre : ∀ j, j < 3 -> j ≠ k.toNat -> preM (opS j) (opS k.toNat ++ (txFs ks ++ 41 :: s)) = false := by
        intro j hj hne
        rcases (show k = 0 \/ k = 1 \/ k = 2 by omega) with rfl | rfl | rfl <;> rcases three hj with rfl | rfl | rfl <;> first | (exact absurd rfl hne) | exact preM_ne (by decide)
      have hyes : preM (opS k.toNat) (opS k.toNat ++ (txFs ks ++ 41 :: s)) = true := by
        rcases (show k = 0 \/ k = 1 \/ k = 2 by omega) with rfl | rfl | rfl <;> exact preM_cons1
      rw [flM_op (i := k.toNat) preM_cons1 (by omega) (by omega) (fun j hj => by rw [List.drop_succ_cons, List.drop_zero]; exact hpre j (by omega) (by omega)) (by rw [List.drop_succ_cons, List.drop_zero]; exact hyes)]
      unfold opM
      rw [hd2]
      by_cases h2 : k = 2
      . subst h2
        rw [if_pos (by rfl)]
        match ks, hn1 rfl, hks with
        | [k1], _, hks =>
          simp only [txFs, List.append_nil, chkKs, bareFs]
          rw [ih (n + 1) k1 _ hks.1]
          cases chkM d (n + 1) k1 with
          | error e => rfl
          | ok n' => simp only [thenF, oneM, closeM]; rw [if_pos preM_cons1]; rfl
      . rw [if_neg (by omega)]
        rw [kids_read ih s ks _ (n + 1) hks (by simp only [List.length_cons, List.length_append]; omega)]
        cases chkKs (chkM d) (n + 1) ks with
        | error e => rfl
        | ok n' =>
          simp only [thenFs, closeM]
          rw [if_pos preM_cons1]
          simp only [thenF, List.drop_succ_cons, List.drop_zero]
          rw [show ((k.toNat : Nat) : Int) = k by omega]
    . obtain ⟨ha, hp⟩ := hit (by omega)
      rw [if_neg hk, if_neg hk, if_neg (show ¬ (k = 2 /\ ks.length ≠ 1) by omega), if_neg (show ¬ typeM a = false by rw [ha]; simp), if_neg (show ¬ (k = 4 /\ pcsOk ps = false) from fun e => by have := hp e.1; rw [this] at e; cases e.2)]
      have htx : txF (.mk k a v ps ks) ++ s = 40 :: (txB k a v ps ++ 41 :: s) := by simp [txF, if_neg hk]
      obtain ⟨b, l, hbl, hbt⟩ := txB_head (k := k) (v := v) (ps := ps) ha
      obtain ⟨n1, n2, n3⟩ := isTc_op hbt
      rw [htx, flM_item (by exact preM_cons1) (by omega) (fun j hj => by
        rw [List.drop_succ_cons, List.drop_zero, hbl, List.cons_append]
        rcases three hj with rfl | rfl | rfl <;> exact preM_ne Zp)]
      rw [List.drop_succ_cons, List.drop_zero, item_txB (by omega) h8 ha hp s]
      rfl
theorem parse_text {f : Fl} {n : Nat} (h : chkM 64 0 f = .ok n) (hl : (txF f).length <= 4096) : flParse (txF f) = .ok (bareF f) := by
  have := text_read 64 0 f [] (chkM_ok _ _ _ _ h)
  rw [List.append_nil, h] at this
  unfold flParse
  rw [if_neg (by omega), this]
  exact if_pos rfl
end Go.Proofs.YtcghcdnmpjhifaaDoor
