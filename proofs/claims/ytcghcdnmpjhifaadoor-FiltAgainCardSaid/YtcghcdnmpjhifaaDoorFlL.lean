/- Filters: what was read may be; it is read the same within another text. -/
import Derived.Test.YtcghcdnmpjhifaaDoorFlO
namespace Go.Proofs.YtcghcdnmpjhifaaDoor
set_option linter.all false
set_option maxRecDepth 4000
open Go.RowKit

theorem pushB_app {z : UInt8} {x : List UInt8} (y : List (List UInt8) × List UInt8) : ((pushB z y).1, (pushB z y).2 ++ x) = pushB z (y.1, y.2 ++ x) := by
  obtain ⟨ps, r⟩ := y
  cases ps <;> rfl
theorem scan_app' (x : List UInt8) : ∀ (n : Nat) (s : List UInt8) (y : List (List UInt8) × List UInt8), s.length <= n -> scanM s = some y -> scanM (s ++ x) = some (y.1, y.2 ++ x)
  | _, [], y, _, h => by cases h
  | 0, b :: l, y, hn, h => absurd hn (by simp)
  | n + 1, b :: l, y, hn, h => by
    have hl : l.length <= n := by simpa using hn
    rw [scanM_eq] at h
    rw [List.cons_append, scanM_eq]
    by_cases h41 : b.toNat = 41
    . rw [if_pos h41] at h ⊢; injection h with h; subst h; rfl
    . rw [if_neg h41] at h ⊢
      by_cases h42 : b.toNat = 42
      . rw [if_pos h42] at h ⊢
        obtain ⟨z, hz, rfl⟩ := Option.map_eq_some_iff.1 h
        rw [scan_app' x n l z hl hz]; rfl
      . rw [if_neg h42] at h ⊢
        by_cases h92 : b.toNat = 92
        . rw [if_pos h92] at h ⊢
          match l, hl, h with
          | c :: e :: r, hl, h =>
            simp only [List.cons_append] at h ⊢
            cases hx : hexM c e with
            | none => rw [hx] at h; cases h
            | some w =>
              rw [hx] at h
              simp only at h ⊢
              obtain ⟨z, hz, rfl⟩ := Option.map_eq_some_iff.1 h
              rw [scan_app' x n r z (by simp at hl; omega) hz]
              simp only [Option.map_some, pushB_app]
        . rw [if_neg h92] at h ⊢
          by_cases h0 : b.toNat = 0 \/ b.toNat = 40
          . rw [if_pos h0] at h; cases h
          . rw [if_neg h0] at h ⊢
            obtain ⟨z, hz, rfl⟩ := Option.map_eq_some_iff.1 h
            rw [scan_app' x n l z hl hz]
            simp only [Option.map_some, pushB_app]
theorem scan_app {s : List UInt8} {ps : List (List UInt8)} {r : List UInt8} (h : scanM s = some (ps, r)) (x : List UInt8) : scanM (s ++ x) = some (ps, r ++ x) := scan_app' x s.length s (ps, r) (Nat.le_refl _) h
def psW (ps : List (List UInt8)) : Nat := (ps.map fun p => p.length + 1).sum
theorem psW_cons (p : List UInt8) (ps : List (List UInt8)) : psW (p :: ps) = p.length + 1 + psW ps := by simp [psW]
theorem pushB_w {z : UInt8} {y : List (List UInt8) × List UInt8} (hne : y.1 ≠ []) : psW (pushB z y).1 = psW y.1 + 1 /\ (pushB z y).2 = y.2 := by
  obtain ⟨ps, r⟩ := y
  cases ps with
  | nil => exact absurd rfl hne
  | cons p ps => refine ⟨?_, rfl⟩; simp only [pushB, psW_cons, List.length_cons]; omega
theorem scan_w' : ∀ (n : Nat) (s : List UInt8) (y : List (List UInt8) × List UInt8), s.length <= n -> scanM s = some y -> psW y.1 + y.2.length <= s.length
  | _, [], y, _, h => by cases h
  | 0, b :: l, y, hn, h => absurd hn (by simp)
  | n + 1, b :: l, y, hn, h => by
    have hl : l.length <= n := by simpa using hn
    rw [scanM_eq] at h
    by_cases h41 : b.toNat = 41
    . rw [if_pos h41] at h; injection h with h; subst h; simp [psW]; omega
    . rw [if_neg h41] at h
      by_cases h42 : b.toNat = 42
      . rw [if_pos h42] at h
        obtain ⟨z, hz, rfl⟩ := Option.map_eq_some_iff.1 h
        have := scan_w' n l z hl hz
        simp only [psW_cons, List.length_nil, List.length_cons]; omega
      . rw [if_neg h42] at h
        by_cases h92 : b.toNat = 92
        . rw [if_pos h92] at h
          match l, hl, h with
          | c :: e :: r, hl, h =>
            simp only at h
            cases hx : hexM c e with
            | none => rw [hx] at h; cases h
            | some w =>
              rw [hx] at h
              simp only at h
              obtain ⟨z, hz, rfl⟩ := Option.map_eq_some_iff.1 h
              have h1 := scan_w' n r z (by simp at hl; omega) hz
              obtain ⟨h2, h3⟩ := pushB_w (z := w) (y := z) (fun e => scanM_ne r z.2 (by rw [hz, ← e]))
              rw [h2, h3]
              simp only [List.length_cons]; omega
        . rw [if_neg h92] at h
          by_cases h0 : b.toNat = 0 \/ b.toNat = 40
          . rw [if_pos h0] at h; cases h
          . rw [if_neg h0] at h
            obtain ⟨z, hz, rfl⟩ := Option.map_eq_some_iff.1 h
            have h1 := scan_w' n l z hl hz
            obtain ⟨h2, h3⟩ := pushB_w (z := b) (y := z) (fun e => scanM_ne l z.2 (by rw [hz, ← e]))
            rw [h2, h3]
            simp only [List.length_cons]; omega
theorem scan_w {s : List UInt8} {ps : List (List UInt8)} {r : List UInt8} (h : scanM s = some (ps, r)) : psW ps + r.length <= s.length := scan_w' s.length s (ps, r) (Nat.le_refl _) h
theorem sign_app {s : List UInt8} {k : Int} {r : List UInt8} (h : signM s = some (k, r)) (x : List UInt8) : signM (s ++ x) = some (k, r ++ x) /\ (k = 3 \/ k = 5 \/ k = 6 \/ k = 8) := by
  cases s with
  | nil => cases h
  | cons b l =>
    rw [signM_eq] at h
    rw [List.cons_append, signM_eq]
    by_cases h61 : b.toNat = 61
    . rw [if_pos h61] at h ⊢; injection h with h; injection h with h1 h2; subst h1 h2; exact ⟨rfl, .inl rfl⟩
    . rw [if_neg h61] at h ⊢
      cases l with
      | nil => cases h
      | cons c r2 =>
        simp only [List.cons_append] at h ⊢
        split at h
        . rename_i hc
          rw [if_pos hc]
          split at h
          . rename_i h1; rw [if_pos h1]; injection h with h; injection h with h1 h2; subst h1 h2; exact ⟨rfl, .inr (.inl rfl)⟩
          . rename_i h1; rw [if_neg h1]
            split at h
            . rename_i h2; rw [if_pos h2]; injection h with h; injection h with h1 h2; subst h1 h2; exact ⟨rfl, .inr (.inr (.inl rfl))⟩
            . rename_i h2; rw [if_neg h2]
              split at h
              . rename_i h3; rw [if_pos h3]; injection h with h; injection h with h1 h2; subst h1 h2; exact ⟨rfl, .inr (.inr (.inr rfl))⟩
              . cases h
        . cases h
theorem pcsOkF_weak : ∀ {ps : Pcs}, pcsOkF false ps = true -> pcsOkF true ps = true
  | [], _ => rfl
  | (k, t) :: ps, h => by
    obtain ⟨h1, h2, h3⟩ := pcsOkF_cons h
    exact pcsOkF_mk h1 (by rcases h2 with h | ⟨_, h⟩ | h; exact .inl h; cases h; exact .inr (.inr h)) h3
theorem pcsF_good (n : Nat) (hn : 2 <= n) : ∀ (parts : List (List UInt8)) (i : Nat) (pc : Pcs), i + parts.length = n -> pcsF n i parts = some pc -> pcsOkF (decide (i = 0)) pc = true /\ pcW pc <= psW parts
  | [], i, pc, _, h => by simp only [pcsF, Option.some.injEq] at h; subst h; exact ⟨rfl, by simp [pcW]⟩
  | p :: ps, i, pc, hi, h => by
    simp only [List.length_cons] at hi
    rw [pcsF] at h
    by_cases hp : p = []
    . rw [if_pos hp] at h
      split at h
      . obtain ⟨h1, h2⟩ := pcsF_good n hn ps (i + 1) pc (by omega) h
        rw [decide_eq_false (by omega)] at h1
        refine ⟨?_, by rw [psW_cons]; omega⟩
        by_cases h0 : i = 0
        . rw [decide_eq_true h0]; exact pcsOkF_weak h1
        . rw [decide_eq_false h0]; exact h1
      . cases h
    . rw [if_neg hp] at h
      obtain ⟨z, hz, rfl⟩ := Option.map_eq_some_iff.1 h
      obtain ⟨h1, h2⟩ := pcsF_good n hn ps (i + 1) z (by omega) hz
      rw [decide_eq_false (by omega)] at h1
      refine ⟨pcsOkF_mk hp ?_ h1, by rw [psW_cons, pcW]; omega⟩
      by_cases h0 : i = 0
      . rw [if_pos h0]; exact .inr (.inl ⟨rfl, decide_eq_true h0⟩)
      . rw [if_neg h0]
        by_cases h3 : i + 1 = n
        . rw [if_pos h3]
          refine .inr (.inr ⟨rfl, ?_⟩)
          have : ps = [] := List.eq_nil_of_length_eq_zero (by omega)
          subst this
          simp only [pcsF, Option.some.injEq] at hz
          exact hz.symm
        . rw [if_neg h3]; exact .inl rfl
theorem pcsF_ne {parts : List (List UInt8)} {pc : Pcs} (h2 : 2 <= parts.length) (hne : parts ≠ [[], []]) (h : pcsF parts.length 0 parts = some pc) : pc ≠ [] := by
  match parts, h2, hne, h with
  | [p, q], _, hne, h =>
    rintro rfl
    rw [pcsF] at h
    by_cases hp : p = []
    . rw [if_pos hp, if_pos (.inl rfl), pcsF] at h
      by_cases hq : q = []
      . exact hne (by rw [hp, hq])
      . rw [if_neg hq] at h
        obtain ⟨z, _, hz⟩ := Option.map_eq_some_iff.1 h
        cases hz
    . rw [if_neg hp] at h
      obtain ⟨z, _, hz⟩ := Option.map_eq_some_iff.1 h
      cases hz
  | p :: q :: e :: r, _, hne, h =>
    rintro rfl
    rw [pcsF] at h
    by_cases hp : p = []
    . rw [if_pos hp, if_pos (.inl rfl), pcsF] at h
      by_cases hq : q = []
      . rw [if_pos hq, if_neg (by simp)] at h; cases h
      . rw [if_neg hq] at h
        obtain ⟨z, _, hz⟩ := Option.map_eq_some_iff.1 h
        cases hz
    . rw [if_neg hp] at h
      obtain ⟨z, _, hz⟩ := Option.map_eq_some_iff.1 h
      cases hz
def Leaf (f : Fl) : Prop := okF f /\ bareF f = f /\ ∀ d n, 1000 ≥ n + 1 -> chkM (d + 1) n f = .ok (n + 1)
theorem leaf_mk {k : Int} {a v : List UInt8} {ps : Pcs} (h1 : 2 < k) (h2 : k <= 8) (ha : typeM a = true) (hp : k = 4 -> pcsOk ps = true) (hv : k = 4 \/ k = 7 -> v = []) (hps : k ≠ 4 -> ps = []) : Leaf (.mk k a v ps []) := by
  have e1 : (if k = 4 \/ k = 7 then [] else v) = v := by
    by_cases h : k = 4 \/ k = 7
    . rw [if_pos h, hv h]
    . rw [if_neg h]
  have e2 : (if k = 4 then ps else []) = ps := by
    by_cases h : k = 4
    . rw [if_pos h]
    . rw [if_neg h, hps h]
  refine ⟨?_, ?_, fun d n hn => ?_⟩
  . simp only [okF]; exact ⟨by omega, h2, fun h => absurd h (by omega), fun _ => ⟨ha, hp⟩⟩
  . rw [bareF, if_neg (by omega), if_neg (by omega), e1, e2]
  . rw [chkM, if_neg (by omega), if_neg (by omega), if_neg (fun e => absurd e.1 (by omega)), if_neg (by omega), if_neg (by rw [ha]; simp), if_neg (fun e => by rw [hp e.1] at e; cases e.2)]
theorem fin_good {k : Int} {a : List UInt8} {parts : List (List UInt8)} {f : Fl} (hk : k = 3 \/ k = 5 \/ k = 6 \/ k = 8) (ha : typeM a = true) (hne : parts ≠ []) (h : finM k a parts = some f) : Leaf f /\ f.wt <= 1 + a.length + psW parts := by
  unfold finM at h
  split at h
  . rename_i h1
    injection h with h
    subst h
    refine ⟨leaf_mk (by omega) (by omega) ha (fun e => by omega) (fun e => by omega) (fun _ => rfl), ?_⟩
    match parts, h1 with
    | [p], _ => simp only [Fl.wt, pcW, flwt, List.headD_cons, psW_cons]; omega
  . split at h
    . cases h
    . rename_i h1 h3
      split at h
      . injection h with h
        subst h
        exact ⟨leaf_mk (by decide) (by decide) ha (fun e => absurd e (by decide)) (fun _ => rfl) (fun _ => rfl), by simp only [Fl.wt, pcW, flwt, List.length_nil]; omega⟩
      . rename_i h4
        obtain ⟨pc, hpc, rfl⟩ := Option.map_eq_some_iff.1 h
        have h2 : 2 <= parts.length := by have := List.length_pos_iff.2 hne; omega
        obtain ⟨g1, g2⟩ := pcsF_good parts.length h2 parts 0 pc (by omega) hpc
        have g3 := pcsF_ne h2 h4 hpc
        exact ⟨leaf_mk (by decide) (by decide) ha (fun _ => by unfold pcsOk; rw [decide_eq_true g3]; exact g1) (fun _ => rfl) (fun e => absurd rfl e), by simp only [Fl.wt, flwt, List.length_nil]; omega⟩
theorem item_good {s : List UInt8} {f : Fl} {r : List UInt8} (h : itemM s = some (f, r)) : Leaf f /\ f.wt + r.length <= s.length /\ s ≠ [] /\ ∀ x, itemM (s ++ x) = some (f, r ++ x) := by
  unfold itemM at h
  split at h
  . cases h
  . rename_i h0
    split at h
    . cases h
    . rename_i k q hk
      split at h
      . cases h
      . rename_i ps r' hr
        obtain ⟨f', hf, he⟩ := Option.map_eq_some_iff.1 h
        injection he with he1 he2
        subst he1 he2
        have hle := typL_le s
        have ht : typeM (s.take (typL s)) = true := by
          have := typeM_pre (s := s) (j := typL s - 1) (by omega)
          rw [show typL s - 1 + 1 = typL s by omega] at this
          exact this
        have hsg := (sign_app hk []).2
        obtain ⟨g1, g2⟩ := fin_good hsg ht (scanM_len hr).2 hf
        have hw := scan_w hr
        have hql := signM_len hk
        have htl : (s.take (typL s)).length = typL s := by rw [List.length_take]; omega
        rw [List.length_drop] at hql
        refine ⟨g1, by omega, fun e => by subst e; simp at hle; exact h0 (by omega), fun x => ?_⟩
        have hst : s ++ x = s.take (typL s) ++ (s.drop (typL s) ++ x) := by rw [<- List.append_assoc, List.take_append_drop]
        rw [hst, item_read ht (sign_app hk x).1 (scan_app hr x), hf]; rfl
theorem preM_app {c : UInt8} {y x : List UInt8} (h : y ≠ []) : preM [c] (y ++ x) = preM [c] y := by
  cases y with
  | nil => exact absurd rfl h
  | cons b l => simp [preM]
def Good (f : Fl) (s r x : List UInt8) : Prop := okF f /\ bareF f = f /\ f.wt + r.length <= s.length /\ (∀ d n, flM d n (s ++ x) = thenF f (r ++ x) (chkM d n f))
theorem kids_good {D : Nat} (ih : ∀ (N : Nat) (s : List UInt8) (f : Fl) (r : List UInt8) (N' : Nat), flM D N s = .ok (f, r, N') -> chkM D N f = .ok N' /\ ∀ x, Good f s r x) (x : List UInt8) :
    ∀ (m N : Nat) (s : List UInt8) (ks : List Fl) (r : List UInt8) (N' : Nat), kidsF (flM D) m N s = .ok (ks, 41 :: r, N') -> chkKs (chkM D) N ks = .ok N' /\ okFs ks /\ bareFs ks = ks /\ flwt ks + (41 :: r).length <= s.length ∧
      ∀ d n m', (s ++ x).length <= m' -> kidsF (flM d) m' n (s ++ x) = thenFs ks (41 :: r ++ x) (chkKs (chkM d) n ks)
  | 0, N, s, ks, r, N', h => by
    simp only [kidsF, Except.ok.injEq, Prod.mk.injEq] at h
    obtain ⟨rfl, rfl, rfl⟩ := h
    refine ⟨rfl, trivial, by simp [bareFs], by simp [flwt], fun d n m' hm => ?_⟩
    cases m' with
    | zero => rfl
    | succ m' => rw [kidsF, if_neg (by rw [List.cons_append, preM_ne (by decide)]; simp)]; rfl
  | m + 1, N, s, ks, r, N', h => by
    rw [kidsF] at h
    by_cases hp : preM [40] s = true
    . rw [if_pos hp] at h
      split at h
      . cases h
      . rename_i k r1 n1 h1
        split at h
        . cases h
        . rename_i ks2 r2 n2 h2
          simp only [Except.ok.injEq, Prod.mk.injEq] at h
          obtain ⟨rfl, rfl, rfl⟩ := h
          obtain ⟨g0, g⟩ := ih _ _ _ _ _ h1
          obtain ⟨g1, g2, g3, g4⟩ := g x
          obtain ⟨k0, k1, k2, k3, k4⟩ := kids_good ih x m _ _ _ _ _ h2
          refine ⟨by rw [chkKs, g0]; exact k0, ⟨g1, k1⟩, by simp only [bareFs, g2, k2], by simp only [flwt]; omega, fun d n m' hm => ?_⟩
          obtain ⟨l, rfl⟩ := preM_one hp
          obtain ⟨m', rfl⟩ : ∃ m2, m' = m2 + 1 := ⟨m' - 1, by simp at hm; omega⟩
          have hlen := flM_len _ _ _ _ _ _ h1
          rw [kidsF, if_pos (by rw [preM_app (by simp)]; exact hp), g4, chkKs]
          cases chkM d n k with
          | error e => rfl
          | ok n9 =>
            simp only [thenF]
            rw [k4 d n9 m' (by simp only [List.length_append, List.length_cons] at hm hlen ⊢; omega)]
            cases chkKs (chkM d) n9 ks2 <;> rfl
    . rw [if_neg hp] at h
      simp only [Except.ok.injEq, Prod.mk.injEq] at h
      obtain ⟨rfl, rfl, rfl⟩ := h
      refine ⟨rfl, trivial, by simp [bareFs], by simp [flwt], fun d n m' hm => ?_⟩
      cases m' with
      | zero => rfl
      | succ m' => rw [kidsF, if_neg (by rw [List.cons_append, preM_ne (by decide)]; simp)]; rfl
theorem closeM_inv {k : Int} {x : Except Int (List Fl × List UInt8 × Nat)} {f : Fl} {r : List UInt8} {n : Nat} (h : closeM k x = .ok (f, r, n)) : ∃ ks, x = .ok (ks, 41 :: r, n) /\ f = .mk k [] [] [] ks := by
  obtain ⟨ks, s, h1, rfl, h2⟩ := closeM_ok h
  exact ⟨ks, h1, h2⟩
theorem closeM_then {k : Int} {ks : List Fl} {r : List UInt8} (y : Except Int Nat) : closeM k (thenFs ks (41 :: r) y) = thenF (.mk k [] [] [] ks) r y := by
  cases y with
  | error e => rfl
  | ok n => simp only [thenFs, closeM]; rw [if_pos preM_cons1]; rfl
theorem drop_app {s x : List UInt8} {i : Nat} (h : i <= s.length) : (s ++ x).drop i = s.drop i ++ x := List.drop_append_of_le_length h
theorem thenFs_one {k : Fl} {r : List UInt8} (y : Except Int Nat) : oneM (thenF k r y) = thenFs [k] r y := by cases y <;> rfl
theorem chkKs_one {f : Nat -> Fl -> Except Int Nat} {n : Nat} {k : Fl} : chkKs f n [k] = f n k := by
  rw [chkKs]
  cases f n k <;> rfl
theorem flM_good : ∀ (D N : Nat) (s : List UInt8) (f : Fl) (r : List UInt8) (N' : Nat), flM D N s = .ok (f, r, N') -> chkM D N f = .ok N' /\ ∀ x, Good f s r x
  | 0, N, s, f, r, N', h => by simp [flM] at h
  | D + 1, N, s, f, r, N', h => by
    have ih := flM_good D
    have hp : preM [40] s = true := by
      cases hp : preM [40] s with
      | true => rfl
      | false => rw [flM, if_pos hp] at h; cases h
    have hn : N + 1 <= 1000 := by
      by_cases hn : 1000 < N + 1
      . rw [flM, if_neg (by rw [hp]; simp), if_pos hn] at h; cases h
      . omega
    have hcase : (∃ i, i < 3 /\ (∀ j, j < i -> preM (opS j) (s.drop 1) = false) /\ preM (opS i) (s.drop 1) = true) \/ (∀ j, j < 3 -> preM (opS j) (s.drop 1) = false) := by
      cases h0 : preM (opS 0) (s.drop 1) with
      | true => exact .inl ⟨0, by omega, fun j hj => absurd hj (by omega), h0⟩
      | false =>
        cases h1 : preM (opS 1) (s.drop 1) with
        | true => exact .inl ⟨1, by omega, fun j hj => (show j = 0 by omega) ▸ h0, h1⟩
        | false =>
          cases h2 : preM (opS 2) (s.drop 1) with
          | true => exact .inl ⟨2, by omega, fun j hj => by rcases (show j = 0 \/ j = 1 by omega) with rfl | rfl <;> assumption, h2⟩
          | false => exact .inr (fun j hj => by rcases three hj with rfl | rfl | rfl <;> assumption)
    rcases hcase with ⟨i, hi, hno, hy⟩ | hno
    . have hne : s.drop 1 ≠ [] := by intro e; rw [e] at hy; rcases three hi with rfl | rfl | rfl <;> cases hy
      have hl2 : 2 <= s.length := by have := List.length_pos_iff.2 hne; rw [List.length_drop] at this; omega
      rw [flM_op hp hn hi hno hy] at h
      unfold opM at h
      have hop : ∀ (x : List UInt8) (d n : Nat), n + 1 <= 1000 -> flM (d + 1) n (s ++ x) = opM d n (s ++ x) i := fun x d n hn => by
        have hne0 : s ≠ [] := fun e => by subst e; simp at hl2
        refine flM_op (by rw [preM_app hne0]; exact hp) hn hi (fun j hj => ?_) ?_
        . rw [drop_app (by omega)]
          have := hno j hj
          rcases three (show j < 3 by omega) with rfl | rfl | rfl <;> (rw [show ∀ a, opS a = opS a from fun _ => rfl]; unfold opS at this ⊢; simp only at this ⊢; rw [preM_app hne]; exact this)
        . rw [drop_app (by omega)]
          rcases three hi with rfl | rfl | rfl <;> (unfold opS at hy ⊢; simp only at hy ⊢; rw [preM_app hne]; exact hy)
      have hd0 : ∀ (x : List UInt8) (n : Nat), flM 0 n (s ++ x) = .error 6 := fun x n => by
        have hne0 : s ≠ [] := fun e => by subst e; simp at hl2
        rw [flM, preM_app hne0, hp]; rfl
      have hbig : ∀ (x : List UInt8) (d n : Nat), 1000 < n + 1 -> flM (d + 1) n (s ++ x) = .error 9 := fun x d n hn => by
        have hne0 : s ≠ [] := fun e => by subst e; simp at hl2
        rw [flM, preM_app hne0, hp, if_neg (by simp), if_pos hn]
      by_cases h2 : i = 2
      . subst h2
        rw [if_pos rfl] at h
        obtain ⟨ks, h1, rfl⟩ := closeM_inv h
        cases hf : flM D (N + 1) (s.drop 2) with
        | error e => rw [hf] at h1; cases h1
        | ok y =>
          obtain ⟨k, r1, n1⟩ := y
          rw [hf] at h1
          simp only [oneM, Except.ok.injEq, Prod.mk.injEq] at h1
          obtain ⟨rfl, rfl, rfl⟩ := h1
          obtain ⟨g0, g⟩ := ih _ _ _ _ _ hf
          refine ⟨?_, fun x => ?_⟩
          . rw [chkM, if_neg (by omega), if_neg (by decide), if_neg (fun e => e.2 rfl), if_pos (by decide), chkKs_one, g0]
          . obtain ⟨g1, g2, g3, g4⟩ := g x
            refine ⟨?_, ?_, ?_, fun d n => ?_⟩
            . simp only [okF]; exact ⟨by decide, by decide, fun _ => ⟨fun _ => rfl, g1, trivial⟩, fun h => absurd h (by decide)⟩
            . rw [bareF, if_neg (by decide), if_pos (by decide)]; simp only [bareFs, g2]
            . rw [List.length_drop] at g3
              simp only [List.length_cons] at g3
              simp only [Fl.wt, flwt, pcW, List.length_nil]; omega
            . cases d with
              | zero => rw [hd0]; rfl
              | succ d =>
                by_cases hn : 1000 < n + 1
                . rw [hbig x d n hn, chkM, if_pos hn]; rfl
                . rw [hop x d n (by omega), chkM, if_neg hn, if_neg (by decide), if_neg (fun e => e.2 rfl), if_pos (by decide), chkKs_one]
                  unfold opM
                  rw [if_pos rfl, drop_app hl2, g4, thenFs_one]
                  exact closeM_then _
      . rw [if_neg h2] at h
        obtain ⟨ks, h1, rfl⟩ := closeM_inv h
        refine ⟨?_, fun x => ?_⟩
        . obtain ⟨k0, k1, k2, k3, k4⟩ := kids_good ih [] _ _ _ _ _ _ h1
          rw [chkM, if_neg (by omega), if_neg (by omega), if_neg (fun e => absurd e.1 (by omega)), if_pos (by omega), k0]
        . obtain ⟨k0, k1, k2, k3, k4⟩ := kids_good ih x _ _ _ _ _ _ h1
          refine ⟨?_, ?_, ?_, fun d n => ?_⟩
          . simp only [okF]; exact ⟨by omega, by omega, fun _ => ⟨fun e => absurd e (by omega), k1⟩, fun h => absurd h (by omega)⟩
          . rw [bareF, if_neg (by omega), if_pos (by omega), k2]
          . rw [List.length_drop] at k3
            simp only [List.length_cons] at k3
            simp only [Fl.wt, pcW, List.length_nil]; omega
          . cases d with
            | zero => rw [hd0]; rfl
            | succ d =>
              by_cases hn : 1000 < n + 1
              . rw [hbig x d n hn, chkM, if_pos hn]; rfl
              . rw [hop x d n (by omega), chkM, if_neg hn, if_neg (by omega), if_neg (fun e => absurd e.1 (by omega)), if_pos (by omega)]
                unfold opM
                rw [if_neg h2, drop_app hl2, k4 d (n + 1) _ (by simp only [List.length_append, List.length_drop]; omega)]
                exact closeM_then _
    . rw [flM_item hp hn hno] at h
      split at h
      . cases h
      . rename_i f1 r1 h1
        simp only [Except.ok.injEq, Prod.mk.injEq] at h
        obtain ⟨rfl, rfl, rfl⟩ := h
        obtain ⟨⟨g1, g2, g3⟩, g4, g5, g6⟩ := item_good h1
        have hl2 : 1 <= s.length := by have := List.length_pos_iff.2 g5; rw [List.length_drop] at this; omega
        have hne0 : s ≠ [] := fun e => by subst e; simp at hl2
        refine ⟨g3 D N (by omega), fun x => ⟨g1, g2, by rw [List.length_drop] at g4; omega, fun d n => ?_⟩⟩
        cases d with
        | zero =>
          rw [flM, preM_app hne0, hp]
          cases f1; rfl
        | succ d =>
          by_cases hn : 1000 < n + 1
          . rw [flM, preM_app hne0, hp, if_neg (by simp), if_pos hn]
            cases f1
            rw [chkM, if_pos hn]; rfl
          . rw [g3 d n (by omega), flM_item (by rw [preM_app hne0]; exact hp) (by omega) (fun j hj => by
              rw [drop_app hl2]
              have := hno j hj
              rcases three hj with rfl | rfl | rfl <;> (unfold opS at this ⊢; simp only at this ⊢; rw [preM_app g5]; exact this)), drop_app hl2, g6]
            rfl
theorem chk69 : ∀ (d n : Nat) (f : Fl) (e : Int), okF f -> chkM d n f = .error e -> e = 6 \/ e = 9
  | 0, n, f, e, _, h => by simp only [chkM, Except.error.injEq] at h; omega
  | d + 1, n, .mk k a v ps ks, e, hok, h => by
    have ih : ∀ (ks : List Fl) (n : Nat) (e : Int), okFs ks -> chkKs (chkM d) n ks = .error e -> e = 6 \/ e = 9 := by
      intro ks
      induction ks with
      | nil => intro n e _ h; simp only [chkKs] at h; cases h
      | cons f ks ihk =>
        intro n e hk h
        simp only [okFs] at hk
        rw [chkKs] at h
        split at h
        . rename_i e1 h1; injection h with h; have := chk69 d _ _ _ hk.1 h1; omega
        . exact ihk _ _ hk.2 h
    simp only [okF] at hok
    rw [chkM] at h
    split at h
    . injection h with h; omega
    . split at h
      . exact absurd hok.1 (by omega)
      . split at h
        . rename_i h3; exact absurd ((hok.2.2.1 (by omega)).1 h3.1) h3.2
        . split at h
          . rename_i h4; exact ih _ _ _ (hok.2.2.1 h4).2 h
          . rename_i h4
            split at h
            . rename_i h5; rw [(hok.2.2.2 (by omega)).1] at h5; cases h5
            . split at h
              . rename_i h6; rw [(hok.2.2.2 (by omega)).2 h6.1] at h6; cases h6.2
              . cases h
theorem flParse_inv {s : List UInt8} {f : Fl} (h : flParse s = .ok f) : s.length <= 4096 /\ ∃ n, flM 64 0 s = .ok (f, [], n) := by
  unfold flParse at h
  split at h
  . cases h
  . rename_i hl
    split at h
    . cases h
    . rename_i f1 r n h1
      split at h
      . rename_i hr
        injection h with h
        subst h hr
        exact ⟨by omega, n, h1⟩
      . cases h
theorem parse_good {s : List UInt8} {f : Fl} (h : flParse s = .ok f) : okF f /\ bareF f = f /\ f.wt <= 4096 /\ (∃ n, chkM 64 0 f = .ok n) := by
  obtain ⟨hl, n, h1⟩ := flParse_inv h
  obtain ⟨g0, g⟩ := flM_good _ _ _ _ _ _ h1
  obtain ⟨g1, g2, g3, _⟩ := g []
  exact ⟨g1, g2, by simp only [List.length_nil] at g3; omega, n, g0⟩
theorem join_read {s t : List UInt8} {f g : Fl} (hs : flParse s = .ok f) (ht : flParse t = .ok g) :
    (∃ e, flParse ([40, 124] ++ s ++ [40, 33] ++ t ++ [41, 41]) = .error e /\ (e = 5 \/ e = 6 \/ e = 9)) \/ flParse ([40, 124] ++ s ++ [40, 33] ++ t ++ [41, 41]) = .ok (.mk 1 [] [] [] [f, .mk 2 [] [] [] [g]]) := by
  obtain ⟨_, n1, h1⟩ := flParse_inv hs
  obtain ⟨_, n2, h2⟩ := flParse_inv ht
  obtain ⟨_, gs⟩ := flM_good _ _ _ _ _ _ h1
  obtain ⟨_, gt⟩ := flM_good _ _ _ _ _ _ h2
  obtain ⟨s1, s2, s3, s4⟩ := gs ([40, 33] ++ t ++ [41, 41])
  obtain ⟨t1, t2, t3, t4⟩ := gt [41, 41]
  simp only [List.nil_append] at s4 t4
  have hsl := flM_len _ _ _ _ _ _ h1
  have htl := flM_len _ _ _ _ _ _ h2
  have hsp : preM [40] s = true := by
    cases hp : preM [40] s with
    | true => rfl
    | false => rw [flM, if_pos hp] at h1; cases h1
  have hsne : s ≠ [] := fun e => by subst e; cases hsp
  have hJ : [40, 124] ++ s ++ [40, 33] ++ t ++ [41, 41] = 40 :: 124 :: (s ++ ([40, 33] ++ t ++ [41, 41])) := by simp
  rw [hJ]
  unfold flParse
  by_cases hlong : (40 :: 124 :: (s ++ ([40, 33] ++ t ++ [41, 41]))).length > 4096
  . rw [if_pos hlong]; exact .inl ⟨5, rfl, .inl rfl⟩
  rw [if_neg hlong]
  have e1 : flM 64 0 (40 :: 124 :: (s ++ ([40, 33] ++ t ++ [41, 41]))) = closeM 1 (kidsF (flM 63) (40 :: 124 :: (s ++ ([40, 33] ++ t ++ [41, 41]))).length 1 (s ++ ([40, 33] ++ t ++ [41, 41]))) := by
    rw [flM, if_neg (by rw [preM_cons1]; simp), if_neg (by decide)]
    simp only [List.drop_succ_cons, List.drop_zero]
    rw [if_neg (by rw [preM_ne (by decide)]; simp), if_pos preM_cons1]
  rw [e1]
  obtain ⟨m, hm⟩ : ∃ m, (40 :: 124 :: (s ++ ([40, 33] ++ t ++ [41, 41]))).length = m + 1 + 1 + 1 := ⟨(s ++ ([40, 33] ++ t ++ [41, 41])).length - 1, by simp; omega⟩
  rw [hm, kidsF, if_pos (by rw [preM_app hsne]; exact hsp), s4]
  cases hc1 : chkM 63 1 f with
  | error e =>
    have := chk69 _ _ _ _ s1 hc1
    exact .inl ⟨e, rfl, by omega⟩
  | ok n3 =>
    simp only [thenF]
    have e2 : flM 63 n3 ([40, 33] ++ t ++ [41, 41]) = thenF (.mk 2 [] [] [] [g]) [41] (chkM 63 n3 (.mk 2 [] [] [] [g])) := by
      rw [show ([40, 33] : List UInt8) ++ t ++ [41, 41] = 40 :: 33 :: (t ++ [41, 41]) by simp]
      by_cases hn : 1000 < n3 + 1
      . rw [flM, if_neg (by rw [preM_cons1]; simp), if_pos hn, chkM, if_pos hn]; rfl
      . rw [flM, if_neg (by rw [preM_cons1]; simp), if_neg hn]
        simp only [List.drop_succ_cons, List.drop_zero]
        rw [if_neg (by rw [preM_ne (by decide)]; simp), if_neg (by rw [preM_ne (by decide)]; simp), if_pos preM_cons1, t4, chkM, if_neg hn, if_neg (by decide), if_neg (fun e => e.2 rfl), if_pos (by decide), chkKs_one, thenFs_one]
        exact closeM_then _
    rw [kidsF, if_pos (show preM [40] ([40, 33] ++ t ++ [41, 41]) = true from preM_cons1), e2]
    have hok2 : okF (.mk 2 [] [] [] [g]) := by simp only [okF]; exact ⟨by decide, by decide, fun _ => ⟨fun _ => rfl, t1, trivial⟩, fun h => absurd h (by decide)⟩
    cases hc2 : chkM 63 n3 (.mk 2 [] [] [] [g]) with
    | error e =>
      have := chk69 _ _ _ _ hok2 hc2
      exact .inl ⟨e, rfl, by omega⟩
    | ok n4 =>
      simp only [thenF]
      rw [kidsF, if_neg (by rw [preM_ne (by decide)]; simp)]
      simp only [closeM]
      rw [if_pos preM_cons1]
      exact .inr rfl
end Go.Proofs.YtcghcdnmpjhifaaDoor
