/- Filters: what a text says, in plain Lean. -/
import Derived.Test.YtcghcdnmpjhifaaDoorFlS
import Derived.Test.YtcghcdnmpjhifaaDoorFlD
import Derived.Test.YtcghcdnmpjhifaaDoorFl
import Derived.Test.YtcghcdnmpjhifaaDoorOcC
namespace Go.Proofs.YtcghcdnmpjhifaaDoor
set_option linter.all false
set_option maxRecDepth 4000
open Go.RowKit

def plainM : List UInt8 -> Option (List UInt8)
  | [] => some []
  | b :: l => if b.toNat = 0 \/ b.toNat = 40 then none else if b.toNat = 92 then (match l with
      | x :: y :: r => (match hexM x y with
        | some z => (plainM r).map (z :: ·)
        | none => none)
      | _ => none) else (plainM l).map (b :: ·)
def pushB (z : UInt8) : List (List UInt8) × List UInt8 -> List (List UInt8) × List UInt8
  | ([], r) => ([[z]], r)
  | (p :: ps, r) => ((z :: p) :: ps, r)
def scanM : List UInt8 -> Option (List (List UInt8) × List UInt8)
  | [] => none
  | b :: l => if b.toNat = 41 then some ([[]], l) else if b.toNat = 42 then (scanM l).map (fun x => ([] :: x.1, x.2))
    else if b.toNat = 92 then (match l with
      | x :: y :: r => (match hexM x y with
        | some z => (scanM r).map (pushB z)
        | none => none)
      | _ => none) else if b.toNat = 0 \/ b.toNat = 40 then none else (scanM l).map (pushB b)
theorem plainM_eq (b : UInt8) (l : List UInt8) : plainM (b :: l) = if b.toNat = 0 \/ b.toNat = 40 then none else if b.toNat = 92 then (match l with
      | x :: y :: r => (match hexM x y with
        | some z => (plainM r).map (z :: ·)
        | none => none)
      | _ => none) else (plainM l).map (b :: ·) := by rw [plainM.eq_def]
theorem scanM_eq (b : UInt8) (l : List UInt8) : scanM (b :: l) = if b.toNat = 41 then some ([[]], l) else if b.toNat = 42 then (scanM l).map (fun x => ([] :: x.1, x.2))
    else if b.toNat = 92 then (match l with
      | x :: y :: r => (match hexM x y with
        | some z => (scanM r).map (pushB z)
        | none => none)
      | _ => none) else if b.toNat = 0 \/ b.toNat = 40 then none else (scanM l).map (pushB b) := by rw [scanM.eq_def]
theorem hexM_l {y : UInt8} {x : UInt8} (h : x.toNat = 41 \/ x.toNat = 42) : hexM x y = none := by
  have : halfN x.toNat = none := by unfold halfN; rw [if_neg (by omega), if_neg (by omega), if_neg (by omega)]
  unfold hexM hexN
  rw [this]; rfl
theorem hexM_r {x : UInt8} {y : UInt8} (h : y.toNat = 41 \/ y.toNat = 42) : hexM x y = none := by
  have : halfN y.toNat = none := by unfold halfN; rw [if_neg (by omega), if_neg (by omega), if_neg (by omega)]
  unfold hexM hexN
  rw [this]
  cases halfN x.toNat <;> rfl
theorem byte_of {b : UInt8} {n : Nat} (h : b.toNat = n) (hn : n < 256) : b = UInt8.ofNat n := by rw [<- h]; simp
theorem posB_cons_ne {c b : UInt8} {l : List UInt8} (h : b ≠ c) : posB c (b :: l) = posB c l + 1 := by rw [posB, if_neg h]
theorem posB_cons_eq {c : UInt8} {l : List UInt8} : posB c (c :: l) = 0 := by rw [posB, if_pos rfl]
theorem splS_cons_ne {c b : UInt8} {l p : List UInt8} {ps : List (List UInt8)} (h : b ≠ c) (e : splS c l = p :: ps) : splS c (b :: l) = (b :: p) :: ps := by rw [splS, if_neg h, e]
theorem splS_cons_eq {c : UInt8} {l : List UInt8} : splS c (c :: l) = [] :: splS c l := by rw [splS, if_pos rfl]
def cutF (s : List UInt8) : Option (List (List UInt8) × List UInt8) :=
  if posB 41 s < s.length then ((splS 42 (s.take (posB 41 s))).mapM plainM).map (fun ps => (ps, s.drop (posB 41 s + 1))) else none
theorem plainM_cons {b : UInt8} {l : List UInt8} (h0 : ¬ (b.toNat = 0 \/ b.toNat = 40)) (h1 : ¬ b.toNat = 92) : plainM (b :: l) = (plainM l).map (b :: ·) := by rw [plainM_eq, if_neg h0, if_neg h1]
theorem plainM_hex {x y : UInt8} {l : List UInt8} : plainM (92 :: x :: y :: l) = (match hexM x y with | some z => (plainM l).map (z :: ·) | none => none) := by
  rw [plainM_eq, if_neg (by decide), if_pos (by decide)]
theorem plainM_h0 : plainM [92] = none := by decide
theorem plainM_h1 (x : UInt8) : plainM [92, x] = none := by rw [plainM_eq, if_neg (by decide), if_pos (by decide)]
theorem cutM_cons {b : UInt8} {l p : List UInt8} {ps : List (List UInt8)} (h1 : b ≠ 41) (h2 : b ≠ 42) (e : splS 42 (l.take (posB 41 l)) = p :: ps) :
    cutF (b :: l) = if posB 41 l < l.length then (((b :: p) :: ps).mapM plainM).map (fun ps => (ps, l.drop (posB 41 l + 1))) else none := by
  unfold cutF
  rw [posB_cons_ne h1, List.take_succ_cons, splS_cons_ne h2 e]
  simp only [List.length_cons, List.drop_succ_cons]
  by_cases h : posB 41 l < l.length
  . rw [if_pos h, if_pos (by omega)]
  . rw [if_neg h, if_neg (by omega)]
theorem mapM_head {p : List UInt8} {ps : List (List UInt8)} (h : plainM p = none) : (p :: ps).mapM plainM = none := by rw [List.mapM_cons, h]; rfl
theorem opt_map2 {α β γ : Type} (o : Option α) (f : α -> β) (g : β -> γ) : (o.map f).map g = o.map fun x => g (f x) := by cases o <;> rfl
theorem cut_scan : ∀ (n : Nat) (s : List UInt8), s.length <= n -> scanM s = cutF s
  | _, [], _ => rfl
  | 0, b :: l, h => absurd h (by simp)
  | n + 1, b :: l, h => by
    have hl : l.length <= n := by simpa using h
    have ih := cut_scan n l hl
    obtain ⟨p, ps, hp⟩ : ∃ p ps, splS 42 (l.take (posB 41 l)) = p :: ps := List.exists_cons_of_ne_nil (splS_ne _ _)
    rw [scanM_eq]
    by_cases h41 : b.toNat = 41
    . rw [if_pos h41]
      obtain rfl := byte_of h41 (by decide)
      unfold cutF
      rw [show UInt8.ofNat 41 = (41 : UInt8) from rfl, posB_cons_eq]
      simp [splS, plainM]
    . rw [if_neg h41]
      have n41 : b ≠ 41 := fun e => h41 (by rw [e]; rfl)
      by_cases h42 : b.toNat = 42
      . rw [if_pos h42, ih]
        obtain rfl := byte_of h42 (by decide)
        unfold cutF
        rw [posB_cons_ne n41, List.take_succ_cons, show UInt8.ofNat 42 = (42 : UInt8) from rfl, splS_cons_eq]
        simp only [List.length_cons, List.drop_succ_cons]
        by_cases hq : posB 41 l < l.length
        . rw [if_pos hq, if_pos (by omega), List.mapM_cons]
          cases hm : (splS 42 (l.take (posB 41 l))).mapM plainM with
          | none => rfl
          | some v => rfl
        . rw [if_neg hq, if_neg (by omega)]; rfl
      . rw [if_neg h42]
        have n42 : b ≠ 42 := fun e => h42 (by rw [e]; rfl)
        by_cases h92 : b.toNat = 92
        . rw [if_pos h92]
          obtain rfl := byte_of h92 (by decide)
          rw [show UInt8.ofNat 92 = (92 : UInt8) from rfl] at *
          match l, hl, ih, hp with
          | [], _, _, hp => rfl
          | [x], _, _, hp =>
            by_cases hx : x = 41
            . subst hx; rfl
            . unfold cutF
              rw [posB_cons_ne n41, posB_cons_ne hx]
              rw [if_neg (by simp [posB])]
          | x :: y :: r, hl, _, _ =>
            obtain ⟨p, ps, hp⟩ : ∃ p ps, splS 42 (r.take (posB 41 r)) = p :: ps := List.exists_cons_of_ne_nil (splS_ne _ _)
            have ih := cut_scan n r (by simp at hl; omega)
            simp only
            by_cases hx1 : x = 41
            . subst hx1
              rw [hexM_l (.inl rfl)]
              rw [cutM_cons (p := []) (ps := []) n41 n42 (by rw [posB_cons_eq]; rfl), posB_cons_eq, if_pos (by simp), mapM_head plainM_h0]; rfl
            . by_cases hx2 : x = 42
              . subst hx2
                rw [hexM_l (.inr rfl)]
                rw [cutM_cons n41 n42 (by rw [posB_cons_ne hx1, List.take_succ_cons, splS_cons_eq])]; rw [mapM_head plainM_h0, Option.map_none, ite_self]
              . by_cases hy1 : y = 41
                . subst hy1
                  rw [hexM_r (.inl rfl)]
                  rw [cutM_cons (p := [x]) (ps := []) n41 n42 (by rw [posB_cons_ne hx1, posB_cons_eq]; exact splS_cons_ne hx2 rfl)]; rw [mapM_head (plainM_h1 x), Option.map_none, ite_self]
                . by_cases hy2 : y = 42
                  . subst hy2
                    rw [hexM_r (.inr rfl)]
                    rw [cutM_cons n41 n42 (by rw [posB_cons_ne hx1, posB_cons_ne hy1, List.take_succ_cons, List.take_succ_cons]; exact splS_cons_ne hx2 splS_cons_eq)]; rw [mapM_head (plainM_h1 x), Option.map_none, ite_self]
                  . have e9 : splS 42 ((x :: y :: r).take (posB 41 (x :: y :: r))) = (x :: y :: p) :: ps := by
                      rw [posB_cons_ne hx1, posB_cons_ne hy1, List.take_succ_cons, List.take_succ_cons]
                      exact splS_cons_ne hx2 (splS_cons_ne hy2 hp)
                    rw [cutM_cons n41 n42 e9, posB_cons_ne hx1, posB_cons_ne hy1]
                    simp only [List.length_cons, List.drop_succ_cons]
                    rw [List.mapM_cons, plainM_hex, ih]
                    unfold cutF
                    by_cases hq : posB 41 r < r.length
                    . rw [if_pos hq, if_pos (by omega), hp, List.mapM_cons]
                      cases hexM x y with
                      | none => rfl
                      | some z =>
                        cases plainM p with
                        | none => rfl
                        | some v =>
                          cases hm : ps.mapM plainM with
                          | none => simp
                          | some vs => simp [pushB]
                    . rw [if_neg hq, if_neg (by omega)]
                      cases hexM x y <;> rfl
        . rw [if_neg h92, cutM_cons n41 n42 hp]
          by_cases h0 : b.toNat = 0 \/ b.toNat = 40
          . rw [if_pos h0]
            have : plainM (b :: p) = none := by rw [plainM_eq, if_pos h0]
            rw [mapM_head this, Option.map_none, ite_self]
          . rw [if_neg h0, ih]
            unfold cutF
            by_cases hq : posB 41 l < l.length
            . rw [if_pos hq, if_pos hq, hp, List.mapM_cons, List.mapM_cons, plainM_cons h0 h92]
              cases plainM p with
              | none => rfl
              | some v =>
                cases hm : ps.mapM plainM with
                | none => simp
                | some vs => simp [pushB]
            . rw [if_neg hq, if_neg hq]; rfl
theorem scan_cut (s : List UInt8) : scanM s = cutF s := cut_scan s.length s (Nat.le_refl _)
theorem scanM_len {s : List UInt8} {ps : List (List UInt8)} {r : List UInt8} (h : scanM s = some (ps, r)) : r.length < s.length /\ ps ≠ [] := by
  rw [scan_cut] at h
  unfold cutF at h
  split at h
  . rename_i hq
    simp only [Option.map_eq_some_iff, Prod.mk.injEq] at h
    obtain ⟨v, hv, rfl, rfl⟩ := h
    refine ⟨by rw [List.length_drop]; omega, ?_⟩
    obtain ⟨p, ps, hp⟩ : ∃ p ps, splS 42 (s.take (posB 41 s)) = p :: ps := List.exists_cons_of_ne_nil (splS_ne _ _)
    rw [hp, List.mapM_cons] at hv
    rintro rfl
    cases h1 : plainM p with
    | none => rw [h1] at hv; cases hv
    | some x =>
      rw [h1] at hv
      cases h2 : ps.mapM plainM with
      | none => rw [h2] at hv; simp at hv
      | some y => rw [h2] at hv; simp at hv
  . cases h
theorem plainM_nil {p : List UInt8} (h : plainM p = some []) : p = [] := by
  cases p with
  | nil => rfl
  | cons b l =>
    exfalso
    rw [plainM_eq] at h
    split at h
    . cases h
    . split at h
      . split at h
        . split at h
          . rename_i z _; cases h9 : plainM _ <;> rw [h9] at h <;> simp at h
          . cases h
        . cases h
      . cases h9 : plainM l <;> rw [h9] at h <;> simp at h

def tcRun : List UInt8 -> Nat
  | [] => 0
  | b :: l => if isTc b.toNat = true then tcRun l + 1 else 0
def typL (s : List UInt8) : Nat := if isLet (byteAt s 0) = true then min 32 (tcRun s) else 0
def signM : List UInt8 -> Option (Int × List UInt8)
  | [] => none
  | b :: l => if b.toNat = 61 then some (3, l) else match l with
    | [] => none
    | c :: r => if c.toNat = 61 then (if b.toNat = 62 then some (5, r) else if b.toNat = 60 then some (6, r) else if b.toNat = 126 then some (8, r) else none) else none
def pcsF (n : Nat) : Nat -> List (List UInt8) -> Option Pcs
  | _, [] => some []
  | i, p :: ps => if p = [] then (if i = 0 \/ i + 1 = n then pcsF n (i + 1) ps else none) else (pcsF n (i + 1) ps).map ((if i = 0 then 0 else if i + 1 = n then 2 else 1, p) :: ·)
def finM (k : Int) (attr : List UInt8) (ps : List (List UInt8)) : Option Fl :=
  if ps.length = 1 then some (.mk k attr (ps.headD []) [] []) else if k ≠ 3 then none else if ps = [[], []] then some (.mk 7 attr [] [] []) else (pcsF ps.length 0 ps).map fun pc => .mk 4 attr [] pc []
def itemM (s : List UInt8) : Option (Fl × List UInt8) :=
  if typL s = 0 then none else match signM (s.drop (typL s)) with
    | none => none
    | some (k, r) => match scanM r with
      | none => none
      | some (ps, r') => (finM k (s.take (typL s)) ps).map (·, r')
theorem signM_eq (b : UInt8) (l : List UInt8) : signM (b :: l) = (if b.toNat = 61 then some (3, l) else match l with
    | [] => none
    | c :: r => if c.toNat = 61 then (if b.toNat = 62 then some (5, r) else if b.toNat = 60 then some (6, r) else if b.toNat = 126 then some (8, r) else none) else none : Option (Int × List UInt8)) := by rw [signM.eq_def]
theorem tcRun_le : ∀ s : List UInt8, tcRun s <= s.length
  | [] => Nat.le_refl _
  | b :: l => by have := tcRun_le l; unfold tcRun; split <;> simp only [List.length_cons] <;> omega
theorem tcRun_in : ∀ {s : List UInt8} {i : Nat}, i < tcRun s -> isTc (byteAt s i) = true
  | [], i, h => absurd h (by simp [tcRun])
  | b :: l, i, h => by
    unfold tcRun at h
    split at h
    . rename_i hb
      cases i with
      | zero => exact hb
      | succ i => have := tcRun_in (s := l) (i := i) (by omega); simpa [byteAt] using this
    . omega
theorem tcRun_at : ∀ {s : List UInt8}, tcRun s < s.length -> isTc (byteAt s (tcRun s)) = false
  | [], h => absurd h (by simp)
  | b :: l, h => by
    by_cases hb : isTc b.toNat = true
    . have e : tcRun (b :: l) = tcRun l + 1 := by rw [tcRun, if_pos hb]
      rw [e] at h ⊢
      have := tcRun_at (s := l) (by simpa using h)
      simpa [byteAt] using this
    . have e : tcRun (b :: l) = 0 := by rw [tcRun, if_neg hb]
      rw [e]
      cases h9 : isTc b.toNat with
      | true => exact absurd h9 hb
      | false => exact h9
theorem typL_le (s : List UInt8) : typL s <= s.length := by unfold typL; have := tcRun_le s; split <;> omega
theorem typL_32 (s : List UInt8) : typL s <= 32 := by unfold typL; split <;> omega
theorem byteAt_take {s : List UInt8} {i j : Nat} (h : i < j) : byteAt (s.take j) i = byteAt s i := by unfold byteAt; rw [List.getElem?_take_of_lt h]
theorem typeM_pre {s : List UInt8} {j : Nat} (h : j < typL s) : typeM (s.take (j + 1)) = true := by
  have hle := typL_le s
  have h32 := typL_32 s
  have hlet : isLet (byteAt s 0) = true /\ typL s <= tcRun s := by
    unfold typL at h ⊢
    split at h
    . rename_i hl; rw [if_pos hl]; exact ⟨hl, by omega⟩
    . omega
  refine typeM_yes (by rw [List.length_take]; omega) (by rw [List.length_take]; omega) (by rw [byteAt_take (by omega)]; exact hlet.1) (fun i hi => ?_)
  rw [List.length_take] at hi
  rw [byteAt_take (by omega)]
  exact tcRun_in (by omega)
theorem typeM_stop {s : List UInt8} (h : typL s < s.length) : typeM (s.take (typL s + 1)) = false := by
  unfold typL at h ⊢
  by_cases hl : isLet (byteAt s 0) = true
  . rw [if_pos hl] at h ⊢
    by_cases h32 : 32 <= tcRun s
    . rw [Nat.min_eq_left h32] at h ⊢
      have : (s.take (32 + 1)).length = 33 := by rw [List.length_take]; omega
      unfold typeM
      rw [this]; rfl
    . rw [Nat.min_eq_right (by omega)] at h ⊢
      refine typeM_no (i := tcRun s) (by rw [List.length_take]; omega) ?_
      rw [byteAt_take (by omega)]
      exact tcRun_at h
  . rw [if_neg hl] at h ⊢
    unfold typeM
    rw [byteAt_take (by omega)]
    cases h9 : isLet (byteAt s 0) with
    | true => exact absurd h9 hl
    | false => simp
theorem tc_low {c : Nat} (h : isTc c = true) : c < 128 /\ isSg (UInt8.ofNat c) = false := by
  unfold isTc at h
  simp only [decide_eq_true_eq] at h
  refine ⟨by omega, ?_⟩
  unfold isSg sgn
  simp only [List.contains_eq_mem, List.mem_cons, List.not_mem_nil, or_false, decide_eq_false_iff_not]
  rintro (e | e | e | e) <;> (have := congrArg UInt8.toNat e; simp at this; omega)
theorem typL_hit {s : List UInt8} (h : hitQ s) (ht : typeM (s.take (stpQ s)) = true) : typL s = stpQ s /\ 1 <= stpQ s := by
  obtain ⟨b, h1, h2⟩ := h
  have hlt := (List.getElem?_eq_some_iff.1 h1).1
  have hb : byteAt s (stpQ s) = b.toNat := by unfold byteAt; rw [h1]; rfl
  have hbt : isTc (byteAt s (stpQ s)) = false := by
    cases h9 : isTc (byteAt s (stpQ s)) with
    | false => rfl
    | true => have := (tc_low h9).2; rw [hb] at this; simp at this; rw [this] at h2; cases h2
  unfold typeM at ht
  simp only [Bool.and_eq_true, decide_eq_true_eq, List.all_eq_true] at ht
  obtain ⟨⟨⟨t1, t2⟩, t3⟩, t4⟩ := ht
  rw [List.length_take] at t1 t2
  rw [byteAt_take (by omega)] at t3
  have hrun : tcRun s = stpQ s := by
    rcases Nat.lt_trichotomy (tcRun s) (stpQ s) with h | h | h
    . exfalso
      have h5 := tcRun_at (s := s) (by omega)
      have h6 : tcRun s < (s.take (stpQ s)).length := by rw [List.length_take]; omega
      have h7 := t4 _ (List.getElem_mem h6)
      rw [<- byteAt_eq h6, byteAt_take h, h5] at h7
      cases h7
    . exact h
    . rw [tcRun_in h] at hbt; cases hbt
  unfold typL
  rw [if_pos t3, hrun]
  exact ⟨by omega, by omega⟩
theorem signM_sg {s : List UInt8} {k : Int} {r : List UInt8} (h : signM s = some (k, r)) : ∃ b l, s = b :: l /\ isSg b = true := by
  cases s with
  | nil => cases h
  | cons b l =>
    refine ⟨b, l, rfl, ?_⟩
    rw [signM_eq] at h
    split at h
    . rename_i hb; rw [byte_of hb (by decide)]; rfl
    . split at h
      . cases h
      . split at h
        . split at h
          . rename_i hb; rw [byte_of hb (by decide)]; rfl
          . split at h
            . rename_i hb; rw [byte_of hb (by decide)]; rfl
            . split at h
              . rename_i hb; rw [byte_of hb (by decide)]; rfl
              . cases h
        . cases h
theorem stpQ_eq {s : List UInt8} {n : Nat} (hn : n < s.length) (h1 : ∀ i, i < n -> isTc (byteAt s i) = true) (h2 : isSg (s[n]'hn) = true) : stpQ s = n := by
  have hle := stpQ_le s
  rcases Nat.lt_trichotomy (stpQ s) n with h | h | h
  . have h3 := h1 _ h
    have h4 := stpQ_at (s := s) (by omega)
    have h5 := tc_low h3
    rw [byteAt_eq (by omega)] at h5
    rcases h4 with h4 | h4
    . have := h5.2; simp at this; rw [this] at h4; cases h4
    . omega
  . exact h
  . have := (stpQ_low h hn).1; rw [this] at h2; cases h2
theorem itemM_none {s : List UInt8} (h : ¬ (hitQ s /\ typeM (s.take (stpQ s)) = true)) : itemM s = none := by
  unfold itemM
  by_cases h0 : typL s = 0
  . rw [if_pos h0]
  . rw [if_neg h0]
    cases hs : signM (s.drop (typL s)) with
    | none => rfl
    | some x =>
      exfalso
      obtain ⟨k, r⟩ := x
      obtain ⟨b, l, hbl, hb⟩ := signM_sg hs
      have hle := typL_le s
      have hget : s[typL s]? = some b := by rw [<- List.head?_drop, hbl]; rfl
      obtain ⟨hlt, hge⟩ := List.getElem?_eq_some_iff.1 hget
      have hin : ∀ i, i < typL s -> isTc (byteAt s i) = true := fun i hi => by
        unfold typL at hi
        split at hi
        . exact tcRun_in (by omega)
        . omega
      have hq := stpQ_eq hlt hin (by rw [hge]; exact hb)
      refine h ⟨⟨b, by rw [hq]; exact hget, hb⟩, ?_⟩
      rw [hq]
      have := typeM_pre (s := s) (j := typL s - 1) (by omega)
      rw [show typL s - 1 + 1 = typL s by omega] at this
      exact this
theorem signM_len {s : List UInt8} {k : Int} {r : List UInt8} (h : signM s = some (k, r)) : r.length < s.length := by
  cases s with
  | nil => cases h
  | cons b l =>
    rw [signM_eq] at h
    split at h
    . injection h with h; injection h with h1 h2; subst h2; simp
    . split at h
      . cases h
      . split at h
        . split at h
          . injection h with h; injection h with h1 h2; subst h2; simp; omega
          . split at h
            . injection h with h; injection h with h1 h2; subst h2; simp; omega
            . split at h
              . injection h with h; injection h with h1 h2; subst h2; simp; omega
              . cases h
        . cases h
theorem itemM_len {s : List UInt8} {f : Fl} {r : List UInt8} (h : itemM s = some (f, r)) : r.length < s.length := by
  unfold itemM at h
  split at h
  . cases h
  . split at h
    . cases h
    . rename_i k q hk
      split at h
      . cases h
      . rename_i ps r' hr
        simp only [Option.map_eq_some_iff, Prod.mk.injEq] at h
        obtain ⟨_, _, _, rfl⟩ := h
        have h1 := signM_len hk
        have h2 := (scanM_len hr).1
        rw [List.length_drop] at h1
        omega

abbrev FlRes := Except Int (Fl × List UInt8 × Nat)
def kidsF (f : Nat -> List UInt8 -> FlRes) : Nat -> Nat -> List UInt8 -> Except Int (List Fl × List UInt8 × Nat)
  | 0, n, s => .ok ([], s, n)
  | m + 1, n, s => if preM [40] s = true then (match f n s with
    | .error e => .error e
    | .ok (k, r, n') => (match kidsF f m n' r with
      | .error e => .error e
      | .ok (ks, r', n'') => .ok (k :: ks, r', n''))) else .ok ([], s, n)
def closeM (kind : Int) : Except Int (List Fl × List UInt8 × Nat) -> FlRes
  | .error e => .error e
  | .ok (ks, s, n) => if preM [41] s = true then .ok (.mk kind [] [] [] ks, s.drop 1, n) else .error 4
def oneM : FlRes -> Except Int (List Fl × List UInt8 × Nat)
  | .error e => .error e
  | .ok (k, r, n) => .ok ([k], r, n)
def flM : Nat -> Nat -> List UInt8 -> FlRes
  | 0, _, s => .error (if preM [40] s = true then 6 else 4)
  | d + 1, n, s => if preM [40] s = false then .error 4 else if 1000 < n + 1 then .error 9 else
    if preM [38] (s.drop 1) = true then closeM 0 (kidsF (flM d) s.length (n + 1) (s.drop 2))
    else if preM [124] (s.drop 1) = true then closeM 1 (kidsF (flM d) s.length (n + 1) (s.drop 2))
    else if preM [33] (s.drop 1) = true then closeM 2 (oneM (flM d (n + 1) (s.drop 2)))
    else match itemM (s.drop 1) with
      | none => .error 4
      | some (f, r) => .ok (f, r, n + 1)
theorem preM_one {c : UInt8} {s : List UInt8} (h : preM [c] s = true) : ∃ l, s = c :: l := by
  unfold preM at h
  simp only [List.length_cons, List.length_nil, decide_eq_true_eq] at h
  cases s with
  | nil => simp at h
  | cons b l => simp at h; subst h; exact ⟨l, rfl⟩
theorem preM_one_no {c : UInt8} {s : List UInt8} (h : preM [c] s = false) : ∀ l, s ≠ c :: l := by
  rintro l rfl
  unfold preM at h
  simp at h
theorem kidsF_len {f : Nat -> List UInt8 -> FlRes} (hf : ∀ n s k r n', f n s = .ok (k, r, n') -> r.length < s.length) : ∀ (m n : Nat) (s : List UInt8) (ks : List Fl) (r : List UInt8) (n' : Nat), kidsF f m n s = .ok (ks, r, n') -> r.length <= s.length
  | 0, n, s, ks, r, n', h => by simp only [kidsF, Except.ok.injEq, Prod.mk.injEq] at h; obtain ⟨_, rfl, _⟩ := h; exact Nat.le_refl _
  | m + 1, n, s, ks, r, n', h => by
    rw [kidsF] at h
    split at h
    . split at h
      . cases h
      . rename_i k r1 n1 h1
        split at h
        . cases h
        . rename_i ks2 r2 n2 h2
          simp only [Except.ok.injEq, Prod.mk.injEq] at h
          obtain ⟨_, rfl, _⟩ := h
          have := hf _ _ _ _ _ h1
          have := kidsF_len hf m _ _ _ _ _ h2
          omega
    . simp only [Except.ok.injEq, Prod.mk.injEq] at h; obtain ⟨_, rfl, _⟩ := h; exact Nat.le_refl _
theorem closeM_ok {k : Int} {x : Except Int (List Fl × List UInt8 × Nat)} {f : Fl} {r : List UInt8} {n : Nat} (h : closeM k x = .ok (f, r, n)) : ∃ ks s, x = .ok (ks, s, n) /\ s = 41 :: r /\ f = .mk k [] [] [] ks := by
  cases x with
  | error e => cases h
  | ok y =>
    obtain ⟨ks, s, n1⟩ := y
    simp only [closeM] at h
    split at h
    . rename_i hp
      obtain ⟨l, rfl⟩ := preM_one hp
      simp only [Except.ok.injEq, Prod.mk.injEq, List.drop_succ_cons, List.drop_zero] at h
      obtain ⟨rfl, rfl, rfl⟩ := h
      exact ⟨ks, _, rfl, rfl, rfl⟩
    . cases h
theorem flM_len : ∀ (d n : Nat) (s : List UInt8) (f : Fl) (r : List UInt8) (n' : Nat), flM d n s = .ok (f, r, n') -> r.length < s.length
  | 0, n, s, f, r, n', h => by simp [flM] at h
  | d + 1, n, s, f, r, n', h => by
    have ih := flM_len d
    rw [flM] at h
    split at h
    . cases h
    . rename_i hp
      obtain ⟨l, rfl⟩ := preM_one (show preM [40] s = true by cases h9 : preM [40] s <;> simp_all)
      split at h
      . cases h
      . split at h
        . obtain ⟨ks, s1, h1, rfl, _⟩ := closeM_ok h
          have := kidsF_len ih _ _ _ _ _ _ h1
          simp only [List.length_cons, List.length_drop] at this ⊢; omega
        . split at h
          . obtain ⟨ks, s1, h1, rfl, _⟩ := closeM_ok h
            have := kidsF_len ih _ _ _ _ _ _ h1
            simp only [List.length_cons, List.length_drop] at this ⊢; omega
          . split at h
            . obtain ⟨ks, s1, h1, rfl, _⟩ := closeM_ok h
              cases h2 : flM d (n + 1) ((40 :: l).drop 2) with
              | error e => rw [h2] at h1; cases h1
              | ok y =>
                obtain ⟨k, r2, n2⟩ := y
                rw [h2] at h1
                simp only [oneM, Except.ok.injEq, Prod.mk.injEq] at h1
                obtain ⟨_, rfl, _⟩ := h1
                have := ih _ _ _ _ _ h2
                simp only [List.length_cons, List.length_drop] at this ⊢; omega
            . split at h
              . cases h
              . rename_i f1 r1 h1
                simp only [Except.ok.injEq, Prod.mk.injEq] at h
                obtain ⟨_, rfl, _⟩ := h
                have := itemM_len h1
                simp only [List.length_cons, List.length_drop] at this ⊢; omega
def flParse (s : List UInt8) : Except Int Fl := if s.length > 4096 then .error 5 else match flM 64 0 s with
  | .error e => .error e
  | .ok (f, r, _) => if r = [] then .ok f else .error 4
end Go.Proofs.YtcghcdnmpjhifaaDoor
