/- Layer 6, plain: records of sectors; the calls of a journal over the disk's model. -/
import Derived.Test.YtmbpjgjajedonaaGreatDoorDkG
import Derived.Test.YtmbpjgjajedonaaGreatDoorJoM
namespace Go.Proofs.YtmbpjgjajedonaaGreatDoor
set_option linter.all false
set_option maxRecDepth 4000
open Go.RowKit

noncomputable def recOne (g q : Nat) : Nat -> Nat -> List B8 -> Option (B8 × List B8)
  | k, ps, [] => if ps <= k then some ([], []) else none
  | k, ps, s :: l => if ps <= k then some ([], s :: l) else match cellM s with
    | none => none
    | some c => if c.gen = g /\ c.seq = q /\ c.part = k /\ (0 < k -> c.parts = ps) then (recOne g q (k + 1) c.parts l).map fun r => (c.data ++ r.1, r.2) else none
noncomputable def recsM (g : Nat) : Nat -> Nat -> List B8 -> List B8
  | 0, _, _ => []
  | f + 1, q, l => match recOne g q 0 1 l with
    | none => []
    | some r => r.1 :: recsM g f (q + 1) r.2
def needM (n : Nat) : Nat := if 262144 < n then 0 else max 1 ((n + 109) / 110)
def cellAt (g q : Nat) (b : B8) (i : Nat) : B8 := secC ⟨g, q, i, needM b.length, (b.drop (110 * i)).take 110⟩
def cellsM (g q : Nat) (b : B8) : List B8 := (List.range (needM b.length)).map (cellAt g q b)
def allM (g : Nat) : Nat -> List B8 -> List B8
  | _, [] => []
  | q, b :: bs => cellsM g q b ++ allM g (q + 1) bs
def needsM : List B8 -> Nat
  | [] => 0
  | b :: bs => needM b.length + needsM bs

theorem needM_pos {n : Nat} (h : n <= 262144) : 1 <= needM n /\ needM n <= 2384 := by unfold needM; rw [if_neg (by omega)]; omega
theorem cellsM_len (g q : Nat) (b : B8) : (cellsM g q b).length = needM b.length := by simp [cellsM]
theorem allM_len (g : Nat) : ∀ (q : Nat) (bs : List B8), (allM g q bs).length = needsM bs
  | _, [] => rfl
  | q, b :: bs => by rw [allM, List.length_append, cellsM_len, allM_len, needsM]
theorem cellAt_ok {g q : Nat} {b : B8} {i : Nat} (hg : 1 <= g /\ g < 4294967296) (hq : q < 4294967296) (hb : b.length <= 262144) (hi : i < needM b.length) :
    cellM (cellAt g q b i) = some ⟨g, q, i, needM b.length, (b.drop (110 * i)).take 110⟩ := by
  have hn := needM_pos hb
  have e : needM b.length = max 1 ((b.length + 109) / 110) := by unfold needM; rw [if_neg (by omega)]
  have hl : ((b.drop (110 * i)).take 110).length = min 110 (b.length - 110 * i) := by rw [List.length_take, List.length_drop]
  refine cell_sec ⟨hg.2, hq, by simp only; omega, by simp only; omega⟩ ⟨hg.1, hi, ?_, ?_, ?_⟩
  . simp only [hl]; omega
  . simp only [hl]; omega
  . simp only [hl]; omega
theorem cellAt_len {g q : Nat} {b : B8} {i : Nat} : (cellAt g q b i).length = 128 := secC_len (by simp only [List.length_take]; omega)
theorem cellsM_all {g q : Nat} {b : B8} : ∀ s ∈ cellsM g q b, s.length = 128 := by
  intro s hs
  simp only [cellsM, List.mem_map, List.mem_range] at hs
  obtain ⟨i, _, rfl⟩ := hs
  exact cellAt_len
theorem allM_all {g : Nat} : ∀ {q : Nat} {bs : List B8}, ∀ s ∈ allM g q bs, s.length = 128
  | _, [], s, hs => by simp [allM] at hs
  | q, b :: bs, s, hs => by
    rw [allM, List.mem_append] at hs
    rcases hs with hs | hs
    . exact cellsM_all s hs
    . exact allM_all s hs
def cellsFrom (g q : Nat) (b : B8) (k : Nat) : List B8 := (List.range' k (needM b.length - k)).map (cellAt g q b)
theorem cellsFrom_zero (g q : Nat) (b : B8) : cellsFrom g q b 0 = cellsM g q b := by rw [cellsFrom, cellsM, Nat.sub_zero, List.range_eq_range']
theorem cellsFrom_step {g q : Nat} {b : B8} {k : Nat} (h : k < needM b.length) : cellsFrom g q b k = cellAt g q b k :: cellsFrom g q b (k + 1) := by
  rw [cellsFrom, show needM b.length - k = (needM b.length - (k + 1)) + 1 by omega, List.range'_succ, List.map_cons]; rfl
theorem cellsFrom_end {g q : Nat} {b : B8} {k : Nat} (h : needM b.length <= k) : cellsFrom g q b k = [] := by
  rw [cellsFrom, show needM b.length - k = 0 by omega]; rfl
theorem rec_cells {g q : Nat} {b : B8} (hg : 1 <= g /\ g < 4294967296) (hq : q < 4294967296) (hb : b.length <= 262144) (tail : List B8) :
    ∀ (n k ps : Nat), n = needM b.length - k -> k <= needM b.length -> (0 < k -> ps = needM b.length) -> (k = 0 -> ps = 1) -> recOne g q k ps (cellsFrom g q b k ++ tail) = some (b.drop (110 * k), tail)
  | 0, k, ps, hn, hk, h1, h0 => by
    have hp := needM_pos hb
    have hk' : k = needM b.length := by omega
    rw [cellsFrom_end (by omega), List.nil_append]
    have hd : b.drop (110 * k) = [] := by
      apply List.drop_eq_nil_of_le
      have e : needM b.length = max 1 ((b.length + 109) / 110) := by unfold needM; rw [if_neg (by omega)]
      omega
    rw [hd]
    have hps := h1 (by omega)
    cases tail with
    | nil => rw [recOne, if_pos (by omega)]
    | cons s l => rw [recOne, if_pos (by omega)]
  | n + 1, k, ps, hn, hk, h1, h0 => by
    have hlt : k < needM b.length := by omega
    have hps : ¬ ps <= k := by
      by_cases hk0 : k = 0
      . rw [h0 hk0]; omega
      . rw [h1 (by omega)]; omega
    rw [cellsFrom_step hlt, List.cons_append, recOne, if_neg hps, cellAt_ok hg hq hb hlt]
    dsimp only
    rw [if_pos ⟨rfl, rfl, rfl, fun h => (h1 h).symm⟩, rec_cells hg hq hb tail n (k + 1) (needM b.length) (by omega) (by omega) (fun _ => rfl) (fun h => by omega)]
    simp only [Option.map_some]
    rw [show 110 * (k + 1) = 110 * k + 110 by omega, ← List.drop_drop, List.take_append_drop]
theorem rec_cells0 {g q : Nat} {b : B8} (hg : 1 <= g /\ g < 4294967296) (hq : q < 4294967296) (hb : b.length <= 262144) (tail : List B8) : recOne g q 0 1 (cellsM g q b ++ tail) = some (b, tail) := by
  have := rec_cells hg hq hb tail _ 0 1 rfl (Nat.zero_le _) (fun h => by omega) (fun _ => rfl)
  rw [cellsFrom_zero] at this
  simpa using this
def NoRec (g : Nat) (l : List B8) : Prop := ∀ q, recOne g q 0 1 l = none
theorem noRec_nil (g : Nat) : NoRec g [] := fun q => by rw [recOne]; rfl
theorem noRec_cons {g : Nat} {s : B8} {l : List B8} (h : ∀ c, cellM s = some c -> c.gen ≠ g) : NoRec g (s :: l) := fun q => by
  rw [recOne, if_neg (by decide)]
  cases hc : cellM s with
  | none => rfl
  | some c => simp only; rw [if_neg (fun hh => h c hc hh.1)]
theorem recs_none {g : Nat} {l : List B8} (h : NoRec g l) : ∀ f q, recsM g f q l = []
  | 0, _ => rfl
  | f + 1, q => by rw [recsM, h q]
theorem recs_all {g : Nat} (hg : 1 <= g /\ g < 4294967296) {tail : List B8} : ∀ (bs : List B8) (f q : Nat), bs.length <= f -> q + bs.length <= 4294967296 -> (∀ b ∈ bs, b.length <= 262144) →
    recsM g f q (allM g q bs ++ tail) = bs ++ recsM g (f - bs.length) (q + bs.length) tail
  | [], f, q, _, _, _ => by simp [allM]
  | b :: bs, 0, q, hf, _, _ => by simp at hf
  | b :: bs, f + 1, q, hf, hq, hb => by
    simp only [List.length_cons] at hf hq
    rw [recsM, allM, List.append_assoc, rec_cells0 hg (by omega) (hb b (by simp))]
    simp only
    rw [recs_all hg bs f (q + 1) (by omega) (by omega) (fun x hx => hb x (by simp [hx])), List.length_cons, List.cons_append, show f + 1 - (bs.length + 1) = f - bs.length by omega, show q + 1 + bs.length = q + (bs.length + 1) by omega]
theorem rec_take {g q : Nat} : ∀ {l : List B8} {k ps : Nat} {b : B8} {r : List B8}, recOne g q k ps l = some (b, r) -> r.length <= l.length /\ (k < ps -> r.length < l.length)
  | [], k, ps, b, r, h => by
    rw [recOne] at h
    split at h
    . injection h with h; injection h with h1 h2; subst h1 h2; exact ⟨Nat.le_refl _, fun _ => by omega⟩
    . cases h
  | s :: l, k, ps, b, r, h => by
    rw [recOne] at h
    split at h
    . injection h with h; injection h with h1 h2; subst h1 h2; exact ⟨Nat.le_refl _, fun _ => by omega⟩
    . cases hc : cellM s with
      | none => rw [hc] at h; cases h
      | some c =>
        rw [hc] at h
        simp only at h
        split at h
        . cases hr : recOne g q (k + 1) c.parts l with
          | none => rw [hr] at h; cases h
          | some x =>
            rw [hr] at h
            simp only [Option.map_some, Option.some.injEq, Prod.mk.injEq] at h
            obtain ⟨x1, x2⟩ := x
            have := (rec_take hr).1
            simp only at h
            rw [<- h.2, List.length_cons]
            exact ⟨by omega, fun _ => by omega⟩
        . cases h
theorem recs_fuel {g : Nat} : ∀ (f f' q : Nat) (l : List B8), l.length <= f -> l.length <= f' -> recsM g f q l = recsM g f' q l
  | 0, 0, _, _, _, _ => rfl
  | 0, f' + 1, q, l, h, _ => by
    have : l = [] := by cases l with | nil => rfl | cons a b => simp at h
    subst this
    rw [recs_none (noRec_nil g), recs_none (noRec_nil g)]
  | f + 1, 0, q, l, _, h => by
    have : l = [] := by cases l with | nil => rfl | cons a b => simp at h
    subst this
    rw [recs_none (noRec_nil g), recs_none (noRec_nil g)]
  | f + 1, f' + 1, q, l, h, h' => by
    rw [recsM, recsM]
    cases hr : recOne g q 0 1 l with
    | none => rfl
    | some x =>
      obtain ⟨b, r⟩ := x
      have := (rec_take hr).2 (by decide)
      simp only
      rw [recs_fuel f f' (q + 1) r (by omega) (by omega)]
theorem rec_need {g q : Nat} : ∀ {l : List B8} {k ps : Nat} {b : B8} {r : List B8}, recOne g q k ps l = some (b, r) -> k < ps -> 1 <= k →
    ps - k + r.length = l.length /\ 110 * (ps - k) < b.length + 110 /\ b.length <= 110 * (ps - k)
  | [], k, ps, b, r, h, hk, hk1 => by
    rw [recOne, if_neg (by omega)] at h; cases h
  | s :: l, k, ps, b, r, h, hk, hk1 => by
    rw [recOne, if_neg (by omega)] at h
    cases hc : cellM s with
    | none => rw [hc] at h; cases h
    | some c =>
      rw [hc] at h
      simp only at h
      split at h
      . rename_i hcc
        obtain ⟨_, _, c3, c4⟩ := hcc
        have c4' := c4 (by omega)
        obtain ⟨_, ho, _⟩ := cell_some hc
        have o1 := ho.d; have o2 := ho.f; have o3 := ho.l
        cases hr : recOne g q (k + 1) c.parts l with
        | none => rw [hr] at h; cases h
        | some x =>
          rw [hr] at h
          simp only [Option.map_some, Option.some.injEq, Prod.mk.injEq] at h
          obtain ⟨x1, x2⟩ := x
          simp only at h
          obtain ⟨h1, h2⟩ := h
          subst h2
          rw [<- h1, List.length_append, List.length_cons]
          by_cases hlast : k + 1 < ps
          . have ih := rec_need hr (by omega) (by omega)
            have := o2 (by omega)
            omega
          . have hps : ps = k + 1 := by omega
            have hx : x1 = [] /\ x2 = l := by
              cases l with
              | nil =>
                rw [recOne, if_pos (by omega)] at hr
                injection hr with hr; injection hr with e1 e2; exact ⟨e1.symm, e2.symm⟩
              | cons a t =>
                rw [recOne, if_pos (by omega)] at hr
                injection hr with hr; injection hr with e1 e2; exact ⟨e1.symm, e2.symm⟩
            obtain ⟨rfl, rfl⟩ := hx
            have : ¬ c.data.length = 0 := fun e => by have := o3 (by omega) e; omega
            simp only [List.length_nil]
            omega
      . cases h
theorem rec_need0 {g q : Nat} {l : List B8} {b : B8} {r : List B8} (h : recOne g q 0 1 l = some (b, r)) : ∃ n, 1 <= n /\ n + r.length = l.length /\ b.length <= 110 * n /\ max 1 ((b.length + 109) / 110) = n := by
  cases l with
  | nil => rw [recOne, if_neg (by decide)] at h; cases h
  | cons s l =>
    rw [recOne, if_neg (by decide)] at h
    cases hc : cellM s with
    | none => rw [hc] at h; cases h
    | some c =>
      rw [hc] at h
      simp only at h
      split at h
      . rename_i hcc
        obtain ⟨_, _, c3, _⟩ := hcc
        obtain ⟨_, ho, _⟩ := cell_some hc
        have o1 := ho.d; have o2 := ho.f; have o3 := ho.l; have o4 := ho.p
        cases hr : recOne g q (0 + 1) c.parts l with
        | none => rw [hr] at h; cases h
        | some x =>
          rw [hr] at h
          simp only [Option.map_some, Option.some.injEq, Prod.mk.injEq] at h
          obtain ⟨x1, x2⟩ := x
          simp only at h
          obtain ⟨h1, h2⟩ := h
          subst h2
          refine ⟨c.parts, by omega, ?_⟩
          rw [<- h1, List.length_append, List.length_cons]
          by_cases hlast : 1 < c.parts
          . have ih := rec_need hr (by omega) (by omega)
            have := o2 (by omega)
            omega
          . have hps : c.parts = 1 := by omega
            have hx : x1 = [] /\ x2 = l := by
              cases l with
              | nil =>
                rw [recOne, if_pos (by omega)] at hr
                injection hr with hr; injection hr with e1 e2; exact ⟨e1.symm, e2.symm⟩
              | cons a t =>
                rw [recOne, if_pos (by omega)] at hr
                injection hr with hr; injection hr with e1 e2; exact ⟨e1.symm, e2.symm⟩
            obtain ⟨rfl, rfl⟩ := hx
            simp only [List.length_nil]
            omega
      . cases h
theorem needM_le (n : Nat) : needM n <= max 1 ((n + 109) / 110) := by unfold needM; split <;> omega
theorem recs_need {g : Nat} : ∀ (f q : Nat) (l : List B8), needsM (recsM g f q l) <= l.length /\ (recsM g f q l).length <= l.length /\ ∀ b ∈ recsM g f q l, b.length <= 110 * l.length
  | 0, _, _ => by simp [recsM, needsM]
  | f + 1, q, l => by
    rw [recsM]
    cases hr : recOne g q 0 1 l with
    | none => simp [needsM]
    | some x =>
      obtain ⟨b, r⟩ := x
      obtain ⟨n, h1, h2, h3, h4⟩ := rec_need0 hr
      obtain ⟨i1, i2, i3⟩ := recs_need (g := g) f (q + 1) r
      have := needM_le b.length
      simp only [needsM, List.length_cons]
      refine ⟨by omega, by omega, fun y hy => ?_⟩
      rcases List.mem_cons.1 hy with rfl | hy
      . omega
      . have := i3 y hy; omega

structure Jn where
  gen : Nat
  half : Nat
  slot : Int
  used : Nat
  n : Nat
  closed : Bool
def sizeM (D : Dk) : Nat := (D.lasts.length - 2) / 2
def firstM (D : Dk) (f : Nat) : Nat := 2 + f * sizeM D
def layJ : Dk -> Nat -> List B8 -> Dk × Int
  | D, _, [] => flushM D
  | D, a, s :: l => if (writeM D (a : Nat) s).2 ≠ 0 then writeM D (a : Nat) s else layJ (writeM D (a : Nat) s).1 (a + 1) l
def fullM (D : Dk) (J : Jn) (bs : List B8) : Prop := sizeM D < needsM bs \/ roomM D < 2 \/ (0 < needsM bs /\ roomM D < ((firstM D (1 - J.half) + needsM bs : Nat) : Int)) \/ 4294967295 <= J.gen
instance (D : Dk) (J : Jn) (bs : List B8) : Decidable (fullM D J bs) := by unfold fullM; infer_instance
def slotM (J : Jn) : Nat := if J.slot = 0 then 1 else 0
def lay2 (D : Dk) (J : Jn) (bs : List B8) : Dk × Int := layJ (layJ D (firstM D (1 - J.half)) (allM (J.gen + 1) 0 bs)).1 (slotM J) [secH (J.gen + 1) (1 - J.half)]
def resetM (D : Dk) (J : Jn) (bs : List B8) : Dk × Jn × Int :=
  if J.closed = true then (D, J, 12) else if ∃ b ∈ bs, 262144 < b.length then (D, J, 5) else if fullM D J bs then (D, J, 11) else
  if (layJ D (firstM D (1 - J.half)) (allM (J.gen + 1) 0 bs)).2 ≠ 0 then ((layJ D (firstM D (1 - J.half)) (allM (J.gen + 1) 0 bs)).1, { J with closed := true }, (layJ D (firstM D (1 - J.half)) (allM (J.gen + 1) 0 bs)).2) else
  if (lay2 D J bs).2 ≠ 0 then ((lay2 D J bs).1, { J with closed := true }, (lay2 D J bs).2) else
  ((lay2 D J bs).1, ⟨J.gen + 1, 1 - J.half, slotM J, needsM bs, bs.length, false⟩, 0)
structure Hd where
  most : Nat
  cur : Nat
  half : Nat
  slot : Int
def scanH (i : Nat) (s : B8) (st : Hd) : Hd := match headM s with
  | none => st
  | some (g, f) => if st.cur < g then ⟨max st.most g, g, f, i⟩ else { st with most := max st.most g }
noncomputable def mostC (m : Nat) (l : List B8) : Nat := l.foldl (fun m s => match cellM s with | none => m | some c => max m c.gen) m
def curL (D : Dk) : List B8 := (List.range D.lasts.length).map fun (i : Nat) => (readM D (i : Nat)).1
def hdsL (L : List B8) : Hd := scanH 1 (strAt L 1) (scanH 0 (strAt L 0) ⟨0, 0, 1, -1⟩)
def regL (L : List B8) (z f : Nat) : List B8 := (L.drop (2 + f * z)).take z
noncomputable def recL (L : List B8) (z : Nat) : List B8 := if 0 <= (hdsL L).slot then recsM (hdsL L).cur z 0 (regL L z (hdsL L).half) else []
noncomputable def mostL (L : List B8) (z : Nat) : Nat := mostC (hdsL L).most ((L.drop 2).take (2 * z))
def headsM (D : Dk) : Hd := hdsL (curL D)
noncomputable def openR (D : Dk) : List B8 := recL (curL D) (sizeM D)
noncomputable def openJ (D : Dk) : Jn := ⟨mostL (curL D) (sizeM D), (headsM D).half, (headsM D).slot, 0, 0, false⟩
noncomputable def openM (D : Dk) : Dk × Option Jn × List B8 × Int :=
  if D.lasts.length < 4 then (D, none, [], 2) else if D.off = true then (D, none, [], 10) else
  if (resetM D (openJ D) (openR D)).2.2 ≠ 0 then ((resetM D (openJ D) (openR D)).1, none, [], (resetM D (openJ D) (openR D)).2.2) else
  ((resetM D (openJ D) (openR D)).1, some (resetM D (openJ D) (openR D)).2.1, openR D, 0)
def leftM (D : Dk) (J : Jn) : Int := max 0 (min (sizeM D : Int) (roomM D - firstM D J.half) - J.used)
def appendM (D : Dk) (J : Jn) (b : B8) : Dk × Jn × Int :=
  if J.closed = true then (D, J, 12) else if 262144 < b.length then (D, J, 5) else if leftM D J < needM b.length then (D, J, 11) else
  if (layJ D (firstM D J.half + J.used) (cellsM J.gen J.n b)).2 ≠ 0 then ((layJ D (firstM D J.half + J.used) (cellsM J.gen J.n b)).1, { J with closed := true }, (layJ D (firstM D J.half + J.used) (cellsM J.gen J.n b)).2) else
  ((layJ D (firstM D J.half + J.used) (cellsM J.gen J.n b)).1, { J with used := J.used + needM b.length, n := J.n + 1 }, 0)
end Go.Proofs.YtmbpjgjajedonaaGreatDoor
