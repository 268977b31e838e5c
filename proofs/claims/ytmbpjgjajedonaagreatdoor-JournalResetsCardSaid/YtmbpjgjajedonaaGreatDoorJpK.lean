/- Layer 6, plain: what the records are where the power failed. -/
import Derived.Test.YtmbpjgjajedonaaGreatDoorJpJ
import Derived.Test.YtmbpjgjajedonaaGreatDoorJpD
namespace Go.Proofs.YtmbpjgjajedonaaGreatDoor
set_option linter.all false
set_option maxRecDepth 4000
open Go.RowKit

theorem reset_any {D : Dk} (ho : D.off = false) (hw : D.W = []) (h4 : 4 <= D.lasts.length) (h8 : D.lasts.length <= 8192) {J : Jn} (hc : J.closed = false) {bs : List B8} (hlen : ∀ b ∈ bs, b.length <= 262144) (hfull : ¬ fullM D J bs)
    (hm : mostL D.lasts (sizeM D) <= J.gen) (hh : J.half = (hdsL D.lasts).half) (hs : J.slot = (hdsL D.lasts).slot) (hn : NotMix (resetT D J bs)) :
    (∃ D', resetM D J bs = (D', ⟨J.gen + 1, 1 - J.half, slotM J, needsM bs, bs.length, false⟩, 0) /\ Kept D D' /\ Live D'.lasts (sizeM D) ⟨J.gen + 1, 1 - J.half, slotM J, needsM bs, bs.length, false⟩ bs) ∨
    (∃ D', resetM D J bs = (D', { J with closed := true }, 10) /\ Gone D D' /\ (recL D'.lasts (sizeM D) = recL D.lasts (sizeM D) \/ recL D'.lasts (sizeM D) = bs) /\ mostL D'.lasts (sizeM D) <= J.gen + 1) := by
  have hf := hfull
  unfold fullM at hf
  have hz := size_fit h4
  have hzb : sizeM D <= 8192 := by unfold sizeM; omega
  have hho : J.half <= 1 := by rw [hh]; exact (hds_ok _).half
  have hmul := half_mul hho (sizeM D)
  have hsl : slotM J <= 1 := by unfold slotM; split <;> omega
  have hmm := mostL_ge hz.1
  have hnb := needs_len hlen
  have hgg : 1 <= J.gen + 1 /\ J.gen + 1 < 4294967296 := by omega
  have hfi : firstM D (1 - J.half) = 2 + (1 - J.half) * sizeM D := rfl
  have hr1 : allM (J.gen + 1) 0 bs ≠ [] -> ((firstM D (1 - J.half) + (allM (J.gen + 1) 0 bs).length : Nat) : Int) <= roomM D := fun hne => by
    rw [allM_len]
    have : 0 < needsM bs := by
      rw [<- allM_len (J.gen + 1) 0]
      exact List.length_pos_iff.2 hne
    omega
  have hrs : resetM D J bs = if (layJ D (firstM D (1 - J.half)) (allM (J.gen + 1) 0 bs)).2 ≠ 0 then ((layJ D (firstM D (1 - J.half)) (allM (J.gen + 1) 0 bs)).1, { J with closed := true }, (layJ D (firstM D (1 - J.half)) (allM (J.gen + 1) 0 bs)).2) else
      if (lay2 D J bs).2 ≠ 0 then ((lay2 D J bs).1, { J with closed := true }, (lay2 D J bs).2) else ((lay2 D J bs).1, ⟨J.gen + 1, 1 - J.half, slotM J, needsM bs, bs.length, false⟩, 0) := by
    unfold resetM
    rw [if_neg (by rw [hc]; decide), if_neg (by rintro ⟨b, hb, hl⟩; have := hlen b hb; omega), if_neg hfull]
  rw [resetT_go hc hlen hfull] at hn
  -- a cell of the new generation, or an old one
  have hcell : ∀ (i : Nat), i < needsM bs -> ∀ c, cellM (strAt (allM (J.gen + 1) 0 bs) i) = some c -> c.gen = J.gen + 1 := fun i hi c hcc => by
    obtain ⟨c', hc', hg'⟩ := allM_cell hgg (q := 0) (by omega) hlen _ (strAt_in (L := allM (J.gen + 1) 0 bs) (i := i) (by rw [allM_len]; exact hi))
    rw [hcc] at hc'
    injection hc' with hc'
    rw [hc']; exact hg'
  have hmost : ∀ {L' : List B8}, L'.length = D.lasts.length -> (hdsL L').most <= J.gen + 1 -> (∀ i, 2 <= i -> i < D.lasts.length -> strAt L' i = strAt D.lasts i \/ (firstM D (1 - J.half) <= i /\ i < firstM D (1 - J.half) + needsM bs /\ (strAt L' i = strAt (allM (J.gen + 1) 0 bs) (i - firstM D (1 - J.half)) \/ Dust (strAt L' i)))) -> mostL L' (sizeM D) <= J.gen + 1 := by
    intro L' hl' hmo hd
    refine mostL_le hmo (fun i h2 h3 c hcc => ?_)
    rcases hd i h2 (by omega) with hx | ⟨k1, k2, hx | hx⟩
    . rw [hx] at hcc
      have := hmm.2 i h2 h3 c hcc
      omega
    . rw [hx] at hcc
      exact Nat.le_of_eq (hcell _ (by omega) c hcc)
    . rw [hx.1] at hcc; cases hcc
  rcases layJ_any (allM (J.gen + 1) 0 bs) D (firstM D (1 - J.half)) ho allM_all hr1 with ⟨e1, k1, _, a1⟩ | ⟨e1, g1, s1⟩
  . rw [if_neg (by rw [e1]; decide)] at hrs hn
    have hrm : roomM (layJ D (firstM D (1 - J.half)) (allM (J.gen + 1) 0 bs)).1 = roomM D := by unfold roomM; rw [k1.sh.1, k1.sh.2]
    have hlay : lay2 D J bs = layJ (layJ D (firstM D (1 - J.half)) (allM (J.gen + 1) 0 bs)).1 (slotM J) [secH (J.gen + 1) (1 - J.half)] := rfl
    have a1' : ∀ i, i < D.lasts.length -> strAt (layJ D (firstM D (1 - J.half)) (allM (J.gen + 1) 0 bs)).1.lasts i = if firstM D (1 - J.half) <= i /\ i < firstM D (1 - J.half) + needsM bs then strAt (allM (J.gen + 1) 0 bs) (i - firstM D (1 - J.half)) else strAt D.lasts i := fun i hi => by
      rw [a1 i hi, allM_len, curAt_nil hw]
    rw [hlay] at hrs
    generalize (layJ D (firstM D (1 - J.half)) (allM (J.gen + 1) 0 bs)).1 = D1 at *
    have hl1 : D1.lasts.length = D.lasts.length := k1.sh.2
    rcases layJ_dam k1.off k1.w (a := slotM J) (ss := [secH (J.gen + 1) (1 - J.half)]) (fun s hs => by rw [List.mem_singleton.1 hs]; exact secH_len _ _) (fun _ => by rw [hrm, List.length_singleton]; omega) hn with ⟨e2, k2, a2⟩ | ⟨e2, g2, d2⟩
    . rw [if_neg (by rw [e2]; decide)] at hrs
      refine .inl ⟨_, hrs, ⟨k2.off, k2.w, k1.sh.trans k2.sh, fun h => k2.left (k1.left h)⟩, ?_⟩
      refine reset_live (L := D.lasts) (by rw [k2.sh.2, hl1]) hz.1 hho (by rw [hs]; exact (hds_ok _).slot) (by omega) (by omega) hzb hlen hm (fun i hi => ?_)
      rw [a2 i (by rw [hl1]; exact hi), List.length_singleton]
      by_cases hi2 : i = slotM J
      . rw [if_pos (by omega), if_pos hi2, hi2, Nat.sub_self]; rfl
      . rw [if_neg (by omega), if_neg hi2, a1' i hi, hfi]
    . rw [if_pos (by rw [e2]; decide), e2] at hrs
      refine .inr ⟨_, hrs, ⟨g2.off, g2.w, k1.sh.trans g2.sh, fun h => g2.left (k1.left h)⟩, ?_⟩
      generalize (layJ D1 (slotM J) [secH (J.gen + 1) (1 - J.half)]).1 = D2 at *
      have hl2 : D2.lasts.length = D.lasts.length := by rw [g2.sh.2, hl1]
      have hoth : ∀ i, i < D.lasts.length -> i ≠ slotM J -> strAt D2.lasts i = strAt D1.lasts i := fun i hi hne => by
        rcases d2 i (by rw [hl1]; exact hi) with hx | ⟨q1, q2, _⟩
        . exact hx
        . rw [List.length_singleton] at q2; omega
      have hlow : ∀ i, i < 2 -> strAt D1.lasts i = strAt D.lasts i := fun i hi => by rw [a1' i (by omega), if_neg (by omega)]
      have hreg : ∀ i, i < sizeM D -> strAt D2.lasts (2 + J.half * sizeM D + i) = strAt D.lasts (2 + J.half * sizeM D + i) := fun i hi => by
        rw [hoth _ (by omega) (by omega), a1' _ (by omega), if_neg (by omega)]
      have hmid : ∀ i, 2 <= i -> i < D.lasts.length -> strAt D2.lasts i = strAt D.lasts i \/ (firstM D (1 - J.half) <= i /\ i < firstM D (1 - J.half) + needsM bs /\ (strAt D2.lasts i = strAt (allM (J.gen + 1) 0 bs) (i - firstM D (1 - J.half)) \/ Dust (strAt D2.lasts i))) := fun i h2 hi => by
        rw [hoth i hi (by omega), a1' i hi]
        split
        . rename_i hr
          exact .inr ⟨hr.1, hr.2, .inl rfl⟩
        . exact .inl rfl
      rcases d2 (slotM J) (by rw [hl1]; omega) with hx | ⟨_, _, hx | hx⟩
      . rw [hlow _ (by omega)] at hx
        have hlo2 : ∀ i, i < 2 -> strAt D2.lasts i = strAt D.lasts i := fun i hi => by
          by_cases h : i = slotM J
          . rw [h]; exact hx
          . rw [hoth i (by omega) h, hlow i hi]
        have e0 : hdsL D2.lasts = hdsL D.lasts := hds_same (hlo2 0 (by omega)) (hlo2 1 (by omega))
        refine ⟨.inl (recL_same hl2 hz.1 (by rw [e0]) (by rw [e0]) (by rw [e0]) (by rw [<- hh]; exact hreg)), hmost hl2 (by rw [e0]; omega) hmid⟩
      . rw [Nat.sub_self] at hx
        have hx' : strAt D2.lasts (slotM J) = secH (J.gen + 1) (1 - J.half) := hx
        have hlive : Live D2.lasts (sizeM D) ⟨J.gen + 1, 1 - J.half, slotM J, needsM bs, bs.length, false⟩ bs := by
          refine reset_live (L := D.lasts) hl2 hz.1 hho (by rw [hs]; exact (hds_ok _).slot) (by omega) (by omega) hzb hlen hm (fun i hi => ?_)
          by_cases hi2 : i = slotM J
          . rw [if_pos hi2, hi2]; exact hx'
          . rw [if_neg hi2, hoth i hi hi2, a1' i hi, hfi]
        exact ⟨.inr (hlive.tells hzb), Nat.le_of_eq hlive.most⟩
      . have e0 := hds_dust (L := D.lasts) (L' := D2.lasts) (s := slotM J) (by unfold slotM; rw [hs]) hx.2 (by rw [hoth _ (by omega) (by omega), hlow _ (by omega)])
        exact ⟨.inl (recL_same hl2 hz.1 e0.1 e0.2.1 e0.2.2.1 (by rw [<- hh]; exact hreg)), hmost hl2 (by have := e0.2.2.2; omega) hmid⟩
  . rw [if_pos (by rw [e1]; decide)] at hrs hn
    rw [e1] at hrs
    refine .inr ⟨_, hrs, g1, ?_⟩
    have d1 := s1.dam hw hn
    generalize (layJ D (firstM D (1 - J.half)) (allM (J.gen + 1) 0 bs)).1 = D1 at *
    have hl1 : D1.lasts.length = D.lasts.length := g1.sh.2
    unfold Dam at d1
    rw [allM_len] at d1
    have hlow : ∀ i, i < D.lasts.length -> ¬ (firstM D (1 - J.half) <= i /\ i < firstM D (1 - J.half) + needsM bs) -> strAt D1.lasts i = strAt D.lasts i := fun i hi hne => by
      rcases d1 i hi with hx | ⟨q1, q2, _⟩
      . exact hx
      . exact absurd ⟨q1, q2⟩ hne
    have e0 : hdsL D1.lasts = hdsL D.lasts := hds_same (hlow 0 (by omega) (by omega)) (hlow 1 (by omega) (by omega))
    exact ⟨.inl (recL_same hl1 hz.1 (by rw [e0]) (by rw [e0]) (by rw [e0]) (fun i hi => hlow _ (by rw [<- hh]; omega) (by rw [<- hh]; omega))), hmost hl1 (by rw [e0]; omega) (fun i h2 hi => d1 i hi)⟩

theorem rec_bad {g q : Nat} {b : B8} (hg : 1 <= g /\ g < 4294967296) (hq : q < 4294967296) (hb : b.length <= 262144) :
    ∀ (d k ps : Nat) (l : List B8), k + d < needM b.length -> (0 < k -> ps = needM b.length) -> (k = 0 -> ps = 1) -> d < l.length -> (∀ j, j < d -> strAt l j = cellAt g q b (k + j)) -> (∀ c, cellM (strAt l d) = some c -> c.gen ≠ g) -> recOne g q k ps l = none
  | _, _, _, [], _, _, _, hl, _, _ => by simp at hl
  | 0, k, ps, s :: l, hk, h1, h0, _, _, hbad => by
    have hps : ¬ ps <= k := by
      by_cases hk0 : k = 0
      . rw [h0 hk0]; omega
      . rw [h1 (by omega)]; omega
    rw [recOne, if_neg hps]
    have hbad' : ∀ c, cellM s = some c -> c.gen ≠ g := hbad
    cases hc : cellM s with
    | none => rfl
    | some c => simp only; rw [if_neg (fun hh => hbad' c hc hh.1)]
  | d + 1, k, ps, s :: l, hk, h1, h0, hl, hcell, hbad => by
    have hps : ¬ ps <= k := by
      by_cases hk0 : k = 0
      . rw [h0 hk0]; omega
      . rw [h1 (by omega)]; omega
    have hs : s = cellAt g q b k := by have := hcell 0 (by omega); rw [Nat.add_zero] at this; exact this
    rw [List.length_cons] at hl
    rw [recOne, if_neg hps, hs, cellAt_ok hg hq hb (by omega)]
    dsimp only
    rw [if_pos ⟨rfl, rfl, rfl, fun h => (h1 h).symm⟩, rec_bad hg hq hb d (k + 1) (needM b.length) l (by omega) (fun _ => rfl) (fun h => by omega) (by omega) (fun j hj => by have := hcell (j + 1) (by omega); rw [show k + (j + 1) = k + 1 + j by omega] at this; exact this) hbad]
    rfl
theorem append_any {D : Dk} (ho : D.off = false) (hw : D.W = []) (h8 : D.lasts.length <= 8192) {J : Jn} {bs : List B8} (hL : Live D.lasts (sizeM D) J bs) {b : B8} (hb : b.length <= 262144) (hfit : (needM b.length : Int) <= leftM D J) (hn : NotMix (appendT D J b)) :
    (∃ D', appendM D J b = (D', { J with used := J.used + needM b.length, n := J.n + 1 }, 0) /\ Kept D D' /\ Live D'.lasts (sizeM D) { J with used := J.used + needM b.length, n := J.n + 1 } (bs ++ [b])) ∨
    (∃ D', appendM D J b = (D', { J with closed := true }, 10) /\ Gone D D' /\ (recL D'.lasts (sizeM D) = bs \/ recL D'.lasts (sizeM D) = bs ++ [b]) /\ mostL D'.lasts (sizeM D) <= J.gen) := by
  have hzb : sizeM D <= 8192 := by unfold sizeM; omega
  have hnp := needM_pos hb
  have hro := room_le D
  have hl : (needM b.length : Int) <= roomM D - firstM D J.half - J.used /\ (needM b.length : Int) <= sizeM D - J.used := by unfold leftM at hfit; omega
  have hu := hL.used
  have hz := hL.room
  have hho := hL.half
  have hmul := half_mul hho (sizeM D)
  have hfi : firstM D J.half = 2 + J.half * sizeM D := rfl
  have hap : appendM D J b = if (layJ D (firstM D J.half + J.used) (cellsM J.gen J.n b)).2 ≠ 0 then ((layJ D (firstM D J.half + J.used) (cellsM J.gen J.n b)).1, { J with closed := true }, (layJ D (firstM D J.half + J.used) (cellsM J.gen J.n b)).2) else
      ((layJ D (firstM D J.half + J.used) (cellsM J.gen J.n b)).1, { J with used := J.used + needM b.length, n := J.n + 1 }, 0) := by
    unfold appendM
    rw [if_neg (by rw [hL.open_]; decide), if_neg (by omega), if_neg (by omega)]
  have hat : appendT D J b = layT D (firstM D J.half + J.used) (cellsM J.gen J.n b) := by
    unfold appendT
    rw [if_neg (by rw [hL.open_]; decide), if_neg (by omega), if_neg (by omega)]
  rw [hat] at hn
  have hst : ∀ j, j < needM b.length -> strAt (cellsM J.gen J.n b) j = cellAt J.gen J.n b j := fun j hj => by
    unfold strAt cellsM
    rw [List.getElem?_map, List.getElem?_range (by omega)]; rfl
  rcases layJ_dam ho hw (a := firstM D J.half + J.used) (ss := cellsM J.gen J.n b) cellsM_all (fun _ => by rw [cellsM_len]; omega) hn with ⟨e1, k1, a1⟩ | ⟨e1, g1, d1⟩
  . rw [if_neg (by rw [e1]; decide)] at hap
    refine .inl ⟨_, hap, k1, append_live hL k1.sh.2 hzb hb (by omega) (fun i hi => ?_)⟩
    rw [a1 i hi, cellsM_len, hfi]
    split
    . exact hst _ (by omega)
    . rfl
  . rw [if_pos (by rw [e1]; decide), e1] at hap
    refine .inr ⟨_, hap, g1, ?_⟩
    generalize (layJ D (firstM D J.half + J.used) (cellsM J.gen J.n b)).1 = D1 at *
    have hl1 : D1.lasts.length = D.lasts.length := g1.sh.2
    unfold Dam at d1
    rw [cellsM_len] at d1
    have hlow : ∀ i, i < D.lasts.length -> ¬ (firstM D J.half + J.used <= i /\ i < firstM D J.half + J.used + needM b.length) -> strAt D1.lasts i = strAt D.lasts i := fun i hi hne => by
      rcases d1 i hi with hx | ⟨q1, q2, _⟩
      . exact hx
      . exact absurd ⟨q1, q2⟩ hne
    have e0 : hdsL D1.lasts = hdsL D.lasts := hds_same (hlow 0 (by omega) (by omega)) (hlow 1 (by omega) (by omega))
    have hmm := mostL_ge hz
    have hmo := hL.most
    have hds := hL.hd
    have hnb := needs_len hL.len
    have hnew : ∀ i, i < needM b.length -> cellM (cellAt J.gen J.n b i) = some ⟨J.gen, J.n, i, needM b.length, (b.drop (110 * i)).take 110⟩ := fun i hi => cellAt_ok hL.gen (by rw [hL.n]; omega) hb hi
    refine ⟨?_, ?_⟩
    . by_cases hall : ∀ j, j < needM b.length -> strAt D1.lasts (firstM D J.half + J.used + j) = cellAt J.gen J.n b j
      . right
        refine (append_live hL hl1 hzb hb (by omega) (fun i hi => ?_)).tells hzb
        split
        . have := hall (i - (firstM D J.half + J.used)) (by omega)
          rw [show firstM D J.half + J.used + (i - (firstM D J.half + J.used)) = i by omega] at this
          rw [this, hfi]
        . exact hlow i hi (by omega)
      . left
        have hlen := hL.len
        -- the first cell that lacks
        have hfst : ∃ d, d < needM b.length /\ (∀ j, j < d -> strAt D1.lasts (firstM D J.half + J.used + j) = cellAt J.gen J.n b j) /\ strAt D1.lasts (firstM D J.half + J.used + d) ≠ cellAt J.gen J.n b d := by
          have : ∀ n, (∀ j, j < n -> strAt D1.lasts (firstM D J.half + J.used + j) = cellAt J.gen J.n b j) \/ ∃ d, d < n /\ (∀ j, j < d -> strAt D1.lasts (firstM D J.half + J.used + j) = cellAt J.gen J.n b j) /\ strAt D1.lasts (firstM D J.half + J.used + d) ≠ cellAt J.gen J.n b d := by
            intro n
            induction n with
            | zero => exact .inl fun j hj => by omega
            | succ n ih =>
              rcases ih with ih | ⟨d, h1, h2, h3⟩
              . by_cases hn : strAt D1.lasts (firstM D J.half + J.used + n) = cellAt J.gen J.n b n
                . exact .inl fun j hj => by
                    by_cases hj2 : j = n
                    . rw [hj2]; exact hn
                    . exact ih j (by omega)
                . exact .inr ⟨n, by omega, ih, hn⟩
              . exact .inr ⟨d, by omega, h2, h3⟩
          rcases this (needM b.length) with h | h
          . exact absurd h hall
          . exact h
        obtain ⟨d, hd, hd1, hd2⟩ := hfst
        have hbad : ∀ c, cellM (strAt D1.lasts (firstM D J.half + J.used + d)) = some c -> c.gen ≠ J.gen := fun c hcc => by
          rcases d1 (firstM D J.half + J.used + d) (by omega) with hx | ⟨_, _, hx | hx⟩
          . rw [hx] at hcc
            rw [hfi, hu] at hcc
            exact hL.free (needsM bs + d) (by omega) (by omega) c (by rw [<- Nat.add_assoc]; exact hcc)
          . rw [show firstM D J.half + J.used + d - (firstM D J.half + J.used) = d by omega, hst d hd] at hx
            exact absurd hx hd2
          . rw [hx.1] at hcc; cases hcc
        have hrl : (regL D1.lasts (sizeM D) J.half).length = sizeM D := regL_len (by omega) hho
        have hr : regL D1.lasts (sizeM D) J.half = allM J.gen 0 bs ++ (regL D1.lasts (sizeM D) J.half).drop (needsM bs) := by
          refine strAt_ext ?_ (fun i hi => ?_)
          . rw [List.length_append, allM_len, List.length_drop, hrl]; omega
          . rw [hrl] at hi
            rw [strAt_app, allM_len]
            split
            . rw [regL_at hi, hlow _ (by omega) (by omega)]; exact hL.cells i Zp
            . rw [strAt_drop]; congr 1; omega
        unfold recL
        rw [e0, hds]
        simp only
        rw [if_pos (by rcases hL.s with h | h <;> omega), hr, recs_all hL.gen bs (sizeM D) 0 (by omega) (by omega) hlen]
        have hnone : recOne J.gen (0 + bs.length) 0 1 ((regL D1.lasts (sizeM D) J.half).drop (needsM bs)) = none := by
          refine rec_bad (b := b) hL.gen (by omega) hb d 0 1 _ (by omega) (fun h => by omega) (fun _ => rfl) (by rw [List.length_drop, hrl]; omega) (fun j hj => ?_) (fun c hcc => ?_)
          . rw [strAt_drop, regL_at (by omega), Nat.zero_add, Nat.zero_add, ← hL.n, ← hu, ← hd1 j hj, hfi]; congr 1; omega
          . rw [strAt_drop, regL_at (by omega)] at hcc
            refine hbad c ?_
            rw [<- hcc, hfi, hu]; congr 2; omega
        cases hzz : sizeM D - bs.length with
        | zero => rw [recsM, List.append_nil]
        | succ f => rw [recsM, hnone, List.append_nil]
    . refine mostL_le (by rw [e0, hds]; exact Nat.le_refl _) (fun i h2 h3 c hcc => ?_)
      rcases d1 i (by omega) with hx | ⟨q1, q2, hx | hx⟩
      . rw [hx] at hcc
        have := hmm.2 i h2 h3 c hcc
        omega
      . rw [hx, hst _ (by omega), hnew _ (by omega)] at hcc
        injection hcc with hcc
        rw [<- hcc]; exact Nat.le_refl _
      . rw [hx.1] at hcc; cases hcc
theorem open_any {D : Dk} (ho : D.off = false) (hw : D.W = []) (h4 : 4 <= D.lasts.length) (h8 : D.lasts.length <= 4000) (hlim : D.limit = D.lasts.length) (hg : mostL D.lasts (sizeM D) < 4294967295) (hn : NotMix (openT D)) :
    (∃ D' J, openM D = (D', some J, recL D.lasts (sizeM D), 0) /\ Kept D D' /\ Live D'.lasts (sizeM D) J (recL D.lasts (sizeM D)) /\ J.gen = mostL D.lasts (sizeM D) + 1) ∨
    (∃ D', openM D = (D', none, [], 10) /\ Gone D D' /\ recL D'.lasts (sizeM D) = recL D.lasts (sizeM D) /\ mostL D'.lasts (sizeM D) <= mostL D.lasts (sizeM D) + 1) := by
  have hcn := curL_nil ho hw
  have hz := size_fit h4
  have hzs : sizeM D <= 2383 := by unfold sizeM; omega
  have hlen := lens_ok hzs
  have hfit := fit_ok D
  have hor : openR D = recL D.lasts (sizeM D) := by unfold openR; rw [hcn]
  have hoj : openJ D = ⟨mostL D.lasts (sizeM D), (hdsL D.lasts).half, (hdsL D.lasts).slot, 0, 0, false⟩ := by unfold openJ headsM; rw [hcn]
  have hop : openM D = if (resetM D (openJ D) (openR D)).2.2 ≠ 0 then ((resetM D (openJ D) (openR D)).1, none, [], (resetM D (openJ D) (openR D)).2.2) else ((resetM D (openJ D) (openR D)).1, some (resetM D (openJ D) (openR D)).2.1, openR D, 0) := by
    unfold openM; rw [if_neg (by omega), if_neg (by rw [ho]; decide)]
  have hot : openT D = resetT D (openJ D) (openR D) := by unfold openT; rw [if_neg (by omega), if_neg (by rw [ho]; decide)]
  rw [hot] at hn
  rw [hor] at hop hn hlen hfit
  have hhalf := (hds_ok D.lasts).half
  have hmul := half_mul hhalf (sizeM D)
  have hrm : roomM D = D.lasts.length := by unfold roomM; omega
  have hnf : ¬ fullM D (openJ D) (recL D.lasts (sizeM D)) := by
    rw [fullM_iff, hrm, hoj]
    unfold firstM
    simp only
    omega
  rcases reset_any ho hw h4 (by omega) (J := openJ D) rfl hlen hnf (by rw [hoj]; exact Nat.le_refl _) (by rw [hoj]) (by rw [hoj]) hn with ⟨D', e, k, l⟩ | ⟨D', e, g, hr, hm⟩
  . left
    rw [e, if_neg (by simp)] at hop
    exact ⟨D', _, hop, k, l, by rw [hoj]⟩
  . right
    rw [e, if_pos (by simp)] at hop
    refine ⟨D', hop, g, ?_, by rw [hoj] at hm; exact hm⟩
    rcases hr with hr | hr <;> exact hr
end Go.Proofs.YtmbpjgjajedonaaGreatDoor
