/- Layer 6, plain: what the records are where the power failed. -/
import Derived.Test.YtmbpjgjajedonaaGreatDoorJpJ
import Derived.Test.YtmbpjgjajedonaaGreatDoorJpC
import Derived.Test.YtmbpjgjajedonaaGreatDoorLtAb
import Derived.Test.YtmbpjgjajedonaaGreatDoorJpH
namespace Go.Proofs.YtmbpjgjajedonaaGreatDoor
set_option linter.all false
set_option maxRecDepth 4000
open Go.RowKit

theorem reset_any {D : Dk} (ho : D.off = false) (hw : D.W = []) (h4 : 4 <= D.lasts.length) (h8 : D.lasts.length <= 8192) {J : Jn} (hc : J.closed = false) {bs : List B8} (hlen : ∀ b ∈ bs, b.length <= 262144) (hfull : ¬ fullM D J bs)
    (hm : mostL D.lasts (sizeM D) <= J.gen) (hh : J.half = (hdsL D.lasts).half) (hs : J.slot = (hdsL D.lasts).slot) (hn : NotMix (resetT D J bs)) :
    (∃ D', resetM D J bs = (D', ⟨J.gen + 1, 1 - J.half, slotM J, needsM bs, bs.length, false⟩, 0) /\ Kept D D' /\ Live D'.lasts (sizeM D) ⟨J.gen + 1, 1 - J.half, slotM J, needsM bs, bs.length, false⟩ bs) ∨
    (∃ D', resetM D J bs = (D', { J with closed := true }, 10) /\ Gone D D' /\ (recL D'.lasts (sizeM D) = recL D.lasts (sizeM D) \/ recL D'.lasts (sizeM D) = bs) /\ mostL D'.lasts (sizeM D) <= J.gen + 1) := by
  have hf := hfull
  unfold fullM at hf
  have hz := size_fit h4
  have hzb : sizeM D <= 8192 := by unfold sizeM; omega
  have hho : J.half <= 1 := by rw [hh]; exact (hds_ok _).half
  have hmul := half_mul hho (sizeM D)
  have hsl : slotM J <= 1 := by unfold slotM; split <;> omega
  have hmm := mostL_ge hz.1
  have hnb := needs_len hlen
  have hgg : 1 <= J.gen + 1 /\ J.gen + 1 < 4294967296 := by omega
  have hfi : firstM D (1 - J.half) = 2 + (1 - J.half) * sizeM D := rfl
  have hr1 : allM (J.gen + 1) 0 bs ≠ [] -> ((firstM D (1 - J.half) + (allM (J.gen + 1) 0 bs).length : Nat) : Int) <= roomM D := fun hne => by
    rw [allM_len]
    have : 0 < needsM bs := by
      rw [<- allM_len (J.gen + 1) 0]
      exact List.length_pos_iff.2 hne
    omega
  have hrs : resetM D J bs = if (layJ D (firstM D (1 - J.half)) (allM (J.gen + 1) 0 bs)).2 ≠ 0 then ((layJ D (firstM D (1 - J.half)) (allM (J.gen + 1) 0 bs)).1, { J with closed := true }, (layJ D (firstM D (1 - J.half)) (allM (J.gen + 1) 0 bs)).2) else
      if (lay2 D J bs).2 ≠ 0 then ((lay2 D J bs).1, { J with closed := true }, (lay2 D J bs).2) else ((lay2 D J bs).1, ⟨J.gen + 1, 1 - J.half, slotM J, needsM bs, bs.length, false⟩, 0) := by
    unfold resetM
    rw [if_neg (by rw [hc]; decide), if_neg (by rintro ⟨b, hb, hl⟩; have := hlen b hb; omega), if_neg hfull]
  rw [resetT_go hc hlen hfull] at hn
  -- a cell of the new generation, or an old one
  have hcell : ∀ (i : Nat), i < needsM bs -> ∀ c, cellM (strAt (allM (J.gen + 1) 0 bs) i) = some c -> c.gen = J.gen + 1 := fun i hi c hcc => by
    obtain ⟨c', hc', hg'⟩ := allM_cell hgg (q := 0) (by omega) hlen _ (strAt_in (L := allM (J.gen + 1) 0 bs) (i := i) (by rw [allM_len]; exact hi))
    rw [hcc] at hc'
    injection hc' with hc'
    rw [hc']; exact hg'
  have hmost : ∀ {L' : List B8}, L'.length = D.lasts.length -> (hdsL L').most <= J.gen + 1 -> (∀ i, 2 <= i -> i < D.lasts.length -> strAt L' i = strAt D.lasts i \/ (firstM D (1 - J.half) <= i /\ i < firstM D (1 - J.half) + needsM bs /\ (strAt L' i = strAt (allM (J.gen + 1) 0 bs) (i - firstM D (1 - J.half)) \/ Dust (strAt L' i)))) -> mostL L' (sizeM D) <= J.gen + 1 := by
    intro L' hl' hmo hd
    refine mostL_le hmo (fun i h2 h3 c hcc => ?_)
    rcases hd i h2 (by omega) with hx | ⟨k1, k2, hx | hx⟩
    . rw [hx] at hcc
      have := hmm.2 i h2 h3 c hcc
      omega
    . rw [hx] at hcc
      exact Nat.le_of_eq (hcell _ (by omega) c hcc)
    . rw [hx.1] at hcc; cases hcc
  rcases layJ_any (allM (J.gen + 1) 0 bs) D (firstM D (1 - J.half)) ho allM_all hr1 with ⟨e1, k1, _, a1⟩ | ⟨e1, g1, s1⟩
  . rw [if_neg (by rw [e1]; decide)] at hrs hn
    have hrm : roomM (layJ D (firstM D (1 - J.half)) (allM (J.gen + 1) 0 bs)).1 = roomM D := by unfold roomM; rw [k1.sh.1, k1.sh.2]
    have hlay : lay2 D J bs = layJ (layJ D (firstM D (1 - J.half)) (allM (J.gen + 1) 0 bs)).1 (slotM J) [secH (J.gen + 1) (1 - J.half)] := rfl
    have a1' : ∀ i, i < D.lasts.length -> strAt (layJ D (firstM D (1 - J.half)) (allM (J.gen + 1) 0 bs)).1.lasts i = if firstM D (1 - J.half) <= i /\ i < firstM D (1 - J.half) + needsM bs then strAt (allM (J.gen + 1) 0 bs) (i - firstM D (1 - J.half)) else strAt D.lasts i := fun i hi => by
      rw [a1 i hi, allM_len, curAt_nil hw]
    rw [hlay] at hrs
    generalize (layJ D (firstM D (1 - J.half)) (allM (J.gen + 1) 0 bs)).1 = D1 at *
    have hl1 : D1.lasts.length = D.lasts.length := k1.sh.2
    rcases layJ_dam k1.off k1.w (a := slotM J) (ss := [secH (J.gen + 1) (1 - J.half)]) (fun s hs => by rw [List.mem_singleton.1 hs]; exact secH_len _ _) (fun _ => by rw [hrm, List.length_singleton]; omega) hn with ⟨e2, k2, a2⟩ | ⟨e2, g2, d2⟩
    . rw [if_neg (by rw [e2]; decide)] at hrs
      refine .inl ⟨_, hrs, ⟨k2.off, k2.w, k1.sh.trans k2.sh, fun h => k2.left (k1.left h)⟩, ?_⟩
      refine reset_live (L := D.lasts) (by rw [k2.sh.2, hl1]) hz.1 hho (by rw [hs]; exact (hds_ok _).slot) (by omega) (by omega) hzb hlen hm (fun i hi => ?_)
      rw [a2 i (by rw [hl1]; exact hi), List.length_singleton]
      by_cases hi2 : i = slotM J
      . rw [if_pos (by omega), if_pos hi2, hi2, Nat.sub_self]; rfl
      . rw [if_neg (by omega), if_neg hi2, a1' i hi, hfi]
    . rw [if_pos (by rw [e2]; decide), e2] at hrs
      refine .inr ⟨_, hrs, ⟨g2.off, g2.w, k1.sh.trans g2.sh, fun h => g2.left (k1.left h)⟩, ?_⟩
      generalize (layJ D1 (slotM J) [secH (J.gen + 1) (1 - J.half)]).1 = D2 at *
      have hl2 : D2.lasts.length = D.lasts.length := by rw [g2.sh.2, hl1]
      have hoth : ∀ i, i < D.lasts.length -> i ≠ slotM J -> strAt D2.lasts i = strAt D1.lasts i := fun i hi hne => by
        rcases d2 i (by rw [hl1]; exact hi) with hx | ⟨q1, q2, _⟩
        . exact hx
        . rw [List.length_singleton] at q2; omega
      have hlow : ∀ i, i < 2 -> strAt D1.lasts i = strAt D.lasts i := fun i hi => by rw [a1' i (by omega), if_neg (by omega)]
      have hreg : ∀ i, i < sizeM D -> strAt D2.lasts (2 + J.half * sizeM D + i) = strAt D.lasts (2 + J.half * sizeM D + i) := fun i hi => by
        rw [hoth _ (by omega) (by omega), a1' _ (by omega), if_neg (by omega)]
      have hmid : ∀ i, 2 <= i -> i < D.lasts.length -> strAt D2.lasts i = strAt D.lasts i \/ (firstM D (1 - J.half) <= i /\ i < firstM D (1 - J.half) + needsM bs /\ (strAt D2.lasts i = strAt (allM (J.gen + 1) 0 bs) (i - firstM D (1 - J.half)) \/ Dust (strAt D2.lasts i))) := fun i h2 hi => by
        rw [hoth i hi (by omega), a1' i hi]
        split
        . rename_i hr
          exact .inr ⟨hr.1, hr.2, .inl rfl⟩
        . exact .inl rfl
      rcases d2 (slotM J) (by rw [hl1]; omega) with hx | ⟨_, _, hx | hx⟩
      . rw [hlow _ (by omega)] at hx
        have hlo2 : ∀ i, i < 2 -> strAt D2.lasts i = strAt D.lasts i := fun i hi => by
          by_cases h : i = slotM J
          . rw [h]; exact hx
          . rw [hoth i (by omega) h, hlow i hi]
        have e0 : hdsL D2.lasts = hdsL D.lasts := hds_same (hlo2 0 (by omega)) (hlo2 1 (by omega))
        refine ⟨.inl (recL_same hl2 hz.1 (by rw [e0]) (by rw [e0]) (by rw [e0]) (by rw [<- hh]; exact hreg)), hmost hl2 (by rw [e0]; omega) hmid⟩
      . rw [Nat.sub_self] at hx
        have hx' : strAt D2.lasts (slotM J) = secH (J.gen + 1) (1 - J.half) := hx
        have hlive : Live D2.lasts (sizeM D) ⟨J.gen + 1, 1 - J.half, slotM J, needsM bs, bs.length, false⟩ bs := by
          refine reset_live (L := D.lasts) hl2 hz.1 hho (by rw [hs]; exact (hds_ok _).slot) (by omega) (by omega) hzb hlen hm (fun i hi => ?_)
          by_cases hi2 : i = slotM J
          . rw [if_pos hi2, hi2]; exact hx'
          . rw [if_neg hi2, hoth i hi hi2, a1' i hi, hfi]
        exact ⟨.inr (hlive.tells hzb), Nat.le_of_eq hlive.most⟩
      . have e0 := hds_dust (L := D.lasts) (L' := D2.lasts) (s := slotM J) (by unfold slotM; rw [hs]) hx.2 (by rw [hoth _ (by omega) (by omega), hlow _ (by omega)])
        exact ⟨.inl (recL_same hl2 hz.1 e0.1 e0.2.1 e0.2.2.1 (by rw [<- hh]; exact hreg)), hmost hl2 (by have := e0.2.2.2; omega) hmid⟩
  . rw [if_pos (by rw [e1]; decide)] at hrs hn
    rw [e1] at hrs
    refine .inr ⟨_, hrs, g1, ?_⟩
    have d1 := s1.dam hw hn
    generalize (layJ D (firstM D (1 - J.half)) (allM (J.gen + 1) 0 bs)).1 = D1 at *
    have hl1 : D1.lasts.length = D.lasts.length := g1.sh.2
    unfold Dam at d1
    rw [allM_len] at d1
    have hlow : ∀ i, i < D.lasts.length -> ¬ (firstM D (1 - J.half) <= i /\ i < firstM D (1 - J.half) + needsM bs) -> strAt D1.lasts i = strAt D.lasts i := fun i hi hne => by
      rcases d1 i hi with hx | ⟨q1, q2, _⟩
      . exact hx
      . exact absurd ⟨q1, q2⟩ hne
    have e0 : hdsL D1.lasts = hdsL D.lasts := hds_same (hlow 0 (by omega) (by omega)) (hlow 1 (by omega) (by omega))
    exact ⟨.inl (recL_same hl1 hz.1 (by rw [e0]) (by rw [e0]) (by rw [e0]) (fun i hi => hlow _ (by rw [<- hh]; omega) (by rw [<- hh]; omega))), hmost hl1 (by rw [e0]; omega) (fun i h2 hi => d1 i hi)⟩

end Go.Proofs.YtmbpjgjajedonaaGreatDoor
namespace Go.Proofs.YtmbpjgjajedonaaGreatDoor
set_option linter.all false
set_option maxRecDepth 4000
open Go.RowKit

theorem resetT_ok {D : Dk} {J : Jn} {bs : List B8} (h : (resetM D J bs).2.2 = 0) : resetT D J bs = [] := by
  unfold resetM at h
  unfold resetT
  split
  . rfl
  . rename_i h1
    rw [if_neg h1] at h
    split
    . rfl
    . rename_i h2
      rw [if_neg h2] at h
      split
      . rfl
      . rename_i h3
        rw [if_neg h3] at h
        split
        . rename_i h4
          rw [if_pos h4] at h
          exact absurd h h4
        . rename_i h4
          rw [if_neg h4] at h
          split at h
          . rename_i h5
            exact absurd h h5
          . rename_i h5
            exact layT_ok _ _ (Decidable.not_not.1 h5)
theorem openT_ok {D : Dk} (h : (openM D).2.2.2 = 0) : openT D = [] := by
  unfold openM at h
  unfold openT
  split
  . rfl
  . rename_i h1
    rw [if_neg h1] at h
    split
    . rfl
    . rename_i h2
      rw [if_neg h2] at h
      split at h
      . rename_i h3
        exact absurd h h3
      . rename_i h3
        exact resetT_ok (Decidable.not_not.1 h3)
def cutD (D : Dk) (n : Int) (l : Ls) : Dk := { D with left := max 0 n, loss := l }
theorem crash_w {D : Dk} (hw : D.W = []) (l : Ls) : Qt (crashM D l) /\ (crashM D l).W = [] /\ (crashM D l).lasts = D.lasts /\ (crashM D l).limit = D.limit := by
  by_cases ho : D.off = true
  . have e : crashM D l = { D with off := false, left := 0 } := by unfold crashM; rw [if_pos ho]
    rw [e]
    exact ⟨⟨rfl, rfl⟩, hw, rfl, rfl⟩
  . have e : crashM D l = { loseM D l with off := false, left := 0 } := by unfold crashM; rw [if_neg ho]
    rw [e]
    refine ⟨⟨rfl, rfl⟩, rfl, ?_, rfl⟩
    refine strAt_ext (by simp [loseM]) (fun i hi => ?_)
    have hi' : i < D.lasts.length := by simpa [loseM] using hi
    show strAt (loseM D l).lasts i = _
    rw [loseM_at l hi']
    unfold loseAt
    rw [hw]; rfl
theorem open_rest {D : Dk} (q : Qt D) (hw : D.W = []) (h4 : 4 <= D.lasts.length) (h8 : D.lasts.length <= 4000) (hlim : D.limit = D.lasts.length) (hg : mostL D.lasts (sizeM D) < 4294967295) :
    ∃ D' J, openM D = (D', some J, recL D.lasts (sizeM D), 0) /\ openT D = [] /\ Qt D' /\ D'.W = [] /\ Shp D D' /\ Live D'.lasts (sizeM D) J (recL D.lasts (sizeM D)) /\ J.gen = mostL D.lasts (sizeM D) + 1 := by
  have hcn := curL_nil q.off hw
  have hz := size_fit h4
  have hzs : sizeM D <= 2383 := by unfold sizeM; omega
  have hor : openR D = recL D.lasts (sizeM D) := by unfold openR; rw [hcn]
  have hoj : openJ D = ⟨mostL D.lasts (sizeM D), (hdsL D.lasts).half, (hdsL D.lasts).slot, 0, 0, false⟩ := by unfold openJ headsM; rw [hcn]
  have hhalf := (hds_ok D.lasts).half
  have hmul := half_mul hhalf (sizeM D)
  have hfit := fit_ok D
  have hrm : roomM D = D.lasts.length := by unfold roomM; omega
  have hnf : ¬ fullM D (openJ D) (openR D) := by
    rw [fullM_iff, hrm, hoj]
    unfold firstM
    simp only
    omega
  rcases open_qt q h4 (by omega) (lens_ok hzs) hfit with h | ⟨_, D', J, o⟩
  . exact absurd h.1 hnf
  . obtain ⟨oe, oq, ow, os, ol, og⟩ := o
    rw [hor] at oe ol
    rw [hoj] at og
    exact ⟨D', J, oe, openT_ok (by rw [oe]), oq, ow, os, ol, og⟩
theorem needs_cuts : ∀ (bs : List B8), (∀ b ∈ bs, b.length <= 200) -> needsM bs <= 2 * bs.length
  | [], _ => Nat.le_refl _
  | b :: bs, h => by
    have h1 := h b (by simp)
    have h2 := needs_cuts bs (fun x hx => h x (by simp [hx]))
    have h3 : needM b.length <= 2 := by unfold needM; split <;> omega
    rw [needsM, List.length_cons]; omega
structure Rs (one two : List B8) (n : Int) (l : Ls) (D1 : Dk) (J1 : Jn) (D2 : Dk) (J2 : Jn) : Prop where
  o1 : openM (newM 60) = (D1, some J1, [], 0)
  t1 : openT (newM 60) = []
  r2 : resetM D1 J1 one = (D2, J2, 0)
  t2 : resetT D1 J1 one = []
  fin : NotMix (resetT (cutD D2 n l) J2 two ++ crashT (resetM (cutD D2 n l) J2 two).1 l) -> ∃ D5 J5 bs, openM (crashM (resetM (cutD D2 n l) J2 two).1 l) = (D5, some J5, bs, 0) ∧
    (((resetM (cutD D2 n l) J2 two).2.2 = 0 /\ bs = two) \/ ((resetM (cutD D2 n l) J2 two).2.2 = 10 /\ (bs = one \/ bs = two)))
theorem resets {one two : List B8} (h1 : ∀ b ∈ one, b.length <= 200) (h1n : one.length <= 8) (h2 : ∀ b ∈ two, b.length <= 200) (h2n : two.length <= 8) (n : Int) (l : Ls) : ∃ D1 J1 D2 J2, Rs one two n l D1 J1 D2 J2 := by
  have n1 := needs_cuts one h1
  have n2 := needs_cuts two h2
  have hl0 : (newM 60).lasts.length = 60 := by simp [newM, layM]; decide
  have hm0 : (newM 60).limit = 60 := rfl
  have hz : ∀ {D : Dk}, D.lasts.length = 60 -> sizeM D = 29 := fun h => by unfold sizeM; rw [h]
  have hrm : ∀ {D : Dk}, D.lasts.length = 60 -> D.limit = 60 -> roomM D = 60 := fun h h' => by unfold roomM; rw [h, h']; rfl
  obtain ⟨e1, e2, e3, e4⟩ := new_open 60
  have hcn : curL (newM 60) = (newM 60).lasts := curL_nil rfl rfl
  have hm : mostL (newM 60).lasts 29 = 0 := by have : (openJ (newM 60)).gen = mostL (curL (newM 60)) (sizeM (newM 60)) := rfl; rw [hcn, hz hl0, e2] at this; exact this.symm
  have hr : recL (newM 60).lasts 29 = [] := by have : openR (newM 60) = recL (curL (newM 60)) (sizeM (newM 60)) := rfl; rw [hcn, hz hl0, e1] at this; exact this.symm
  obtain ⟨D1, J1, o1, t1, q1, w1, s1, l1, g1⟩ := open_rest (qt_new 60) rfl (by omega) (by omega) (by rw [hm0, hl0]; rfl) (by rw [hz hl0, hm]; decide)
  rw [hz hl0] at o1 l1 g1
  rw [hr] at o1 l1
  rw [hm] at g1
  have hl1 : D1.lasts.length = 60 := by rw [s1.2]; exact hl0
  have hm1 : D1.limit = 60 := by rw [s1.1]; exact hm0
  have hds1 := l1.hd
  have hh1 := l1.half
  have hf1 : ¬ fullM D1 J1 one := by
    rw [fullM_iff, hz hl1, hrm hl1 hm1]
    have := half_mul hh1 29
    unfold firstM
    rw [hz hl1]
    omega
  obtain ⟨D2, r2, q2, w2, s2, a2⟩ := reset_qt q1 (by omega) hh1 l1.open_ (bs := one) (fun b hb => by have := h1 b hb; omega) hf1
  have l2 := reset_live (L := D1.lasts) (L' := D2.lasts) (z := 29) (J := J1) (bs := one) (by rw [s2.2]) (by omega) hh1 (.inr l1.s) (by omega) (by omega) (by omega) (fun b hb => by have := h1 b hb; omega) (by rw [l1.most]; exact Nat.le_refl _) (fun i hi => by
    have := a2 i hi
    rw [curAt_nil w1] at this
    rw [this]
    unfold firstM
    rw [hz hl1])
  have hl2 : D2.lasts.length = 60 := by rw [s2.2]; exact hl1
  have hm2 : D2.limit = 60 := by rw [s2.1]; exact hm1
  refine ⟨D1, J1, D2, _, o1, t1, r2, resetT_ok (by rw [r2]), fun hn => ?_⟩
  generalize hJ2 : (⟨J1.gen + 1, 1 - J1.half, slotM J1, needsM one, one.length, false⟩ : Jn) = J2 at *
  have hg2 : J2.gen = 2 := by rw [<- hJ2]; simp only; omega
  have hds2 := l2.hd
  have hh2 := l2.half
  have hl3 : (cutD D2 n l).lasts.length = 60 := hl2
  have hm3 : (cutD D2 n l).limit = 60 := hm2
  have hf2 : ¬ fullM (cutD D2 n l) J2 two := by
    rw [fullM_iff, hz hl3, hrm hl3 hm3]
    have := half_mul hh2 29
    unfold firstM
    rw [hz hl3]
    omega
  have key := reset_any (D := cutD D2 n l) q2.off w2 (by omega) (by omega) (J := J2) l2.open_ (bs := two) (fun b hb => by have := h2 b hb; omega) hf2 (by rw [hz hl3]; exact Nat.le_of_eq l2.most) (by show J2.half = (hdsL D2.lasts).half; rw [hds2]) (by show J2.slot = (hdsL D2.lasts).slot; rw [hds2]) hn.left
  rw [hz hl3] at key
  have hrec2 : recL (cutD D2 n l).lasts 29 = one := l2.tells (by omega)
  -- behind it
  have fin : ∀ D3 : Dk, D3.W = [] -> Shp (cutD D2 n l) D3 -> mostL D3.lasts 29 < 4294967295 -> ∃ D5 J5, openM (crashM D3 l) = (D5, some J5, recL D3.lasts 29, 0) := by
    intro D3 w3 s3 hmm
    obtain ⟨c1, c2, c3, c4⟩ := crash_w w3 l
    have hl4 : (crashM D3 l).lasts.length = 60 := by rw [c3, s3.2]; exact hl3
    have hm4 : (crashM D3 l).limit = 60 := by rw [c4, s3.1]; exact hm3
    obtain ⟨D5, J5, o5, _⟩ := open_rest c1 c2 (by omega) (by omega) (by rw [hl4, hm4]; rfl) (by rw [hz hl4, c3]; exact hmm)
    rw [hz hl4, c3] at o5
    exact ⟨D5, J5, o5⟩
  rcases key with ⟨D3, e, k, lv⟩ | ⟨D3, e, g, hr3, hm3'⟩
  . rw [e]
    obtain ⟨D5, J5, o5⟩ := fin D3 k.w k.sh (by have hmo := lv.most; simp only at hmo; omega)
    rw [lv.tells (by omega)] at o5
    exact ⟨D5, J5, two, o5, .inl ⟨rfl, rfl⟩⟩
  . rw [e]
    obtain ⟨D5, J5, o5⟩ := fin D3 g.w g.sh (by omega)
    refine ⟨D5, J5, _, o5, .inr ⟨rfl, ?_⟩⟩
    rcases hr3 with h | h
    . exact .inl (by rw [h, hrec2])
    . exact .inr h
end Go.Proofs.YtmbpjgjajedonaaGreatDoor
