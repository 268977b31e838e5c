/- Layer 6, plain: Reset, Open and Append of a journal whose power may fail. -/
import Derived.Test.YtmbpjgjajedonaaGreatDoorJpG
import Derived.Test.YtmbpjgjajedonaaGreatDoorJoI
namespace Go.Proofs.YtmbpjgjajedonaaGreatDoor
set_option linter.all false
set_option maxRecDepth 4000
open Go.RowKit

def Dust (s : B8) : Prop := cellM s = none /\ headM s = none
def NotMix (T : List Tr) : Prop := ∀ t ∈ T, t.got = t.old \/ t.got = t.new \/ Dust t.got
theorem NotMix.left {A B : List Tr} (h : NotMix (A ++ B)) : NotMix A := fun t ht => h t (List.mem_append_left _ ht)
theorem NotMix.right {A B : List Tr} (h : NotMix (A ++ B)) : NotMix B := fun t ht => h t (List.mem_append_right _ ht)
theorem lose_mem {D : Dk} {l : Ls} {i : Nat} {s : B8} (hw : wGet D.W (i : Nat) = some s) (hk : (kAt D.W i : Int) = l.torn) : ∀ n, i < n -> (⟨strAt D.lasts i, s, loseAt D.W l D.lasts i⟩ : Tr) ∈ loseTo D l n
  | 0, h => by omega
  | n + 1, h => by
    by_cases hi : i = n
    . subst hi
      rw [(loseTo_torn hw).1 hk]
      exact List.mem_append_right _ (List.mem_singleton.2 rfl)
    . have ih := lose_mem hw hk n (by omega)
      cases hn : wGet D.W (n : Nat) with
      | none => rw [loseTo_none hn]; exact ih
      | some x =>
        by_cases hk2 : (kAt D.W n : Int) = l.torn
        . rw [(loseTo_torn hn).1 hk2]; exact List.mem_append_left _ ih
        . rw [(loseTo_torn hn).2 hk2]; exact ih
theorem loseM_at {D : Dk} (l : Ls) {i : Nat} (hi : i < D.lasts.length) : strAt (loseM D l).lasts i = loseAt D.W l D.lasts i := by unfold strAt loseM; simp [hi]
theorem lose_at {D : Dk} (l : Ls) {i : Nat} (hi : i < D.lasts.length) : strAt (loseM D l).lasts i = strAt D.lasts i \/ ∃ s, wGet D.W (i : Nat) = some s /\ (strAt (loseM D l).lasts i = s \/ (⟨strAt D.lasts i, s, strAt (loseM D l).lasts i⟩ : Tr) ∈ loseT D l) := by
  rw [loseM_at l hi]
  cases hw : wGet D.W (i : Nat) with
  | none => left; unfold loseAt; rw [hw]
  | some s =>
    by_cases hk : (kAt D.W i : Int) = l.torn
    . exact .inr ⟨s, rfl, .inr (lose_mem hw hk _ hi)⟩
    . have e : loseAt D.W l D.lasts i = loseOne l (kAt D.W i) (strAt D.lasts i) s := by unfold loseAt; rw [hw]
      rw [e]
      unfold loseOne
      rw [if_neg hk]
      split
      . exact .inr ⟨s, rfl, .inl rfl⟩
      . exact .inl rfl
structure Gone (D D' : Dk) : Prop where
  off : D'.off = true
  w : D'.W = []
  sh : Shp D D'
  left : D.left ≠ 0
structure Kept (D D' : Dk) : Prop where
  off : D'.off = false
  w : D'.W = []
  sh : Shp D D'
  left : D.left = 0 -> D'.left = 0
def Sec (D : Dk) (a : Nat) (ss : List B8) (T : List Tr) (D' : Dk) : Prop := ∀ i, i < D.lasts.length -> strAt D'.lasts i = strAt D.lasts i \/ ∃ s, (wGet D.W (i : Nat) = some s \/ (a <= i /\ i < a + ss.length /\ s = strAt ss (i - a))) /\ (strAt D'.lasts i = s \/ (⟨strAt D.lasts i, s, strAt D'.lasts i⟩ : Tr) ∈ T)
theorem cut_cases (D : Dk) : (cutM D).1.W = D.W /\ (cutM D).1.lasts = D.lasts /\ (cutM D).1.off = D.off /\ (cutM D).1.limit = D.limit /\ (D.left = 0 -> (cutM D).2 = false /\ (cutM D).1.left = 0) := by
  unfold cutM
  split
  . exact ⟨rfl, rfl, rfl, rfl, fun h => ⟨rfl, h⟩⟩
  . exact ⟨rfl, rfl, rfl, rfl, fun h => absurd h Zp⟩
theorem fail_sec {D : Dk} (hc : (cutM D).2 = true) (a : Nat) (ss : List B8) : Gone D (failM (cutM D).1) /\ Sec D a ss (cutT D) (failM (cutM D).1) := by
  obtain ⟨h1, h2, h3, h4, h5⟩ := cut_cases D
  refine ⟨⟨rfl, rfl, ⟨h4, by show (loseM _ _).lasts.length = _; simp [loseM, h2]⟩, fun h => by rw [(h5 h).1] at hc; cases hc⟩, fun i hi => ?_⟩
  have ht : cutT D = loseT (cutM D).1 (cutM D).1.loss := by unfold cutT; rw [if_pos hc]
  have hx := lose_at (D := (cutM D).1) (cutM D).1.loss (i := i) (by rw [h2]; exact hi)
  rw [h1, h2, ← ht] at hx
  rcases hx with hx | ⟨s, hw, hx⟩
  . exact .inl hx
  . exact .inr ⟨s, .inl hw, hx⟩
theorem flush_any {D : Dk} (ho : D.off = false) : ((flushM D).2 = 0 /\ Kept D (flushM D).1 /\ flushT D = [] /\ ∀ i, i < D.lasts.length -> strAt (flushM D).1.lasts i = curAt D i) ∨
    ((flushM D).2 = 10 /\ Gone D (flushM D).1 /\ ∀ a ss, Sec D a ss (flushT D) (flushM D).1) := by
  obtain ⟨h1, h2, h3, h4, h5⟩ := cut_cases D
  have e : flushM D = if (cutM D).2 then (failM (cutM D).1, 10) else (flushD (cutM D).1, 0) := by unfold flushM; rw [if_neg (by rw [ho]; decide)]
  have et : flushT D = cutT D := by unfold flushT; rw [if_neg (by rw [ho]; decide)]
  by_cases hc : (cutM D).2 = true
  . right
    rw [e, if_pos hc, et]
    exact ⟨rfl, (fail_sec hc 0 []).1, fun a ss => (fail_sec hc a ss).2⟩
  . left
    rw [e, if_neg hc, et]
    refine ⟨rfl, ⟨h3.trans ho, rfl, ⟨h4, by simp [flushD, h2]⟩, fun h => (h5 h).2⟩, by unfold cutT; rw [if_neg hc], fun i hi => ?_⟩
    rw [flushD_at (by rw [h2]; exact hi)]
    unfold curAt; rw [h1, h2]
theorem write_any {D : Dk} (ho : D.off = false) {a : Nat} {s : B8} (hs : s.length = 128) (ha : (a : Int) < roomM D) :
    ((writeM D (a : Nat) s).2 = 0 /\ (writeM D (a : Nat) s).1.off = false /\ Shp D (writeM D (a : Nat) s).1 /\ (D.left = 0 -> (writeM D (a : Nat) s).1.left = 0) /\ (writeM D (a : Nat) s).1.lasts = D.lasts /\ ∀ i : Nat, wGet (writeM D (a : Nat) s).1.W (i : Nat) = if i = a then some s else wGet D.W (i : Nat)) ∨
    ((writeM D (a : Nat) s).2 = 10 /\ Gone D (writeM D (a : Nat) s).1 /\ ∀ ss, Sec D a (s :: ss) (writeT D (a : Nat) s) (writeM D (a : Nat) s).1) := by
  have hr := room_le D
  have hf := fails_in (D := D) ho (a := a) (by omega)
  obtain ⟨h1, h2, h3, h4, h5⟩ := cut_cases (putD D (a : Nat) s)
  have e : writeM D (a : Nat) s = if (cutM (putD D (a : Nat) s)).2 then (failM (cutM (putD D (a : Nat) s)).1, 10) else ((cutM (putD D (a : Nat) s)).1, 0) := by
    unfold writeM; rw [if_neg (by simp [hf]), if_neg (by simp [hs]), if_neg (by omega)]
  have et : writeT D (a : Nat) s = cutT (putD D (a : Nat) s) := by unfold writeT; rw [if_neg (by simp [hf]), if_neg (by simp [hs]), if_neg (by omega)]
  have hg : ∀ i : Nat, wGet (putD D (a : Nat) s).W (i : Nat) = if i = a then some s else wGet D.W (i : Nat) := fun i => by
    unfold putD
    simp only [wPut_get]
    by_cases hi : i = a
    . subst hi; simp
    . rw [if_neg (by omega), if_neg hi]
  by_cases hc : (cutM (putD D (a : Nat) s)).2 = true
  . right
    rw [e, if_pos hc, et]
    obtain ⟨g, _⟩ := fail_sec hc 0 []
    refine ⟨rfl, ⟨g.off, g.w, ⟨g.sh.1, g.sh.2⟩, g.left⟩, fun ss i hi => ?_⟩
    rcases (fail_sec hc 0 []).2 i hi with hx | ⟨x, hw | ⟨_, hw, _⟩, hx⟩
    . exact .inl hx
    . rw [hg i] at hw
      by_cases hi : i = a
      . rw [if_pos hi] at hw
        injection hw with hw
        exact .inr ⟨x, .inr ⟨by omega, by rw [List.length_cons]; omega, by rw [hi, Nat.sub_self, ← hw]; rfl⟩, hx⟩
      . rw [if_neg hi] at hw
        exact .inr ⟨x, .inl hw, hx⟩
    . simp only [List.length_nil] at hw; omega
  . left
    rw [e, if_neg hc]
    refine ⟨rfl, h3.trans ho, ⟨h4, by rw [h2]; rfl⟩, fun h => (h5 h).2, h2, fun i => ?_⟩
    simp only
    rw [h1]; exact hg i
theorem layJ_any : ∀ (ss : List B8) (D : Dk) (a : Nat), D.off = false -> (∀ s ∈ ss, s.length = 128) -> (ss ≠ [] -> ((a + ss.length : Nat) : Int) <= roomM D) →
    ((layJ D a ss).2 = 0 /\ Kept D (layJ D a ss).1 /\ layT D a ss = [] /\ ∀ i, i < D.lasts.length -> strAt (layJ D a ss).1.lasts i = if a <= i /\ i < a + ss.length then strAt ss (i - a) else curAt D i) ∨
    ((layJ D a ss).2 = 10 /\ Gone D (layJ D a ss).1 /\ Sec D a ss (layT D a ss) (layJ D a ss).1)
  | [], D, a, ho, _, _ => by
    rw [layJ, layT]
    rcases flush_any ho with ⟨h1, h2, h3, h4⟩ | ⟨h1, h2, h3⟩
    . exact .inl ⟨h1, h2, h3, fun i hi => by rw [h4 i hi, if_neg (by simp only [List.length_nil]; omega)]⟩
    . exact .inr ⟨h1, h2, h3 a []⟩
  | s :: ss, D, a, ho, hs, hr => by
    have hr1 := hr (by simp)
    simp only [List.length_cons] at hr1
    rcases write_any ho (hs s (by simp)) (show (a : Int) < roomM D by omega) with ⟨h1, h2, h3, h4, h5, h6⟩ | ⟨h1, h2, h3⟩
    . rw [layJ, layT, if_neg (by rw [h1]; decide), if_neg (by rw [h1]; decide)]
      have hrm : roomM (writeM D (a : Nat) s).1 = roomM D := by unfold roomM; rw [h3.1, h3.2]
      generalize (writeM D (a : Nat) s).1 = D1 at *
      rcases layJ_any ss D1 (a + 1) h2 (fun x hx => hs x (by simp [hx])) (fun _ => by rw [hrm]; omega) with ⟨g1, g2, g3, g4⟩ | ⟨g1, g2, g3⟩
      . refine .inl ⟨g1, ⟨g2.off, g2.w, h3.trans g2.sh, fun h => g2.left (h4 h)⟩, g3, fun i hi => ?_⟩
        rw [g4 i (by rw [h5]; exact hi), List.length_cons]
        by_cases hi1 : i = a
        . subst hi1
          rw [if_neg (by omega), if_pos (by omega), Nat.sub_self]
          unfold curAt; rw [h6, if_pos rfl]; rfl
        . have hcu : curAt D1 i = curAt D i := by unfold curAt; rw [h6, if_neg hi1, h5]
          by_cases hi2 : a + 1 <= i /\ i < a + 1 + ss.length
          . rw [if_pos hi2, if_pos (by omega), show i - a = (i - (a + 1)) + 1 by omega]; rfl
          . rw [if_neg hi2, if_neg (by omega), hcu]
      . refine .inr ⟨g1, ⟨g2.off, g2.w, h3.trans g2.sh, fun h => g2.left (h4 h)⟩, fun i hi => ?_⟩
        rcases g3 i (by rw [h5]; exact hi) with hx | ⟨x, hw, hx⟩
        . exact .inl (by rw [hx, h5])
        . rw [h5] at hx
          refine .inr ⟨x, ?_, hx⟩
          rcases hw with hw | ⟨k1, k2, k3⟩
          . rw [h6] at hw
            by_cases hi1 : i = a
            . rw [if_pos hi1] at hw
              injection hw with hw
              exact .inr ⟨by omega, by rw [List.length_cons]; omega, by rw [hi1, Nat.sub_self, ← hw]; rfl⟩
            . rw [if_neg hi1] at hw; exact .inl hw
          . exact .inr ⟨by omega, by rw [List.length_cons]; omega, by rw [k3, show i - a = (i - (a + 1)) + 1 by omega]; rfl⟩
    . rw [layJ, layT, if_pos (by rw [h1]; decide), if_pos (by rw [h1]; decide)]
      exact .inr ⟨h1, h2, h3 ss⟩
def Dam (a : Nat) (ss : List B8) (L L' : List B8) : Prop := ∀ i, i < L.length -> strAt L' i = strAt L i \/ (a <= i /\ i < a + ss.length /\ (strAt L' i = strAt ss (i - a) \/ Dust (strAt L' i)))
theorem Sec.dam {D D' : Dk} {a : Nat} {ss : List B8} {T : List Tr} (h : Sec D a ss T D') (hw : D.W = []) (hm : NotMix T) : Dam a ss D.lasts D'.lasts := fun i hi => by
  rcases h i hi with hx | ⟨s, hs | ⟨k1, k2, k3⟩, hx⟩
  . exact .inl hx
  . rw [hw] at hs; cases hs
  . subst k3
    rcases hx with hx | hx
    . exact .inr ⟨k1, k2, .inl hx⟩
    . rcases hm _ hx with hm | hm | hm
      . exact .inl hm
      . exact .inr ⟨k1, k2, .inl hm⟩
      . exact .inr ⟨k1, k2, .inr hm⟩
theorem layJ_dam {D : Dk} {a : Nat} {ss : List B8} (ho : D.off = false) (hw : D.W = []) (hs : ∀ s ∈ ss, s.length = 128) (hr : ss ≠ [] -> ((a + ss.length : Nat) : Int) <= roomM D) (hm : NotMix (layT D a ss)) :
    ((layJ D a ss).2 = 0 /\ Kept D (layJ D a ss).1 /\ ∀ i, i < D.lasts.length -> strAt (layJ D a ss).1.lasts i = if a <= i /\ i < a + ss.length then strAt ss (i - a) else strAt D.lasts i) ∨
    ((layJ D a ss).2 = 10 /\ Gone D (layJ D a ss).1 /\ Dam a ss D.lasts (layJ D a ss).1.lasts) := by
  rcases layJ_any ss D a ho hs hr with ⟨h1, h2, _, h4⟩ | ⟨h1, h2, h3⟩
  . exact .inl ⟨h1, h2, fun i hi => by rw [h4 i hi, curAt_nil hw]⟩
  . exact .inr ⟨h1, h2, h3.dam hw hm⟩

theorem regL_same {L L' : List B8} {z f : Nat} (hl : L'.length = L.length) (hz : 2 + 2 * z <= L.length) (hf : f <= 1) (h : ∀ i, i < z -> strAt L' (2 + f * z + i) = strAt L (2 + f * z + i)) : regL L' z f = regL L z f := by
  refine strAt_ext (by rw [regL_len (by omega) hf, regL_len hz hf]) (fun i hi => ?_)
  rw [regL_len (by omega) hf] at hi
  rw [regL_at hi, regL_at hi]; exact h i hi
theorem recL_same {L L' : List B8} {z : Nat} (hl : L'.length = L.length) (hz : 2 + 2 * z <= L.length) (hc : (hdsL L').cur = (hdsL L).cur) (hh : (hdsL L').half = (hdsL L).half) (hs : (hdsL L').slot = (hdsL L).slot)
    (h : ∀ i, i < z -> strAt L' (2 + (hdsL L).half * z + i) = strAt L (2 + (hdsL L).half * z + i)) : recL L' z = recL L z := by
  unfold recL
  rw [hc, hh, hs, regL_same hl hz (hds_ok L).half h]
theorem hds_same {L L' : List B8} (h0 : strAt L' 0 = strAt L 0) (h1 : strAt L' 1 = strAt L 1) : hdsL L' = hdsL L := by unfold hdsL; rw [h0, h1]
theorem hds_dust {L L' : List B8} {s : Nat} (hs : s = if (hdsL L).slot = 0 then 1 else 0) (hd : headM (strAt L' s) = none) (ho : strAt L' (1 - s) = strAt L (1 - s)) : (hdsL L').cur = (hdsL L).cur /\ (hdsL L').half = (hdsL L).half /\ (hdsL L').slot = (hdsL L).slot /\ (hdsL L').most <= (hdsL L).most := by
  have key : ∀ (a b : Option (Nat × Nat)) (x y : B8), headM x = a -> headM y = b -> strAt L 0 = x -> strAt L 1 = y -> (hdsL L').cur = (hdsL L).cur /\ (hdsL L').half = (hdsL L).half /\ (hdsL L').slot = (hdsL L).slot /\ (hdsL L').most <= (hdsL L).most := by
    intro a b x y hx hy h0 h1
    have e : hdsL L = scanH 1 y (scanH 0 x ⟨0, 0, 1, -1⟩) := by unfold hdsL; rw [h0, h1]
    have e' : hdsL L' = scanH 1 (strAt L' 1) (scanH 0 (strAt L' 0) ⟨0, 0, 1, -1⟩) := rfl
    rcases a with _ | ⟨g, f⟩
    . rw [scanH_none hx] at e
      rcases b with _ | ⟨g', f'⟩
      . rw [scanH_none hy] at e
        rw [e] at hs ⊢
        simp only [Int.reduceNeg, Int.reduceEq, if_false] at hs
        subst hs
        rw [scanH_none hd] at e'
        rw [show strAt L' 1 = y by rw [<- h1]; exact ho, scanH_none hy] at e'
        rw [e']; exact ⟨rfl, rfl, rfl, Nat.le_refl _⟩
      . obtain ⟨_, q1, q2, q3⟩ := head_some hy
        rw [scanH_some hy, if_pos (by simp only; omega)] at e
        have hs0 : s = 0 := by rw [hs, e]; rfl
        subst hs0
        rw [scanH_none hd, show strAt L' 1 = y by rw [<- h1]; exact ho, scanH_some hy, if_pos (by simp only; omega)] at e'
        rw [e, e']; exact ⟨rfl, rfl, rfl, Nat.le_refl _⟩
    . obtain ⟨_, p1, p2, p3⟩ := head_some hx
      rw [scanH_some hx, if_pos (by simp only; omega)] at e
      rcases b with _ | ⟨g', f'⟩
      . rw [scanH_none hy] at e
        have hs0 : s = 1 := by rw [hs, e]; rfl
        subst hs0
        rw [show strAt L' 0 = x by rw [<- h0]; exact ho, scanH_some hx, if_pos (by simp only; omega), scanH_none hd] at e'
        rw [e, e']; exact ⟨rfl, rfl, rfl, Nat.le_refl _⟩
      . obtain ⟨_, q1, q2, q3⟩ := head_some hy
        rw [scanH_some hy] at e
        simp only at e
        by_cases hlt : max 0 g < g'
        . rw [if_pos (by omega)] at e
          have hs0 : s = 0 := by rw [hs, e]; rfl
          subst hs0
          rw [scanH_none hd, show strAt L' 1 = y by rw [<- h1]; exact ho, scanH_some hy, if_pos (by simp only; omega)] at e'
          rw [e, e']; exact ⟨rfl, rfl, rfl, by simp only; omega⟩
        . rw [if_neg (by omega)] at e
          have hs0 : s = 1 := by rw [hs, e]; rfl
          subst hs0
          rw [show strAt L' 0 = x by rw [<- h0]; exact ho, scanH_some hx, if_pos (by simp only; omega), scanH_none hd] at e'
          rw [e, e']; exact ⟨rfl, rfl, rfl, by simp only; omega⟩
  exact key _ _ _ _ rfl rfl rfl rfl
end Go.Proofs.YtmbpjgjajedonaaGreatDoor
