/- Layer 6, plain: a journal whose power does not fail. -/
import Derived.Test.YtmbpjgjajedonaaDoorJoN
namespace Go.Proofs.YtmbpjgjajedonaaDoor
set_option linter.all false
set_option maxRecDepth 4000
open Go.RowKit

def curAt (D : Dk) (i : Nat) : B8 := (wGet D.W (i : Nat)).getD (strAt D.lasts i)
structure Qt (D : Dk) : Prop where
  off : D.off = false
  left : D.left = 0
theorem room_le (D : Dk) : roomM D <= D.lasts.length := by unfold roomM; omega
theorem fails_in {D : Dk} (q : D.off = false) {a : Nat} (ha : a < D.lasts.length) : failsM D (a : Nat) = 0 := by unfold failsM; rw [q, if_neg (by decide), if_neg (by omega)]
theorem write_qt {D : Dk} (q : Qt D) {a : Nat} {s : B8} (hs : s.length = 128) (ha : (a : Int) < roomM D) : writeM D (a : Nat) s = (putD D (a : Nat) s, 0) := by
  have hr := room_le D
  have h1 : failsM D (a : Nat) = 0 := fails_in q.off (by omega)
  have h3 : cutM (putD D (a : Nat) s) = (putD D (a : Nat) s, false) := by unfold cutM; exact if_pos q.left
  unfold writeM
  rw [if_neg (by simp [h1]), if_neg (by simp [hs]), if_neg (by omega), h3]
  rfl
theorem curAt_put (D : Dk) (a : Nat) (s : B8) (i : Nat) : curAt (putD D (a : Nat) s) i = if i = a then s else curAt D i := by
  unfold curAt putD
  simp only [wPut_get]
  by_cases h : i = a
  . subst h; simp
  . rw [if_neg (by omega), if_neg h]
theorem flush_qt {D : Dk} (q : Qt D) : flushM D = (flushD D, 0) := by
  have h3 : cutM D = (D, false) := by unfold cutM; rw [if_pos q.left]
  unfold flushM; rw [q.off, if_neg (by decide), h3]; rfl
theorem flushD_at {D : Dk} {i : Nat} (hi : i < D.lasts.length) : strAt (flushD D).lasts i = curAt D i := by
  have : strAt (flushD D).lasts i = flushAt D.W D.lasts i := by unfold strAt flushD; simp [hi]
  rw [this]; rfl
theorem curAt_nil {D : Dk} (h : D.W = []) (i : Nat) : curAt D i = strAt D.lasts i := by unfold curAt; rw [h]; rfl
theorem curL_len (D : Dk) : (curL D).length = D.lasts.length := by simp [curL]
theorem curL_at {D : Dk} (q : D.off = false) {i : Nat} (hi : i < D.lasts.length) : strAt (curL D) i = curAt D i := by
  have : strAt (curL D) i = (readM D (i : Nat)).1 := by unfold strAt curL; simp [hi]
  rw [this]
  unfold readM
  rw [fails_in q hi]
  simp [curAt]
theorem strAt_ext {L M : List B8} (hl : L.length = M.length) (h : ∀ i, i < L.length -> strAt L i = strAt M i) : L = M := by
  apply List.ext_getElem hl
  intro i h1 h2
  have := h i h1
  unfold strAt at this
  rw [List.getElem?_eq_getElem h1, List.getElem?_eq_getElem h2] at this
  simpa using this
theorem curL_nil {D : Dk} (q : D.off = false) (h : D.W = []) : curL D = D.lasts :=
  strAt_ext (curL_len D) (fun i hi => by rw [curL_len] at hi; rw [curL_at q hi, curAt_nil h])
structure Laid (D : Dk) (a : Nat) (ss : List B8) (D' : Dk) : Prop where
  qt : Qt D'
  w : D'.W = []
  sh : Shp D D'
  at_ : ∀ i, i < D.lasts.length -> strAt D'.lasts i = if a <= i /\ i < a + ss.length then strAt ss (i - a) else curAt D i
theorem layJ_qt : ∀ (ss : List B8) (D : Dk) (a : Nat), Qt D -> (∀ s ∈ ss, s.length = 128) -> (ss ≠ [] -> ((a + ss.length : Nat) : Int) <= roomM D) -> (layJ D a ss).2 = 0 /\ Laid D a ss (layJ D a ss).1
  | [], D, a, q, _, _ => by
    rw [layJ, flush_qt q]
    exact ⟨rfl, ⟨q.off, q.left⟩, rfl, ⟨rfl, by simp [flushD]⟩, fun i hi => by rw [flushD_at hi, if_neg (by simp only [List.length_nil]; omega)]⟩
  | s :: ss, D, a, q, hs, hr => by
    have hr1 := hr (by simp)
    simp only [List.length_cons] at hr1
    rw [layJ, write_qt q (hs s (by simp)) (by omega), if_neg (by simp)]
    have ih := layJ_qt ss (putD D (a : Nat) s) (a + 1) ⟨q.off, q.left⟩ (fun x hx => hs x (by simp [hx])) (fun _ => by show _ <= roomM D; omega)
    refine ⟨ih.1, ih.2.qt, ih.2.w, ⟨ih.2.sh.1, ih.2.sh.2⟩, fun i hi => ?_⟩
    rw [ih.2.at_ i hi, curAt_put, List.length_cons]
    by_cases h1 : i = a
    . subst h1
      rw [if_neg (by omega), if_pos rfl, if_pos (by omega), Nat.sub_self]; rfl
    . rw [if_neg h1]
      by_cases h2 : a + 1 <= i /\ i < a + 1 + ss.length
      . rw [if_pos h2, if_pos (by omega), show i - a = (i - (a + 1)) + 1 by omega]; rfl
      . rw [if_neg h2, if_neg (by omega)]

theorem strAt_take {L : List B8} {n i : Nat} (h : i < n) : strAt (L.take n) i = strAt L i := by unfold strAt; rw [List.getElem?_take_of_lt h]
theorem strAt_drop (L : List B8) (n i : Nat) : strAt (L.drop n) i = strAt L (n + i) := by unfold strAt; rw [List.getElem?_drop]
theorem strAt_app {L M : List B8} {i : Nat} : strAt (L ++ M) i = if i < L.length then strAt L i else strAt M (i - L.length) := by
  unfold strAt
  split
  . rw [List.getElem?_append_left Zp]
  . rw [List.getElem?_append_right (by omega)]
theorem strAt_mem {L : List B8} {s : B8} (h : s ∈ L) : ∃ i, i < L.length /\ strAt L i = s := by
  obtain ⟨i, hi, e⟩ := List.mem_iff_getElem.1 h
  exact ⟨i, hi, by unfold strAt; rw [List.getElem?_eq_getElem hi, Option.getD_some, e]⟩
theorem strAt_in {L : List B8} {i : Nat} (h : i < L.length) : strAt L i ∈ L := by
  unfold strAt; rw [List.getElem?_eq_getElem h]; exact List.getElem_mem h
theorem half_mul {f : Nat} (h : f <= 1) (z : Nat) : (f = 0 /\ f * z = 0 /\ (1 - f) * z = z) \/ (f = 1 /\ f * z = z /\ (1 - f) * z = 0) := by
  rcases (show f = 0 \/ f = 1 by omega) with rfl | rfl
  . exact .inl ⟨rfl, by simp, by simp⟩
  . exact .inr ⟨rfl, by simp, by simp⟩
theorem regL_len {L : List B8} {z f : Nat} (hz : 2 + 2 * z <= L.length) (hf : f <= 1) : (regL L z f).length = z := by
  unfold regL
  rw [List.length_take, List.length_drop]
  rcases half_mul hf z with h | h <;> omega
theorem regL_at {L : List B8} {z f i : Nat} (h : i < z) : strAt (regL L z f) i = strAt L (2 + f * z + i) := by unfold regL; rw [strAt_take h, strAt_drop]

theorem scanH_some {i : Nat} {s : B8} {g f : Nat} (h : headM s = some (g, f)) (st : Hd) : scanH i s st = if st.cur < g then ⟨max st.most g, g, f, i⟩ else { st with most := max st.most g } := by unfold scanH; rw [h]
theorem scanH_none {i : Nat} {s : B8} (h : headM s = none) (st : Hd) : scanH i s st = st := by unfold scanH; rw [h]
structure HdsOk (L : List B8) : Prop where
  half : (hdsL L).half <= 1
  slot : (hdsL L).slot = -1 \/ (hdsL L).slot = 0 \/ (hdsL L).slot = 1
  most : ∀ i, i < 2 -> ∀ p, headM (strAt L i) = some p -> p.1 <= (hdsL L).most
  cur : (hdsL L).cur <= (hdsL L).most
  lt : (hdsL L).most < 4294967296
  at_ : ∀ i : Nat, (hdsL L).slot = i -> headM (strAt L i) = some ((hdsL L).cur, (hdsL L).half)
  no : (hdsL L).slot = -1 -> (hdsL L).cur = 0 /\ (hdsL L).half = 1 /\ headM (strAt L 0) = none /\ headM (strAt L 1) = none
theorem hds_ok (L : List B8) : HdsOk L := by
  have key : ∀ (a b : Option (Nat × Nat)) (x y : B8), headM x = a -> headM y = b -> hdsL L = scanH 1 y (scanH 0 x ⟨0, 0, 1, -1⟩) -> strAt L 0 = x -> strAt L 1 = y -> HdsOk L := by
    intro a b x y hx hy e h0 h1
    rcases a with _ | ⟨g, f⟩
    . rw [scanH_none hx] at e
      rcases b with _ | ⟨g', f'⟩
      . rw [scanH_none hy] at e
        refine ⟨by rw [e]; exact Nat.le_refl _, by rw [e]; exact .inl rfl, fun i hi p hp => ?_, by rw [e]; exact Nat.le_refl _, by rw [e]; decide, fun i hi => ?_, fun _ => by rw [e, h0, h1]; exact ⟨rfl, rfl, hx, hy⟩⟩
        . rcases (show i = 0 \/ i = 1 by omega) with rfl | rfl
          . rw [h0, hx] at hp; cases hp
          . rw [h1, hy] at hp; cases hp
        . rw [e] at hi; simp only at hi; omega
      . obtain ⟨_, q1, q2, q3⟩ := head_some hy
        rw [scanH_some hy, if_pos (by simp only; omega)] at e
        refine ⟨by rw [e]; exact q3, by rw [e]; exact .inr (.inr rfl), fun i hi p hp => ?_, by rw [e]; simp only; omega, by rw [e]; simp only; omega, fun i hi => ?_, fun hh => by rw [e] at hh; simp only at hh; omega⟩
        . rcases (show i = 0 \/ i = 1 by omega) with rfl | rfl
          . rw [h0, hx] at hp; cases hp
          . rw [h1, hy] at hp; injection hp with hp; subst hp; rw [e]; simp only; omega
        . rw [e] at hi ⊢
          simp only at hi ⊢
          rw [show i = 1 by omega, h1, hy]
    . obtain ⟨_, p1, p2, p3⟩ := head_some hx
      rw [scanH_some hx, if_pos (by simp only; omega)] at e
      rcases b with _ | ⟨g', f'⟩
      . rw [scanH_none hy] at e
        refine ⟨by rw [e]; exact p3, by rw [e]; exact .inr (.inl rfl), fun i hi p hp => ?_, by rw [e]; simp only; omega, by rw [e]; simp only; omega, fun i hi => ?_, fun hh => by rw [e] at hh; simp only at hh; omega⟩
        . rcases (show i = 0 \/ i = 1 by omega) with rfl | rfl
          . rw [h0, hx] at hp; injection hp with hp; subst hp; rw [e]; simp only; omega
          . rw [h1, hy] at hp; cases hp
        . rw [e] at hi ⊢
          simp only at hi ⊢
          rw [show i = 0 by omega, h0, hx]
      . obtain ⟨_, q1, q2, q3⟩ := head_some hy
        rw [scanH_some hy] at e
        simp only at e
        split at e
        . refine ⟨by rw [e]; exact q3, by rw [e]; exact .inr (.inr rfl), fun i hi p hp => ?_, by rw [e]; simp only; omega, by rw [e]; simp only; omega, fun i hi => ?_, fun hh => by rw [e] at hh; simp only at hh; omega⟩
          . rcases (show i = 0 \/ i = 1 by omega) with rfl | rfl
            . rw [h0, hx] at hp; injection hp with hp; subst hp; rw [e]; simp only; omega
            . rw [h1, hy] at hp; injection hp with hp; subst hp; rw [e]; simp only; omega
          . rw [e] at hi ⊢
            simp only at hi ⊢
            rw [show i = 1 by omega, h1, hy]
        . refine ⟨by rw [e]; exact p3, by rw [e]; exact .inr (.inl rfl), fun i hi p hp => ?_, by rw [e]; simp only; omega, by rw [e]; simp only; omega, fun i hi => ?_, fun hh => by rw [e] at hh; simp only at hh; omega⟩
          . rcases (show i = 0 \/ i = 1 by omega) with rfl | rfl
            . rw [h0, hx] at hp; injection hp with hp; subst hp; rw [e]; simp only; omega
            . rw [h1, hy] at hp; injection hp with hp; subst hp; rw [e]; simp only; omega
          . rw [e] at hi ⊢
            simp only at hi ⊢
            rw [show i = 0 by omega, h0, hx]
  exact key _ _ _ _ rfl rfl rfl rfl rfl
theorem hds_new {L : List B8} {s g f : Nat} (hs : s <= 1) (hh : headM (strAt L s) = some (g, f)) (ho : ∀ p, headM (strAt L (1 - s)) = some p -> p.1 < g) : hdsL L = ⟨g, g, f, s⟩ := by
  obtain ⟨_, p1, p2, p3⟩ := head_some hh
  rcases (show s = 0 \/ s = 1 by omega) with rfl | rfl
  . have e0 : scanH 0 (strAt L 0) ⟨0, 0, 1, -1⟩ = ⟨g, g, f, (0 : Nat)⟩ := by rw [scanH_some hh, if_pos (by simp only; omega)]; simp
    unfold hdsL
    rw [e0]
    cases h1 : headM (strAt L 1) with
    | none => rw [scanH_none h1]
    | some p =>
      obtain ⟨g', f'⟩ := p
      have := ho _ h1
      simp only at this
      rw [scanH_some h1, if_neg (by simp only; omega)]
      simp only
      rw [Nat.max_eq_left (by omega)]
  . unfold hdsL
    cases h0 : headM (strAt L 0) with
    | none => rw [scanH_none h0, scanH_some hh, if_pos (by simp only; omega)]; simp
    | some p =>
      obtain ⟨g', f'⟩ := p
      have := ho _ h0
      simp only at this
      obtain ⟨_, q1, q2, q3⟩ := head_some h0
      rw [scanH_some h0, if_pos (by simp only; omega), scanH_some hh, if_pos (by simp only; omega)]
      simp only
      rw [Nat.max_eq_right (show max 0 g' <= g by omega)]
theorem mostC_ge (l : List B8) : ∀ m, m <= mostC m l /\ ∀ s ∈ l, ∀ c, cellM s = some c -> c.gen <= mostC m l := by
  induction l with
  | nil => intro m; exact ⟨Nat.le_refl _, fun s hs => by simp at hs⟩
  | cons s l ih =>
    intro m
    have e : mostC m (s :: l) = mostC (match cellM s with | none => m | some c => max m c.gen) l := rfl
    rw [e]
    obtain ⟨i1, i2⟩ := ih (match cellM s with | none => m | some c => max m c.gen)
    refine ⟨?_, fun x hx c hc => ?_⟩
    . cases h : cellM s with
      | none => rw [h] at i1; exact i1
      | some c => rw [h] at i1; simp only at i1 ⊢; omega
    . rcases List.mem_cons.1 hx with rfl | hx
      . rw [hc] at i1 ⊢; simp only at i1 ⊢; omega
      . exact i2 x hx c hc
theorem mostC_le {B : Nat} (l : List B8) : ∀ m, m <= B -> (∀ s ∈ l, ∀ c, cellM s = some c -> c.gen <= B) -> mostC m l <= B := by
  induction l with
  | nil => intro m h _; exact h
  | cons s l ih =>
    intro m h hl
    have e : mostC m (s :: l) = mostC (match cellM s with | none => m | some c => max m c.gen) l := rfl
    rw [e]
    refine ih _ ?_ (fun x hx => hl x (by simp [hx]))
    cases hc : cellM s with
    | none => exact h
    | some c => have := hl s (by simp) c hc; simp only; omega
theorem mostL_ge {L : List B8} {z : Nat} (hz : 2 + 2 * z <= L.length) : (hdsL L).most <= mostL L z /\ ∀ i, 2 <= i -> i < 2 + 2 * z -> ∀ c, cellM (strAt L i) = some c -> c.gen <= mostL L z := by
  obtain ⟨h1, h2⟩ := mostC_ge ((L.drop 2).take (2 * z)) (hdsL L).most
  refine ⟨h1, fun i hi1 hi2 c hc => h2 (strAt L i) ?_ c hc⟩
  have : strAt ((L.drop 2).take (2 * z)) (i - 2) = strAt L i := by rw [strAt_take (by omega), strAt_drop]; congr 1; omega
  rw [<- this]
  exact strAt_in (by rw [List.length_take, List.length_drop]; omega)
theorem mostL_le {L : List B8} {z B : Nat} (hm : (hdsL L).most <= B) (hc : ∀ i, 2 <= i -> i < 2 + 2 * z -> ∀ c, cellM (strAt L i) = some c -> c.gen <= B) : mostL L z <= B := by
  refine mostC_le _ _ hm (fun s hs c h => ?_)
  obtain ⟨i, hi, rfl⟩ := strAt_mem hs
  rw [List.length_take, List.length_drop] at hi
  rw [strAt_take (by omega), strAt_drop] at h
  exact hc (2 + i) (by omega) (by omega) c h
theorem mostL_lt (L : List B8) (z : Nat) : mostL L z < 4294967296 := by
  have := (hds_ok L).lt
  have : mostL L z <= 4294967295 := mostL_le (by omega) (fun i _ _ c hc => by have := (cell_some hc).2.2.g; omega)
  omega

structure Live (L : List B8) (z : Nat) (J : Jn) (bs : List B8) : Prop where
  room : 2 + 2 * z <= L.length
  s : J.slot = 0 \/ J.slot = 1
  half : J.half <= 1
  hd : hdsL L = ⟨J.gen, J.gen, J.half, J.slot⟩
  most : mostL L z = J.gen
  gen : 1 <= J.gen /\ J.gen < 4294967296
  cells : ∀ i, i < needsM bs -> strAt L (2 + J.half * z + i) = strAt (allM J.gen 0 bs) i
  fit : needsM bs <= z
  free : ∀ i, needsM bs <= i -> i < z -> ∀ c, cellM (strAt L (2 + J.half * z + i)) = some c -> c.gen ≠ J.gen
  used : J.used = needsM bs
  n : J.n = bs.length
  open_ : J.closed = false
  len : ∀ b ∈ bs, b.length <= 262144
theorem needs_len : ∀ {bs : List B8}, (∀ b ∈ bs, b.length <= 262144) -> bs.length <= needsM bs
  | [], _ => Nat.le_refl _
  | b :: bs, h => by
    have h1 := needM_pos (h b (by simp))
    have h2 := needs_len (bs := bs) (fun x hx => h x (by simp [hx]))
    rw [needsM, List.length_cons]; omega
theorem allM_cell {g : Nat} (hg : 1 <= g /\ g < 4294967296) : ∀ {q : Nat} {bs : List B8}, q + bs.length <= 4294967296 -> (∀ b ∈ bs, b.length <= 262144) -> ∀ s ∈ allM g q bs, ∃ c, cellM s = some c /\ c.gen = g
  | _, [], _, _, s, hs => by simp [allM] at hs
  | q, b :: bs, hq, hb, s, hs => by
    simp only [List.length_cons] at hq
    rw [allM, List.mem_append] at hs
    rcases hs with hs | hs
    . simp only [cellsM, List.mem_map, List.mem_range] at hs
      obtain ⟨i, hi, rfl⟩ := hs
      exact ⟨_, cellAt_ok hg (by omega) (hb b (by simp)) hi, rfl⟩
    . exact allM_cell hg (q := q + 1) (by omega) (fun x hx => hb x (by simp [hx])) s hs
theorem reg_rec {L : List B8} {z f g : Nat} {bs : List B8} (hz : 2 + 2 * z <= L.length) (hz2 : z <= 8192) (hf : f <= 1) (hg : 1 <= g /\ g < 4294967296) (hlen : ∀ b ∈ bs, b.length <= 262144) (hfit : needsM bs <= z)
    (hcells : ∀ i, i < needsM bs -> strAt L (2 + f * z + i) = strAt (allM g 0 bs) i) (hfree : ∀ i, needsM bs <= i -> i < z -> ∀ c, cellM (strAt L (2 + f * z + i)) = some c -> c.gen ≠ g) : recsM g z 0 (regL L z f) = bs := by
  have hr : regL L z f = allM g 0 bs ++ (regL L z f).drop (needsM bs) := by
    refine strAt_ext ?_ (fun i hi => ?_)
    . rw [List.length_append, allM_len, List.length_drop, regL_len hz hf]; omega
    . rw [regL_len hz hf] at hi
      rw [strAt_app, allM_len]
      split
      . rw [regL_at hi]; exact hcells i Zp
      . rw [strAt_drop]; congr 1; omega
  have hn := needs_len hlen
  rw [hr, recs_all hg bs z 0 (by omega) (by omega) hlen, recs_none, List.append_nil]
  have hl : ((regL L z f).drop (needsM bs)).length = z - needsM bs := by rw [List.length_drop, regL_len hz hf]
  cases hd : (regL L z f).drop (needsM bs) with
  | nil => exact noRec_nil g
  | cons s l =>
    rw [hd, List.length_cons] at hl
    have : s = strAt L (2 + f * z + needsM bs) := by
      have h0 : strAt ((regL L z f).drop (needsM bs)) 0 = s := by rw [hd]; rfl
      rw [<- h0, strAt_drop, Nat.add_zero, regL_at (by omega)]
    rw [this]
    exact noRec_cons (hfree _ (Nat.le_refl _) (by omega))
theorem Live.tells {L : List B8} {z : Nat} {J : Jn} {bs : List B8} (l : Live L z J bs) (hz : z <= 8192) : recL L z = bs := by
  unfold recL
  rw [l.hd]
  simp only
  rw [if_pos (by rcases l.s with h | h <;> omega)]
  exact reg_rec l.room hz l.half l.gen l.len l.fit l.cells l.free
end Go.Proofs.YtmbpjgjajedonaaDoor
