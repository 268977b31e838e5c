/- Layer 6, plain: Reset, Open and Append of a journal whose power does not fail. -/
import Derived.Test.YtmbpjgjajedonaaGreatDoorJoP
import Derived.Test.YtmbpjgjajedonaaGreatDoorDkG
namespace Go.Proofs.YtmbpjgjajedonaaGreatDoor
set_option linter.all false
set_option maxRecDepth 4000
open Go.RowKit

theorem size_fit {D : Dk} (h : 4 <= D.lasts.length) : 2 + 2 * sizeM D <= D.lasts.length /\ 1 <= sizeM D := by unfold sizeM; omega
theorem reset_qt {D : Dk} (q : Qt D) (h4 : 4 <= D.lasts.length) {J : Jn} (hh : J.half <= 1) (ho : J.closed = false) {bs : List B8} (hlen : ∀ b ∈ bs, b.length <= 262144) (hfull : ¬ fullM D J bs) :
    ∃ D', resetM D J bs = (D', ⟨J.gen + 1, 1 - J.half, slotM J, needsM bs, bs.length, false⟩, 0) /\ Qt D' /\ D'.W = [] /\ Shp D D' ∧
      ∀ i, i < D.lasts.length -> strAt D'.lasts i = if i = slotM J then secH (J.gen + 1) (1 - J.half) else if firstM D (1 - J.half) <= i /\ i < firstM D (1 - J.half) + needsM bs then strAt (allM (J.gen + 1) 0 bs) (i - firstM D (1 - J.half)) else curAt D i := by
  have hf := hfull
  unfold fullM at hf
  have hz := size_fit h4
  have h1 := layJ_qt (allM (J.gen + 1) 0 bs) D (firstM D (1 - J.half)) q allM_all (fun hne => by
    rw [allM_len]
    have : 0 < needsM bs := by
      rw [<- allM_len (J.gen + 1) 0]
      exact List.length_pos_iff.2 hne
    omega)
  obtain ⟨e1, l1⟩ := h1
  have hs : slotM J <= 1 := by unfold slotM; split <;> omega
  have hr : roomM (layJ D (firstM D (1 - J.half)) (allM (J.gen + 1) 0 bs)).1 = roomM D := by unfold roomM; rw [l1.sh.1, l1.sh.2]
  have h2 := layJ_qt [secH (J.gen + 1) (1 - J.half)] _ (slotM J) l1.qt (fun s hs => by rw [List.mem_singleton.1 hs]; exact secH_len _ _) (fun _ => by rw [hr, List.length_singleton]; omega)
  obtain ⟨e2, l2⟩ := h2
  refine ⟨(lay2 D J bs).1, ?_, l2.qt, l2.w, l1.sh.trans l2.sh, fun i hi => ?_⟩
  . unfold resetM
    rw [if_neg (by rw [ho]; decide), if_neg (by rintro ⟨b, hb, hl⟩; have := hlen b hb; omega), if_neg hfull, if_neg (by rw [e1]; decide), if_neg (by show ¬ (lay2 D J bs).2 ≠ 0; unfold lay2; rw [e2]; decide)]
  . have := l2.at_ i (by rw [l1.sh.2]; exact hi)
    rw [List.length_singleton] at this
    show strAt (lay2 D J bs).1.lasts i = _
    unfold lay2
    rw [this]
    by_cases hi2 : i = slotM J
    . rw [if_pos (by omega), if_pos hi2, hi2, Nat.sub_self]; rfl
    . rw [if_neg (by omega), if_neg hi2, curAt_nil l1.w, l1.at_ i hi, allM_len]
theorem reset_live {L L' : List B8} {z : Nat} {J : Jn} {bs : List B8} (hl : L'.length = L.length) (hz : 2 + 2 * z <= L.length) (hh : J.half <= 1) (hs : J.slot = -1 \/ J.slot = 0 \/ J.slot = 1) (hg : J.gen < 4294967295) (hfit : needsM bs <= z) (hzb : z <= 8192)
    (hlen : ∀ b ∈ bs, b.length <= 262144) (hm : mostL L z <= J.gen)
    (hat : ∀ i, i < L.length -> strAt L' i = if i = slotM J then secH (J.gen + 1) (1 - J.half) else if 2 + (1 - J.half) * z <= i /\ i < 2 + (1 - J.half) * z + needsM bs then strAt (allM (J.gen + 1) 0 bs) (i - (2 + (1 - J.half) * z)) else strAt L i) :
    Live L' z ⟨J.gen + 1, 1 - J.half, slotM J, needsM bs, bs.length, false⟩ bs := by
  have hsl : slotM J <= 1 := by unfold slotM; split <;> omega
  have hmm := mostL_ge hz
  have hmul := half_mul hh z
  have hhd : headM (strAt L' (slotM J)) = some (J.gen + 1, 1 - J.half) := by rw [hat _ (by omega), if_pos rfl]; exact head_sec (by omega) (by omega) (by omega)
  have hds : hdsL L' = ⟨J.gen + 1, J.gen + 1, 1 - J.half, slotM J⟩ := by
    refine hds_new hsl hhd (fun p hp => ?_)
    rw [hat _ (by omega), if_neg (by omega), if_neg (by omega)] at hp
    have := (hds_ok L).most (1 - slotM J) (by omega) p hp
    omega
  have hnb := needs_len hlen
  have hgg : 1 <= J.gen + 1 /\ J.gen + 1 < 4294967296 := by omega
  have hcell : ∀ i, 2 <= i -> i < 2 + 2 * z -> ∀ c, cellM (strAt L' i) = some c -> (c.gen = J.gen + 1 /\ 2 + (1 - J.half) * z <= i /\ i < 2 + (1 - J.half) * z + needsM bs) \/ c.gen <= J.gen := by
    intro i h2 h3 c hc
    rw [hat i (by omega), if_neg (by omega)] at hc
    split at hc
    . rename_i hi
      obtain ⟨c', hc', hg'⟩ := allM_cell hgg (q := 0) (by omega) hlen _ (strAt_in (L := allM (J.gen + 1) 0 bs) (i := i - (2 + (1 - J.half) * z)) (by rw [allM_len]; omega))
      rw [hc] at hc'
      injection hc' with hc'
      exact .inl ⟨by rw [hc']; exact hg', hi⟩
    . exact .inr (Nat.le_trans (hmm.2 i h2 h3 c hc) hm)
  refine ⟨by omega, ?_, by simp only; omega, hds, ?_, hgg, fun i hi => ?_, hfit, fun i hi1 hi2 c hc => ?_, rfl, rfl, rfl, hlen⟩
  . simp only; omega
  . apply Nat.le_antisymm
    . refine mostL_le (by rw [hds]; exact Nat.le_refl _) (fun i h2 h3 c hc => ?_)
      rcases hcell i h2 h3 c hc with h | h
      . simp only; omega
      . simp only; omega
    . have := (mostL_ge (L := L') (z := z) (by omega)).1
      rw [hds] at this
      exact this
  . simp only at hi ⊢
    rw [hat _ (by omega), if_neg (by omega), if_pos (by omega)]
    congr 1; omega
  . simp only at hi1 hi2 hc ⊢
    rcases hcell _ (by omega) (by omega) c hc with h | h
    . omega
    . omega
theorem append_qt {D : Dk} (q : Qt D) {J : Jn} {b : B8} (ho : J.closed = false) (hb : b.length <= 262144) (hfit : (needM b.length : Int) <= leftM D J) :
    ∃ D', appendM D J b = (D', { J with used := J.used + needM b.length, n := J.n + 1 }, 0) /\ Qt D' /\ D'.W = [] /\ Shp D D' ∧
      ∀ i, i < D.lasts.length -> strAt D'.lasts i = if firstM D J.half + J.used <= i /\ i < firstM D J.half + J.used + needM b.length then cellAt J.gen J.n b (i - (firstM D J.half + J.used)) else curAt D i := by
  have hn := needM_pos hb
  have hl : (needM b.length : Int) <= roomM D - firstM D J.half - J.used := by unfold leftM at hfit; omega
  obtain ⟨e1, l1⟩ := layJ_qt (cellsM J.gen J.n b) D (firstM D J.half + J.used) q cellsM_all (fun _ => by rw [cellsM_len]; omega)
  refine ⟨_, ?_, l1.qt, l1.w, l1.sh, fun i hi => ?_⟩
  . unfold appendM
    rw [if_neg (by rw [ho]; decide), if_neg (by omega), if_neg (by omega), if_neg (by rw [e1]; decide)]
  . rw [l1.at_ i hi, cellsM_len]
    split
    . rename_i h
      unfold strAt cellsM
      rw [List.getElem?_map, List.getElem?_range (by omega)]; rfl
    . rfl
theorem needs_app : ∀ (bs : List B8) (b : B8), needsM (bs ++ [b]) = needsM bs + needM b.length
  | [], b => by simp [needsM]
  | c :: bs, b => by rw [List.cons_append, needsM, needs_app bs b, needsM]; omega
theorem allM_app (g : Nat) : ∀ (q : Nat) (bs : List B8) (b : B8), allM g q (bs ++ [b]) = allM g q bs ++ cellsM g (q + bs.length) b
  | q, [], b => by simp [allM]
  | q, c :: bs, b => by rw [List.cons_append, allM, allM_app g (q + 1) bs b, allM, List.length_cons, List.append_assoc, show q + 1 + bs.length = q + (bs.length + 1) by omega]
theorem append_live {L L' : List B8} {z : Nat} {J : Jn} {bs : List B8} {b : B8} (l : Live L z J bs) (hl : L'.length = L.length) (hzb : z <= 8192) (hb : b.length <= 262144) (hfit : needsM bs + needM b.length <= z)
    (hat : ∀ i, i < L.length -> strAt L' i = if 2 + J.half * z + J.used <= i /\ i < 2 + J.half * z + J.used + needM b.length then cellAt J.gen J.n b (i - (2 + J.half * z + J.used)) else strAt L i) :
    Live L' z { J with used := J.used + needM b.length, n := J.n + 1 } (bs ++ [b]) := by
  have hu := l.used
  have hz := l.room
  have hmul := half_mul l.half z
  have hnb := needs_len l.len
  have hnp := needM_pos hb
  have hh := l.half
  have hlen : ∀ x ∈ bs ++ [b], x.length <= 262144 := fun x hx => by
    rcases List.mem_append.1 hx with h | h
    . exact l.len x h
    . rw [List.mem_singleton.1 h]; exact hb
  have h01 : strAt L' 0 = strAt L 0 /\ strAt L' 1 = strAt L 1 := ⟨by rw [hat 0 (by omega), if_neg (by omega)], by rw [hat 1 (by omega), if_neg (by omega)]⟩
  have hds : hdsL L' = hdsL L := by unfold hdsL; rw [h01.1, h01.2]
  have hnew : ∀ i, i < needM b.length -> cellM (cellAt J.gen J.n b i) = some ⟨J.gen, J.n, i, needM b.length, (b.drop (110 * i)).take 110⟩ := fun i hi => cellAt_ok l.gen (by rw [l.n]; omega) hb hi
  refine ⟨by omega, l.s, l.half, by rw [hds]; exact l.hd, ?_, l.gen, fun i hi => ?_, by rw [needs_app]; exact hfit, fun i hi1 hi2 c hc => ?_, by rw [needs_app]; simp only; omega, by simp only [List.length_append, List.length_singleton]; rw [l.n], l.open_, hlen⟩
  . apply Nat.le_antisymm
    . have hm := mostL_ge hz
      have := l.most
      refine mostL_le (by rw [hds]; simp only; omega) (fun i h2 h3 c hc => ?_)
      rw [hat i (by omega)] at hc
      split at hc
      . rw [hnew _ (by omega)] at hc
        injection hc with hc
        rw [<- hc]; exact Nat.le_refl _
      . have := hm.2 i h2 h3 c hc
        simp only; omega
    . have := (mostL_ge (L := L') (z := z) (by omega)).1
      rw [hds, l.hd] at this
      exact this
  . rw [needs_app] at hi
    simp only
    rw [allM_app, strAt_app, allM_len, hat _ (by omega)]
    by_cases h : i < needsM bs
    . rw [if_neg (by omega), if_pos h]; exact l.cells i h
    . rw [if_pos (by omega), if_neg h]
      unfold strAt cellsM
      rw [List.getElem?_map, List.getElem?_range (by omega), Nat.zero_add, l.n]
      simp only [Option.map_some, Option.getD_some]
      congr 1; omega
  . rw [needs_app] at hi1
    simp only at hc ⊢
    rw [hat _ (by omega), if_neg (by omega)] at hc
    exact l.free i (by omega) hi2 c hc
end Go.Proofs.YtmbpjgjajedonaaGreatDoor
namespace Go.Proofs.YtmbpjgjajedonaaGreatDoor
set_option linter.all false
set_option maxRecDepth 4000
open Go.RowKit

structure OpenOk (D : Dk) (X : Dk × Option Jn × List B8 × Int) (D' : Dk) (J : Jn) : Prop where
  eq : X = (D', some J, openR D, 0)
  qt : Qt D'
  w : D'.W = []
  sh : Shp D D'
  live : Live D'.lasts (sizeM D) J (openR D)
  gen : J.gen = (openJ D).gen + 1
theorem open_qt {D : Dk} (q : Qt D) (h4 : 4 <= D.lasts.length) (h8 : D.lasts.length <= 8192) (hlen : ∀ b ∈ openR D, b.length <= 262144) (hfit : needsM (openR D) <= sizeM D) :
    (fullM D (openJ D) (openR D) /\ openM D = (D, none, [], 11)) \/ (¬ fullM D (openJ D) (openR D) /\ ∃ D' J, OpenOk D (openM D) D' J) := by
  have hh := hds_ok (curL D)
  have hho : (openJ D).half <= 1 := hh.half
  have hz := size_fit h4
  have hop : openM D = if (resetM D (openJ D) (openR D)).2.2 ≠ 0 then ((resetM D (openJ D) (openR D)).1, none, [], (resetM D (openJ D) (openR D)).2.2) else ((resetM D (openJ D) (openR D)).1, some (resetM D (openJ D) (openR D)).2.1, openR D, 0) := by
    unfold openM; rw [if_neg (by omega), if_neg (by rw [q.off]; decide)]
  by_cases hf : fullM D (openJ D) (openR D)
  . left
    refine ⟨hf, ?_⟩
    have e : resetM D (openJ D) (openR D) = (D, openJ D, 11) := by
      unfold resetM
      rw [if_neg (by show ¬ (false = true); decide), if_neg (by rintro ⟨b, hb, hl⟩; have := hlen b hb; omega), if_pos hf]
    rw [hop, e, if_pos (by simp)]
  . right
    refine ⟨hf, ?_⟩
    obtain ⟨D', e, q', w', sh, hat⟩ := reset_qt q h4 hho rfl hlen hf
    refine ⟨D', ⟨(openJ D).gen + 1, 1 - (openJ D).half, slotM (openJ D), needsM (openR D), (openR D).length, false⟩, ?_, q', w', sh, ?_, rfl⟩
    . rw [hop, e, if_neg (by simp)]
    . have hcl := curL_len D
      have hge : ¬ 4294967295 <= (openJ D).gen := fun h => hf (.inr (.inr (.inr h)))
      refine reset_live (L := curL D) (by rw [sh.2, hcl]) (by omega) hho hh.slot (by omega) hfit (by omega) hlen (Nat.le_refl _) (fun i hi => ?_)
      rw [hcl] at hi
      rw [curL_at q.off hi]
      exact hat i hi
theorem open_of {D : Dk} (q : Qt D) (hw : D.W = []) {J : Jn} {bs : List B8} (l : Live D.lasts (sizeM D) J bs) (h8 : D.lasts.length <= 8192) : openR D = bs /\ (openJ D).gen = J.gen /\ (openJ D).half = J.half := by
  have hc := curL_nil q.off hw
  have hz : sizeM D <= 8192 := by unfold sizeM; omega
  refine ⟨?_, ?_, ?_⟩
  . unfold openR; rw [hc]; exact l.tells hz
  . show mostL (curL D) (sizeM D) = _; rw [hc]; exact l.most
  . show (hdsL (curL D)).half = _; rw [hc, l.hd]
theorem lens_ok {D : Dk} (h : sizeM D <= 2383) : ∀ b ∈ openR D, b.length <= 262144 := by
  intro b hb
  unfold openR recL at hb
  split at hb
  . have := (recs_need (g := (hdsL (curL D)).cur) (sizeM D) 0 (regL (curL D) (sizeM D) (hdsL (curL D)).half)).2.2 b hb
    have hl : (regL (curL D) (sizeM D) (hdsL (curL D)).half).length <= sizeM D := by unfold regL; rw [List.length_take]; omega
    omega
  . simp at hb
theorem fit_ok (D : Dk) : needsM (openR D) <= sizeM D := by
  unfold openR recL
  split
  . have := (recs_need (g := (hdsL (curL D)).cur) (sizeM D) 0 (regL (curL D) (sizeM D) (hdsL (curL D)).half)).1
    have hl : (regL (curL D) (sizeM D) (hdsL (curL D)).half).length <= sizeM D := by unfold regL; rw [List.length_take]; omega
    omega
  . exact Nat.zero_le _
theorem qt_new (n : Int) : Qt (newM n) := ⟨rfl, rfl⟩
theorem zero_cell {s : B8} (h : byteAt s 4 = 0) : cellM s = none /\ headM s = none := by
  constructor
  . cases hc : cellM s with
    | none => rfl
    | some c => have h1 := secC_at c; rw [(cell_some hc).1, h] at h1; cases h1
  . cases hc : headM s with
    | none => rfl
    | some p => have h1 := secH_at p.1 p.2; rw [(head_some (g := p.1) (f := p.2) hc).1, h] at h1; cases h1
theorem new_at {n : Int} {i : Nat} (h : i < (newM n).lasts.length) : strAt (newM n).lasts i = List.replicate 128 0 := by
  have : strAt (newM n).lasts i = layAt [] i := by
    unfold strAt
    simp only [newM, layM, List.length_map, List.length_range] at h ⊢
    simp [h]
  rw [this]; simp [layAt]
theorem new_open (n : Int) : openR (newM n) = [] /\ (openJ (newM n)).gen = 0 /\ (openJ (newM n)).half = 1 /\ (openJ (newM n)).slot = -1 := by
  have hc : curL (newM n) = (newM n).lasts := curL_nil rfl rfl
  have hz : ∀ i, byteAt (strAt (newM n).lasts i) 4 = 0 := fun i => by
    by_cases h : i < (newM n).lasts.length
    . rw [new_at h]; decide
    . unfold strAt; rw [List.getElem?_eq_none (by omega)]; rfl
  have hh : hdsL (newM n).lasts = ⟨0, 0, 1, -1⟩ := by
    unfold hdsL; rw [scanH_none (zero_cell (hz 0)).2, scanH_none (zero_cell (hz 1)).2]
  refine ⟨?_, ?_, ?_, ?_⟩
  . unfold openR recL; rw [hc, hh]; rfl
  . show mostL (curL (newM n)) (sizeM (newM n)) = 0
    rw [hc]
    have := mostL_le (L := (newM n).lasts) (z := sizeM (newM n)) (B := 0) (by rw [hh]; exact Nat.le_refl _) (fun i _ _ c hc => by rw [(zero_cell (hz i)).1] at hc; cases hc)
    omega
  . show (hdsL (curL (newM n))).half = 1; rw [hc, hh]
  . show (hdsL (curL (newM n))).slot = -1; rw [hc, hh]
theorem fullM_iff (D : Dk) (J : Jn) (bs : List B8) : fullM D J bs ↔ (sizeM D < needsM bs \/ roomM D < 2 \/ (0 < needsM bs /\ roomM D < ((firstM D (1 - J.half) + needsM bs : Nat) : Int)) \/ 4294967295 <= J.gen) := Iff.rfl
structure Awk (D1 : Dk) (J1 : Jn) (D2 : Dk) (J2 : Jn) (D3 : Dk) (J3 : Jn) (l : Ls) : Prop where
  o1 : openM (newM 6) = (D1, some J1, [], 0)
  i1 : D1.lasts.length = 6 /\ D1.limit = 6 /\ J1.half <= 1 /\ J1.used = 0 /\ J1.n = 0 /\ J1.gen = 1 /\ (J1.slot = 0 \/ J1.slot = 1)
  ap : appendM D1 J1 [97] = (D2, J2, 0)
  i2 : D2.lasts.length = 6 /\ D2.limit = 6 /\ J2.half <= 1 /\ J2.used = 1 /\ J2.gen = 1 /\ leftM D2 J2 = 1
  o3 : openM (crashM D2 l) = (D3, some J3, [[97]], 0)
theorem crash_nil {D : Dk} (q : Qt D) (hw : D.W = []) (l : Ls) : Qt (crashM D l) /\ (crashM D l).W = [] /\ (crashM D l).lasts = D.lasts /\ (crashM D l).limit = D.limit := by
  have e : crashM D l = { loseM D l with off := false, left := 0 } := by unfold crashM; rw [if_neg (by rw [q.off]; decide)]
  rw [e]
  refine ⟨⟨rfl, rfl⟩, rfl, ?_, rfl⟩
  refine strAt_ext (by simp [loseM]) (fun i hi => ?_)
  have hi' : i < D.lasts.length := by simpa [loseM] using hi
  have : strAt (loseM D l).lasts i = loseAt D.W l D.lasts i := by unfold strAt loseM; simp [hi']
  show strAt (loseM D l).lasts i = _
  rw [this]
  unfold loseAt
  rw [hw]; rfl
theorem awk (l : Ls) : ∃ D1 J1 D2 J2 D3 J3, Awk D1 J1 D2 J2 D3 J3 l := by
  obtain ⟨n1, n2, n3, n4⟩ := new_open 6
  have hl6 : (newM 6).lasts.length = 6 := by simp [newM, layM]; decide
  have hz6 : ∀ {D : Dk}, D.lasts.length = 6 -> sizeM D = 2 := fun h => by unfold sizeM; rw [h]
  have hf1 : ¬ fullM (newM 6) (openJ (newM 6)) (openR (newM 6)) := by
    have hr : roomM (newM 6) = 6 := by unfold roomM; rw [hl6]; rfl
    rw [fullM_iff, n1, n2, hr]; simp [needsM]
  rcases open_qt (qt_new 6) (by omega) (by omega) (by rw [n1]; simp) (fit_ok _) with h | ⟨_, D1, J1, o⟩
  . exact absurd h.1 hf1
  obtain ⟨oe, oq, ow, os, ol, og⟩ := o
  rw [n1] at oe ol
  rw [n2] at og
  have hl1 : D1.lasts.length = 6 := by rw [os.2]; exact hl6
  have hm1 : D1.limit = 6 := os.1
  rw [hz6 hl6] at ol
  have hu1 : J1.used = 0 := ol.used
  have hn1 : J1.n = 0 := ol.n
  have hr1 : roomM D1 = 6 := by unfold roomM; rw [hl1, hm1]; rfl
  have hh1 := ol.half
  have hfi : firstM D1 J1.half <= 4 := by unfold firstM; rw [hz6 hl1]; omega
  have hlf : ((needM [(97 : UInt8)].length : Nat) : Int) <= leftM D1 J1 := by unfold leftM; rw [hz6 hl1, hr1, hu1]; simp only [needM, List.length_singleton]; simp; omega
  obtain ⟨D2, ae, aq, aw, ash, aat⟩ := append_qt oq (b := [97]) ol.open_ (by simp) hlf
  have hl2 : D2.lasts.length = 6 := by rw [ash.2]; exact hl1
  have hm2 : D2.limit = 6 := by rw [ash.1]; exact hm1
  have al : Live D2.lasts 2 { J1 with used := J1.used + needM [(97 : UInt8)].length, n := J1.n + 1 } ([] ++ [[97]]) := by
    refine append_live ol (by rw [hl1, hl2]) (by omega) (by simp) (by simp [needsM, needM]) (fun i hi => ?_)
    have := aat i hi
    rw [curAt_nil ow] at this
    rw [this]
    unfold firstM
    rw [hz6 hl1]
  rw [List.nil_append] at al
  obtain ⟨cq, cw, cl, cm⟩ := crash_nil aq aw l
  have hl3 : (crashM D2 l).lasts.length = 6 := by rw [cl]; exact hl2
  rw [<- cl] at al
  have al' : Live (crashM D2 l).lasts (sizeM (crashM D2 l)) { J1 with used := J1.used + needM [(97 : UInt8)].length, n := J1.n + 1 } [[97]] := by rw [hz6 hl3]; exact al
  obtain ⟨r1, r2, r3⟩ := open_of cq cw al' (by omega)
  have hr3 : roomM (crashM D2 l) = 6 := by unfold roomM; rw [hl3, cm, hm2]; rfl
  have hf3 : ¬ fullM (crashM D2 l) (openJ (crashM D2 l)) (openR (crashM D2 l)) := by
    rw [fullM_iff, r1, r2, r3, hr3, hz6 hl3]
    have : firstM (crashM D2 l) (1 - J1.half) <= 4 := by unfold firstM; rw [hz6 hl3]; omega
    simp only [needsM, needM, List.length_singleton]
    simp
    omega
  rcases open_qt cq (by omega) (by omega) (by rw [r1]; simp) (fit_ok _) with h | ⟨_, D3, J3, o3⟩
  . exact absurd h.1 hf3
  refine ⟨D1, J1, D2, _, D3, J3, oe, ⟨hl1, hm1, hh1, hu1, hn1, by omega, ol.s⟩, ae, ⟨hl2, hm2, hh1, by rw [hu1]; rfl, by simp only; omega, ?_⟩, by rw [o3.eq, r1]⟩
  unfold leftM
  have hr2 : roomM D2 = 6 := by unfold roomM; rw [hl2, hm2]; rfl
  have hf2 : firstM D2 J1.half <= 4 := by unfold firstM; rw [hz6 hl2]; omega
  rw [hz6 hl2, hr2]
  simp only [needM, List.length_singleton, hu1]
  simp
  omega
end Go.Proofs.YtmbpjgjajedonaaGreatDoor
