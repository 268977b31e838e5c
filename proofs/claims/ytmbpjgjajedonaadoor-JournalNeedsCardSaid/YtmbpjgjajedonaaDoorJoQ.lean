/- Layer 6, plain: Reset, Open and Append of a journal whose power does not fail. -/
import Derived.Test.YtmbpjgjajedonaaDoorJoP
namespace Go.Proofs.YtmbpjgjajedonaaDoor
set_option linter.all false
set_option maxRecDepth 4000
open Go.RowKit

theorem size_fit {D : Dk} (h : 4 <= D.lasts.length) : 2 + 2 * sizeM D <= D.lasts.length /\ 1 <= sizeM D := by unfold sizeM; omega
theorem reset_qt {D : Dk} (q : Qt D) (h4 : 4 <= D.lasts.length) {J : Jn} (hh : J.half <= 1) (ho : J.closed = false) {bs : List B8} (hlen : ∀ b ∈ bs, b.length <= 262144) (hfull : ¬ fullM D J bs) :
    ∃ D', resetM D J bs = (D', ⟨J.gen + 1, 1 - J.half, slotM J, needsM bs, bs.length, false⟩, 0) /\ Qt D' /\ D'.W = [] /\ Shp D D' ∧
      ∀ i, i < D.lasts.length -> strAt D'.lasts i = if i = slotM J then secH (J.gen + 1) (1 - J.half) else if firstM D (1 - J.half) <= i /\ i < firstM D (1 - J.half) + needsM bs then strAt (allM (J.gen + 1) 0 bs) (i - firstM D (1 - J.half)) else curAt D i := by
  have hf := hfull
  unfold fullM at hf
  have hz := size_fit h4
  have h1 := layJ_qt (allM (J.gen + 1) 0 bs) D (firstM D (1 - J.half)) q allM_all (fun hne => by
    rw [allM_len]
    have : 0 < needsM bs := by
      rw [<- allM_len (J.gen + 1) 0]
      exact List.length_pos_iff.2 hne
    omega)
  obtain ⟨e1, l1⟩ := h1
  have hs : slotM J <= 1 := by unfold slotM; split <;> omega
  have hr : roomM (layJ D (firstM D (1 - J.half)) (allM (J.gen + 1) 0 bs)).1 = roomM D := by unfold roomM; rw [l1.sh.1, l1.sh.2]
  have h2 := layJ_qt [secH (J.gen + 1) (1 - J.half)] _ (slotM J) l1.qt (fun s hs => by rw [List.mem_singleton.1 hs]; exact secH_len _ _) (fun _ => by rw [hr, List.length_singleton]; omega)
  obtain ⟨e2, l2⟩ := h2
  refine ⟨(lay2 D J bs).1, ?_, l2.qt, l2.w, l1.sh.trans l2.sh, fun i hi => ?_⟩
  . unfold resetM
    rw [if_neg (by rw [ho]; decide), if_neg (by rintro ⟨b, hb, hl⟩; have := hlen b hb; omega), if_neg hfull, if_neg (by rw [e1]; decide), if_neg (by show ¬ (lay2 D J bs).2 ≠ 0; unfold lay2; rw [e2]; decide)]
  . have := l2.at_ i (by rw [l1.sh.2]; exact hi)
    rw [List.length_singleton] at this
    show strAt (lay2 D J bs).1.lasts i = _
    unfold lay2
    rw [this]
    by_cases hi2 : i = slotM J
    . rw [if_pos (by omega), if_pos hi2, hi2, Nat.sub_self]; rfl
    . rw [if_neg (by omega), if_neg hi2, curAt_nil l1.w, l1.at_ i hi, allM_len]
theorem reset_live {L L' : List B8} {z : Nat} {J : Jn} {bs : List B8} (hl : L'.length = L.length) (hz : 2 + 2 * z <= L.length) (hh : J.half <= 1) (hs : J.slot = -1 \/ J.slot = 0 \/ J.slot = 1) (hg : J.gen < 4294967295) (hfit : needsM bs <= z) (hzb : z <= 8192)
    (hlen : ∀ b ∈ bs, b.length <= 262144) (hm : mostL L z <= J.gen)
    (hat : ∀ i, i < L.length -> strAt L' i = if i = slotM J then secH (J.gen + 1) (1 - J.half) else if 2 + (1 - J.half) * z <= i /\ i < 2 + (1 - J.half) * z + needsM bs then strAt (allM (J.gen + 1) 0 bs) (i - (2 + (1 - J.half) * z)) else strAt L i) :
    Live L' z ⟨J.gen + 1, 1 - J.half, slotM J, needsM bs, bs.length, false⟩ bs := by
  have hsl : slotM J <= 1 := by unfold slotM; split <;> omega
  have hmm := mostL_ge hz
  have hmul := half_mul hh z
  have hhd : headM (strAt L' (slotM J)) = some (J.gen + 1, 1 - J.half) := by rw [hat _ (by omega), if_pos rfl]; exact head_sec (by omega) (by omega) (by omega)
  have hds : hdsL L' = ⟨J.gen + 1, J.gen + 1, 1 - J.half, slotM J⟩ := by
    refine hds_new hsl hhd (fun p hp => ?_)
    rw [hat _ (by omega), if_neg (by omega), if_neg (by omega)] at hp
    have := (hds_ok L).most (1 - slotM J) (by omega) p hp
    omega
  have hnb := needs_len hlen
  have hgg : 1 <= J.gen + 1 /\ J.gen + 1 < 4294967296 := by omega
  have hcell : ∀ i, 2 <= i -> i < 2 + 2 * z -> ∀ c, cellM (strAt L' i) = some c -> (c.gen = J.gen + 1 /\ 2 + (1 - J.half) * z <= i /\ i < 2 + (1 - J.half) * z + needsM bs) \/ c.gen <= J.gen := by
    intro i h2 h3 c hc
    rw [hat i (by omega), if_neg (by omega)] at hc
    split at hc
    . rename_i hi
      obtain ⟨c', hc', hg'⟩ := allM_cell hgg (q := 0) (by omega) hlen _ (strAt_in (L := allM (J.gen + 1) 0 bs) (i := i - (2 + (1 - J.half) * z)) (by rw [allM_len]; omega))
      rw [hc] at hc'
      injection hc' with hc'
      exact .inl ⟨by rw [hc']; exact hg', hi⟩
    . exact .inr (Nat.le_trans (hmm.2 i h2 h3 c hc) hm)
  refine ⟨by omega, ?_, by simp only; omega, hds, ?_, hgg, fun i hi => ?_, hfit, fun i hi1 hi2 c hc => ?_, rfl, rfl, rfl, hlen⟩
  . simp only; omega
  . apply Nat.le_antisymm
    . refine mostL_le (by rw [hds]; exact Nat.le_refl _) (fun i h2 h3 c hc => ?_)
      rcases hcell i h2 h3 c hc with h | h
      . simp only; omega
      . simp only; omega
    . have := (mostL_ge (L := L') (z := z) (by omega)).1
      rw [hds] at this
      exact this
  . simp only at hi ⊢
    rw [hat _ (by omega), if_neg (by omega), if_pos (by omega)]
    congr 1; omega
  . simp only at hi1 hi2 hc ⊢
    rcases hcell _ (by omega) (by omega) c hc with h | h
    . omega
    . omega
theorem append_qt {D : Dk} (q : Qt D) {J : Jn} {b : B8} (ho : J.closed = false) (hb : b.length <= 262144) (hfit : (needM b.length : Int) <= leftM D J) :
    ∃ D', appendM D J b = (D', { J with used := J.used + needM b.length, n := J.n + 1 }, 0) /\ Qt D' /\ D'.W = [] /\ Shp D D' ∧
      ∀ i, i < D.lasts.length -> strAt D'.lasts i = if firstM D J.half + J.used <= i /\ i < firstM D J.half + J.used + needM b.length then cellAt J.gen J.n b (i - (firstM D J.half + J.used)) else curAt D i := by
  have hn := needM_pos hb
  have hl : (needM b.length : Int) <= roomM D - firstM D J.half - J.used := by unfold leftM at hfit; omega
  obtain ⟨e1, l1⟩ := layJ_qt (cellsM J.gen J.n b) D (firstM D J.half + J.used) q cellsM_all (fun _ => by rw [cellsM_len]; omega)
  refine ⟨_, ?_, l1.qt, l1.w, l1.sh, fun i hi => ?_⟩
  . unfold appendM
    rw [if_neg (by rw [ho]; decide), if_neg (by omega), if_neg (by omega), if_neg (by rw [e1]; decide)]
  . rw [l1.at_ i hi, cellsM_len]
    split
    . rename_i h
      unfold strAt cellsM
      rw [List.getElem?_map, List.getElem?_range (by omega)]; rfl
    . rfl
theorem needs_app : ∀ (bs : List B8) (b : B8), needsM (bs ++ [b]) = needsM bs + needM b.length
  | [], b => by simp [needsM]
  | c :: bs, b => by rw [List.cons_append, needsM, needs_app bs b, needsM]; omega
theorem allM_app (g : Nat) : ∀ (q : Nat) (bs : List B8) (b : B8), allM g q (bs ++ [b]) = allM g q bs ++ cellsM g (q + bs.length) b
  | q, [], b => by simp [allM]
  | q, c :: bs, b => by rw [List.cons_append, allM, allM_app g (q + 1) bs b, allM, List.length_cons, List.append_assoc, show q + 1 + bs.length = q + (bs.length + 1) by omega]
theorem append_live {L L' : List B8} {z : Nat} {J : Jn} {bs : List B8} {b : B8} (l : Live L z J bs) (hl : L'.length = L.length) (hzb : z <= 8192) (hb : b.length <= 262144) (hfit : needsM bs + needM b.length <= z)
    (hat : ∀ i, i < L.length -> strAt L' i = if 2 + J.half * z + J.used <= i /\ i < 2 + J.half * z + J.used + needM b.length then cellAt J.gen J.n b (i - (2 + J.half * z + J.used)) else strAt L i) :
    Live L' z { J with used := J.used + needM b.length, n := J.n + 1 } (bs ++ [b]) := by
  have hu := l.used
  have hz := l.room
  have hmul := half_mul l.half z
  have hnb := needs_len l.len
  have hnp := needM_pos hb
  have hh := l.half
  have hlen : ∀ x ∈ bs ++ [b], x.length <= 262144 := fun x hx => by
    rcases List.mem_append.1 hx with h | h
    . exact l.len x h
    . rw [List.mem_singleton.1 h]; exact hb
  have h01 : strAt L' 0 = strAt L 0 /\ strAt L' 1 = strAt L 1 := ⟨by rw [hat 0 (by omega), if_neg (by omega)], by rw [hat 1 (by omega), if_neg (by omega)]⟩
  have hds : hdsL L' = hdsL L := by unfold hdsL; rw [h01.1, h01.2]
  have hnew : ∀ i, i < needM b.length -> cellM (cellAt J.gen J.n b i) = some ⟨J.gen, J.n, i, needM b.length, (b.drop (110 * i)).take 110⟩ := fun i hi => cellAt_ok l.gen (by rw [l.n]; omega) hb hi
  refine ⟨by omega, l.s, l.half, by rw [hds]; exact l.hd, ?_, l.gen, fun i hi => ?_, by rw [needs_app]; exact hfit, fun i hi1 hi2 c hc => ?_, by rw [needs_app]; simp only; omega, by simp only [List.length_append, List.length_singleton]; rw [l.n], l.open_, hlen⟩
  . apply Nat.le_antisymm
    . have hm := mostL_ge hz
      have := l.most
      refine mostL_le (by rw [hds]; simp only; omega) (fun i h2 h3 c hc => ?_)
      rw [hat i (by omega)] at hc
      split at hc
      . rw [hnew _ (by omega)] at hc
        injection hc with hc
        rw [<- hc]; exact Nat.le_refl _
      . have := hm.2 i h2 h3 c hc
        simp only; omega
    . have := (mostL_ge (L := L') (z := z) (by omega)).1
      rw [hds, l.hd] at this
      exact this
  . rw [needs_app] at hi
    simp only
    rw [allM_app, strAt_app, allM_len, hat _ (by omega)]
    by_cases h : i < needsM bs
    . rw [if_neg (by omega), if_pos h]; exact l.cells i h
    . rw [if_pos (by omega), if_neg h]
      unfold strAt cellsM
      rw [List.getElem?_map, List.getElem?_range (by omega), Nat.zero_add, l.n]
      simp only [Option.map_some, Option.getD_some]
      congr 1; omega
  . rw [needs_app] at hi1
    simp only at hc ⊢
    rw [hat _ (by omega), if_neg (by omega)] at hc
    exact l.free i (by omega) hi2 c hc
end Go.Proofs.YtmbpjgjajedonaaDoor
