/- Rules of the light walk: rows that grow, slices that are only read, structs that are built. -/
import Derived.Test.YtibkffoeioidlaaDoorLtE
namespace Go.Proofs.YtibkffoeioidlaaDoor
set_option linter.all false
set_option maxRecDepth 4000
open Go.RowKit

def bytesR (l : List UInt8) : List (List Value) := l.map fun b => [.int .u8 b.toNat]
def strsR (l : List (List UInt8)) : List (List Value) := l.map fun s => [str s]
theorem rowed_bytes (l : List UInt8) : Rowed 1 (bytesR l) := by intro r hr; simp [bytesR] at hr; obtain ⟨b, _, rfl⟩ := hr; rfl
theorem rowed_strs (l : List (List UInt8)) : Rowed 1 (strsR l) := by intro r hr; simp [strsR] at hr; obtain ⟨b, _, rfl⟩ := hr; rfl
@[simp] theorem bytesR_length (l : List UInt8) : (bytesR l).length = l.length := by simp [bytesR]
@[simp] theorem strsR_length (l : List (List UInt8)) : (strsR l).length = l.length := by simp [strsR]
theorem bytesR_append (a b : List UInt8) : bytesR (a ++ b) = bytesR a ++ bytesR b := by simp [bytesR]
theorem strsR_append (a b : List (List UInt8)) : strsR (a ++ b) = strsR a ++ strsR b := by simp [strsR]
theorem bytesR_flatten (l : List UInt8) : (bytesR l).flatten = l.map fun b => Value.int .u8 b.toNat := by
  induction l with
  | nil => rfl
  | cons b l ih => simp only [bytesR, List.map_cons, List.flatten_cons] at ih ⊢; rw [ih]; rfl
theorem flatten_length {sz : Nat} : ∀ {rows : List (List Value)}, Rowed sz rows -> rows.flatten.length = rows.length * sz
  | [], _ => by simp
  | r :: l, h => by
    have h1 := h r (by simp)
    have h2 := flatten_length (rows := l) fun x hx => h x (by simp [hx])
    simp [h1, h2, Nat.succ_mul, Nat.add_comm]
theorem flatten_get {sz : Nat} : ∀ {rows : List (List Value)}, Rowed sz rows -> ∀ (i : Nat) (r : List Value), rows[i]? = some r -> ∀ j, j < sz -> rows.flatten[i * sz + j]? = r[j]?
  | [], _, i, r, h, _, _ => by simp at h
  | q :: l, hw, 0, r, h, j, hj => by
    simp at h
    subst h
    have h1 := hw q (by simp)
    simp only [List.flatten_cons, Nat.zero_mul, Nat.zero_add]
    rw [List.getElem?_append_left (by omega)]
  | q :: l, hw, i + 1, r, h, j, hj => by
    have h1 := hw q (by simp)
    have := flatten_get (rows := l) (fun x hx => hw x (by simp [hx])) i r (by simpa using h) j hj
    simp only [List.flatten_cons]
    rw [List.getElem?_append_right (by rw [h1, Nat.succ_mul]; omega), h1, show (i + 1) * sz + j - sz = i * sz + j by rw [Nat.succ_mul]; omega]
    exact this
theorem Rowed.append {sz : Nat} {a b : List (List Value)} (h : Rowed sz a) (k : Rowed sz b) : Rowed sz (a ++ b) := by
  intro r hr
  rcases List.mem_append.1 hr with hr | hr
  . exact h r hr
  . exact k r hr

def Src (P : Program) (h : Heap) (H : List Chunk) (sz : Nat) (x : Value) (rows : List (List Value)) : Prop :=
  ∀ (c : Ctx) (w : World), St c h H w -> ∀ w' : World, w'.heap = w.heap -> (Builtin.lenOf x).run P w' = .ok rows.length w' /\ (Builtin.firstCells sz rows.length x).run P w' = .ok rows.flatten.toArray w'

theorem cell_heap {w w' : World} (h : w'.heap = w.heap) (a : Addr) : w'.cell? a = w.cell? a := by simp [World.cell?, h]

theorem Src.blk {P : Program} {h : Heap} {H Hr : List Chunk} {sz g n c : Nat} {e : TypeId} {cs : List Value} {rows : List (List Value)} (ht : Take (.blk g cs e) H Hr) (hr : rows.flatten = cs) (hw : Rowed sz rows) (hn : n = rows.length) :
    Src P h H sz (.slice (some ⟨g, 0, none⟩) n c) rows := by
  subst hn
  intro cx w s w' hh
  refine ⟨by simp [Builtin.lenOf], ?_⟩
  refine run_firstCells_some w' sz rows.length ⟨g, 0, none⟩ rows.length c rows.flatten (flatten_length hw) fun j v hj => ?_
  rw [cell_heap hh, Addr.add_lit, blk_cell (s.own _ ht.mem), ← hr]
  simpa using hj

structure HSl (h : Heap) (v : Value) (sz : Nat) (rows : List (List Value)) : Prop where
  rowed : Rowed sz rows
  form : ∃ A c, v = .slice A rows.length c /\ rows.length <= c /\ c <= maxLen /\ (rows ≠ [] -> ∃ ad, A = some ad /\ ∀ j u, rows.flatten[j]? = some u -> Heap.cell? h (ad.add j) = some u)
theorem HSl.mono {h h' : Heap} {v : Value} {sz : Nat} {rows : List (List Value)} (s : HSl h v sz rows) (hl : Heap.le h h') : HSl h' v sz rows := by
  obtain ⟨A, c, h1, h2, h3, h4⟩ := s.form
  refine ⟨s.rowed, A, c, h1, h2, h3, fun hne => ?_⟩
  obtain ⟨ad, h5, h6⟩ := h4 hne
  exact ⟨ad, h5, fun j u hj => Heap.cell_mono hl (h6 j u hj)⟩
theorem HSl.nil (h : Heap) (sz : Nat) : HSl h (.slice none 0 0) sz [] := ⟨fun _ hr => absurd hr (by simp), none, 0, rfl, Nat.le_refl _, Nat.zero_le _, fun hne => absurd rfl hne⟩
theorem HSl.len {h : Heap} {v : Value} {sz : Nat} {rows : List (List Value)} (s : HSl h v sz rows) : rows.length <= 9223372036854775807 := by
  obtain ⟨A, c, _, h2, h3, _⟩ := s.form
  simp only [maxLen] at h3; omega

theorem Src.imm {P : Program} {h : Heap} {H : List Chunk} {sz : Nat} {v : Value} {rows : List (List Value)} (s : HSl h v sz rows) : Src P h H sz v rows := by
  intro cx w st w' hh
  obtain ⟨A, c, rfl, h2, h3, h4⟩ := s.form
  refine ⟨by simp [Builtin.lenOf], ?_⟩
  by_cases hne : rows = []
  . subst hne
    cases A with
    | none => simp [Builtin.firstCells]
    | some ad => exact run_firstCells_some w' sz 0 ad 0 c [] (by simp) (fun j v hj => by simp at hj)
  . obtain ⟨ad, rfl, h6⟩ := h4 hne
    exact run_firstCells_some w' sz rows.length ad rows.length c rows.flatten (flatten_length s.rowed) fun j v hj => by
      rw [cell_heap hh]; exact imm_cell st (h6 j v hj)

theorem Src.str {P : Program} {h : Heap} {H : List Chunk} {l : List UInt8} : Src P h H 1 (str l) (bytesR l) := by
  intro cx w st w' hh
  refine ⟨by simp [Builtin.lenOf, Go.Proofs.YtibkffoeioidlaaDoor.str, ba_size], ?_⟩
  simp only [Builtin.firstCells, Go.Proofs.YtibkffoeioidlaaDoor.str, bytesR_length, ba_extract, bytesR_flatten]
  simp

theorem row_cells {w : World} {g n cap : Nat} {e : TypeId} {sz : Nat} {rows : List (List Value)} (hr : (Chunk.row (.slice (some ⟨g, 0, none⟩) n cap) e sz rows).holds w) :
    n = rows.length /\ ∀ j u, rows.flatten[j]? = some u -> w.cell? ⟨g, j, none⟩ = some u := by
  rcases hr.2 with ⟨h0, _⟩ | ⟨g', cap', cur, fz, hv, hb, hu, hn, hc, hs, htk⟩
  . cases h0
  . injection hv with e1 e2 e3
    injection e1 with e1
    injection e1 with e1
    subst e1 e2 e3
    refine ⟨rfl, fun j u hj => ?_⟩
    have hlt : j < rows.length * sz := by rw [<- flatten_length hr.1]; exact (List.getElem?_eq_some_iff.1 hj).1
    rw [<- htk, List.getElem?_take_of_lt hlt] at hj
    simp only [World.cell?, hb]
    simpa using hj
theorem row_form {w : World} {v : Value} {e : TypeId} {sz : Nat} {rows : List (List Value)} (hr : (Chunk.row v e sz rows).holds w) : ∃ A cap, v = .slice A rows.length cap /\ rows.length <= maxLen /\ (rows ≠ [] -> ∃ g, A = some ⟨g, 0, none⟩) := by
  rcases hr.2 with ⟨rfl, rfl⟩ | ⟨g, cap, cur, fz, rfl, _, _, h1, h2, _⟩
  . exact ⟨none, 0, rfl, Nat.zero_le _, fun h => absurd rfl h⟩
  . exact ⟨_, cap, rfl, Nat.le_trans h1 h2, fun _ => ⟨g, rfl⟩⟩

theorem Src.row {P : Program} {h : Heap} {H Hr : List Chunk} {sz : Nat} {e : TypeId} {v : Value} {rows : List (List Value)} (ht : Take (.row v e sz rows) H Hr) : Src P h H sz v rows := by
  intro cx w st w' hh
  have hr := st.own _ ht.mem
  obtain ⟨A, cap, rfl, h1, h2⟩ := row_form hr
  refine ⟨by simp [Builtin.lenOf], ?_⟩
  by_cases hne : rows = []
  . subst hne
    cases A with
    | none => simp [Builtin.firstCells]
    | some ad => exact run_firstCells_some w' sz 0 ad 0 cap [] (by simp) (fun j v hj => by simp at hj)
  . obtain ⟨g, rfl⟩ := h2 hne
    exact run_firstCells_some w' sz rows.length _ rows.length cap rows.flatten (flatten_length hr.1) fun j v hj => by
      rw [cell_heap hh, Addr.add_lit]; simpa using (row_cells hr).2 j v hj

set_option maxHeartbeats 1000000 in
theorem run_append_row {P : Program} {c : Ctx} {h : Heap} {H : List Chunk} {w : World} (st : St c h H w) {t t2 e ty : TypeId} {td2 : TD} {sz by_ sz1 by1 sz2 by2 : Nat} {z z1 z2 : Value} {td : TD} (ht : Ty P t (.slice e) sz1 by1 z1) (he : Ty P e td sz by_ z)
    (ht2 : Ty P t2 td2 sz2 by2 z2) (h2 : (∃ e2, td2 = .slice e2) \/ td2 = .str) (hz : (cellsL z).length = sz) (hsz : 0 < sz)
    {v x : Value} {rows news : List (List Value)} (hr : (Chunk.row v e sz rows).holds w) (hx : Src P h H sz x news) (hnw : Rowed sz news) (h1 : ∀ r ∈ news, ∀ u ∈ r, u.oneCell' = true)
    (hb : (rows.length + news.length) * by_ <= 140737488355328) (h63 : rows.length + news.length <= 9223372036854775807) :
    ∃ v' w', (Builtin.append_ #[t, t2] ty #[v, x]).run P w = .ok v' w' /\ (Chunk.row v' e sz (rows ++ news)).holds w' /\ w'.os = w.os /\ w'.tape = w.tape /\ w'.output = w.output ∧
      ((v' = v /\ news = [] /\ w' = w) \/ (∃ g, v.ownBlock = some g /\ v'.ownBlock = some g /\ w'.heap.size = w.heap.size /\ ∀ b, b ≠ g -> w'.heap[b]? = w.heap[b]?) ∨
       (∃ o, v'.ownBlock = some w.heap.size /\ w'.heap = w.heap.push o)) := by
  have hu1 := ht.fits
  simp only [TD.fits] at hu1
  obtain ⟨i, hi, hi1, hi2, hi3⟩ := he.info
  subst hi1 hi2
  have hzero : ∃ u2, P.underlying t2 = some u2 /\ ((∃ e2, u2 = .slice e2) \/ u2 = .string) := by
    have := ht2.fits
    rcases h2 with ⟨e2, rfl⟩ | rfl <;> simp only [TD.fits] at this
    . exact ⟨_, this, .inl ⟨_, rfl⟩⟩
    . exact ⟨_, this, .inr rfl⟩
  obtain ⟨u2, hu2, hz2⟩ := hzero
  obtain ⟨hx1, hx2⟩ := hx c w st w rfl
  obtain ⟨hd1, hd2⟩ := hx c w st w.drew rfl
  have hfl := flatten_length hnw
  have hsn : ∀ u ∈ news.flatten, u.oneCell' = true := fun u hu => by
    obtain ⟨r, hr1, hr2⟩ := List.mem_flatten.1 hu
    exact h1 r hr1 u hr2
  have hrl := flatten_length hr.1
  have hrow : Rowed i.size (rows ++ news) := hr.1.append hnw
  -- the arm that grows
  have grow : ∀ (A : Option Addr) (cap : Nat), cap < rows.length + news.length -> v = .slice A rows.length cap -> ((Builtin.firstCells i.size rows.length v).run P w.drew = .ok rows.flatten.toArray w.drew) →
      ∃ v' w', (Builtin.append_ #[t, t2] ty #[v, x]).run P w = .ok v' w' /\ (Chunk.row v' e i.size (rows ++ news)).holds w' /\ w'.os = w.os /\ w'.tape = w.tape /\ w'.output = w.output ∧
        (∃ o, v'.ownBlock = some w.heap.size /\ w'.heap = w.heap.push o) := by
    intro A cap hcap hv hold
    subst hv
    have hn : ¬ (rows.length + news.length <= cap) := by omega
    have h63' : ¬ (9223372036854775807 < ((rows.length : Int) + (news.length : Int))) := by omega
    have hgf := growslice_fits hcap hb
    have h48' : ¬ (281474976710656 < Builtin.nextslicecap (rows.length + news.length) cap * i.bytes) := by omega
    have hge := grownCap_ge w (rows.length + news.length) cap e
    have hcm : grownCap w (rows.length + news.length) cap e <= maxLen := grownCap_le_maxLen w (rows.length + news.length) cap e (by simp only [maxLen]; omega)
    refine ⟨.slice (some ⟨w.heap.size, 0, none⟩) (rows.length + news.length) (grownCap w (rows.length + news.length) cap e),
      w.drew.alloc (.cells (rows.flatten.toArray ++ news.flatten.toArray ++ Builtin.zeroCells z.cells (grownCap w (rows.length + news.length) cap e - (rows.length + news.length))) e), ?_, ⟨hrow, .inr ⟨w.heap.size, _, _, (0, 0), ?_, heap_alloc_new w.drew _, fun j _ => by simp, ?_, hcm, ?_, ?_⟩⟩, rfl, rfl, rfl, ⟨_, rfl, rfl⟩⟩
    . rcases hz2 with ⟨e2, rfl⟩ | rfl
      all_goals
        simp [Builtin.append_, run_underlying hu1, run_underlying hu2, sizeOf, typeInfo, zeroValue, hi, hi3, hx1, hn, h63', h48', Question.forced, hold, hd2, newRow, grownCap]
        congr 2
        apply Array.ext'
        simp [List.append_assoc]
    . simp
    . simpa using hge
    . simp only [Array.size_append, List.size_toArray, hrl, hfl, cellsL_eq, size_zeroCells, hz, ← Nat.add_mul]
      congr 1
      omega
    . simp only [Array.toList_append, List.append_assoc, List.flatten_append]
      rw [<- List.append_assoc, List.take_left' (by simp [hrl, hfl, Nat.add_mul])]
  rcases hr.2 with ⟨rfl, rfl⟩ | ⟨g, cap, cur, fz, rfl, hg, hu, hnc, hcm, hcs, htk⟩
  . by_cases hm : news = []
    . subst hm
      refine ⟨.slice none 0 0, w, ?_, ⟨hrow, .inl ⟨rfl, rfl⟩⟩, rfl, rfl, rfl, .inl ⟨rfl, rfl, rfl⟩⟩
      rcases hz2 with ⟨e2, rfl⟩ | rfl
      all_goals
        simp only [List.length_nil] at hx1 hx2
        simp [Builtin.append_, run_underlying hu1, run_underlying hu2, sizeOf, typeInfo, hi, hx1, hx2]
    . have hpos : 0 < news.length := List.length_pos_iff.2 hm
      obtain ⟨v', w', r1, r2, r3, r4, r5, r6⟩ := grow none 0 (by simpa using hpos) rfl (by simp [Builtin.firstCells])
      exact ⟨v', w', r1, r2, r3, r4, r5, .inr (.inr r6)⟩
  . by_cases hroom : rows.length + news.length <= cap
    . have hcl : cur.toList.length = cap * i.size := by rw [Array.length_toList, hcs]
      have hfit : rows.length * i.size + 0 + news.flatten.length <= cur.toList.length := by
        rw [hfl, hcl, Nat.add_zero, ← Nat.add_mul]; exact Nat.mul_le_mul_right _ hroom
      obtain ⟨w', cur', r1, r2, r3, r4, r5, r6, r7, r8, r9, r10⟩ := run_storeCells_blk P g (rows.length * i.size) e news.flatten 0 cur.toList w fz (by simpa using hg) (by simpa using hu) hfit hsn
      refine ⟨.slice (some ⟨g, 0, none⟩) (rows.length + news.length) cap, w', ?_, ⟨hrow, .inr ⟨g, cap, cur'.toArray, fz, by simp, r2, by simpa [r3] using hu, by simpa using hroom, hcm, by simp [r3, hcs], ?_⟩⟩, r6, r7, r8, .inr (.inl ⟨g, rfl, rfl, r9, r10⟩)⟩
      . rcases hz2 with ⟨e2, rfl⟩ | rfl
        all_goals simp [Builtin.append_, run_underlying hu1, run_underlying hu2, sizeOf, typeInfo, hi, hx1, hx2, hroom, Addr.add_lit, r1]
      . simp only [List.flatten_append]
        have hl2 : (rows ++ news).length * i.size = rows.flatten.length + news.flatten.length := by simp [hrl, hfl, Nat.add_mul]
        rw [hl2]
        apply list_ext_get (by rw [List.length_take, List.length_append, hrl, hfl, ← Nat.add_mul]; show min _ cur'.length = _; rw [r3, hcl]; exact Nat.min_eq_left (Nat.mul_le_mul_right _ hroom))
        intro j hj
        simp only [List.length_append] at hj
        rw [List.getElem?_take_of_lt hj]
        by_cases hj2 : j < rows.flatten.length
        . rw [List.getElem?_append_left hj2, r5 j (.inl (by omega)), ← htk, List.getElem?_take_of_lt (by omega)]
        . rw [List.getElem?_append_right (by omega)]
          have := r4 (j - rows.flatten.length) (by omega)
          rw [<- this]
          congr 1
          omega
    . have hold : (Builtin.firstCells i.size rows.length (.slice (some ⟨g, 0, none⟩) rows.length cap)).run P w.drew = .ok rows.flatten.toArray w.drew :=
        run_firstCells_some w.drew i.size rows.length _ rows.length cap rows.flatten hrl fun j u hj => by rw [Addr.add_lit, World.cell?_drew]; simpa using (row_cells hr).2 j u hj
      obtain ⟨v', w', r1, r2, r3, r4, r5, r6⟩ := grow _ cap (by omega) rfl hold
      exact ⟨v', w', r1, r2, r3, r4, r5, .inr (.inr r6)⟩
end Go.Proofs.YtibkffoeioidlaaDoor
