/- Rules of the light walk: a row that is cut, and grows within its room. -/
import Derived.Test.YtpcfnhjeacahdaaLtN
namespace Go.Proofs.Ytpcfnhjeacahdaa
set_option linter.all false
open Go.RowKit

/-- Append within the room. -/
theorem run_append_fit {P : Program} {c : Ctx} {h : Heap} {H : List Chunk} {w : World} (st : St c h H w) {t e ty : TypeId} {sz by_ sz1 by1 : Nat} {z z1 : Value} {td : TD} (ht : Ty P t (.slice e) sz1 by1 z1) (he : Ty P e td sz by_ z)
    {g cap : Nat} {x : Value} {rows news : List (List Value)} (hr : (Chunk.row (.slice (some ⟨g, 0, none⟩) rows.length cap) e sz rows).holds w) (hx : Src P h H sz x news) (hnw : Rowed sz news) (h1 : ∀ r ∈ news, ∀ u ∈ r, u.oneCell' = true)
    (hroom : rows.length + news.length ≤ cap) :
    ∃ w', (Builtin.append_ #[t, t] ty #[.slice (some ⟨g, 0, none⟩) rows.length cap, x]).run P w = .ok (.slice (some ⟨g, 0, none⟩) (rows.length + news.length) cap) w' ∧ (Chunk.row (.slice (some ⟨g, 0, none⟩) (rows.length + news.length) cap) e sz (rows ++ news)).holds w' ∧
      w'.os = w.os ∧ w'.tape = w.tape ∧ w'.output = w.output ∧ w'.heap.size = w.heap.size ∧ ∀ b, b ≠ g → w'.heap[b]? = w.heap[b]? := by
  have hu1 := ht.fits
  simp only [TD.fits] at hu1
  obtain ⟨i, hi, hi1, hi2, hi3⟩ := he.info
  subst hi1 hi2
  obtain ⟨hx1, hx2⟩ := hx c w st w rfl
  have hfl := flatten_length hnw
  have hsn : ∀ u ∈ news.flatten, u.oneCell' = true := fun u hu => by
    obtain ⟨r, hr1, hr2⟩ := List.mem_flatten.1 hu
    exact h1 r hr1 u hr2
  have hrl := flatten_length hr.1
  have hrow : Rowed i.size (rows ++ news) := hr.1.append hnw
  rcases hr.2 with ⟨h0, _⟩ | ⟨g', cap', cur, fz, hv, hg, hu, hnc, hcm, hcs, htk⟩
  · simp at h0
  · simp only [Value.slice.injEq, Option.some.injEq, Addr.mk.injEq, and_true, true_and] at hv
    obtain ⟨rfl, rfl⟩ := hv
    have hcl : cur.toList.length = cap * i.size := by rw [Array.length_toList, hcs]
    have hfit : rows.length * i.size + 0 + news.flatten.length ≤ cur.toList.length := by
      rw [hfl, hcl, Nat.add_zero, ← Nat.add_mul]; exact Nat.mul_le_mul_right _ hroom
    obtain ⟨w', cur', r1, r2, r3, r4, r5, r6, r7, r8, r9, r10⟩ := run_storeCells_blk P g (rows.length * i.size) e news.flatten 0 cur.toList w fz (by simpa using hg) (by simpa using hu) hfit hsn
    refine ⟨w', ?_, ⟨hrow, .inr ⟨g, cap, cur'.toArray, fz, by simp, r2, by simpa [r3] using hu, by simpa using hroom, hcm, by simp [r3, hcs], ?_⟩⟩, r6, r7, r8, r9, r10⟩
    · simp [Builtin.append_, run_underlying hu1, sizeOf, typeInfo, hi, hx1, hx2, hroom, Addr.add_lit, r1]
    · simp only [List.flatten_append]
      have hl2 : (rows ++ news).length * i.size = rows.flatten.length + news.flatten.length := by simp [hrl, hfl, Nat.add_mul]
      rw [hl2]
      apply list_ext_get (by rw [List.length_take, List.length_append, hrl, hfl, ← Nat.add_mul]; show min _ cur'.length = _; rw [r3, hcl]; exact Nat.min_eq_left (Nat.mul_le_mul_right _ hroom))
      intro j hj
      simp only [List.length_append] at hj
      rw [List.getElem?_take_of_lt hj]
      by_cases hj2 : j < rows.flatten.length
      · rw [List.getElem?_append_left hj2, r5 j (.inl (by omega)), ← htk, List.getElem?_take_of_lt (by omega)]
      · rw [List.getElem?_append_right (by omega)]
        have := r4 (j - rows.flatten.length) (by omega)
        rw [← this]
        congr 1
        omega
/-- Less of a row. -/
theorem row_cut {w : World} {g n cap e sz i : Nat} {rows : List (List Value)} (hr : (Chunk.row (.slice (some ⟨g, 0, none⟩) n cap) e sz rows).holds w) (hi : i ≤ rows.length) : (Chunk.row (.slice (some ⟨g, 0, none⟩) i cap) e sz (rows.take i)).holds w := by
  have hl : (rows.take i).length = i := by rw [List.length_take]; omega
  have hw : Rowed sz (rows.take i) := fun r hm => hr.1 r (List.mem_of_mem_take hm)
  rcases hr.2 with ⟨h0, _⟩ | ⟨g', cap', cur, fz, hv, hg, hu, hnc, hcm, hcs, htk⟩
  · simp at h0
  · simp only [Value.slice.injEq, Option.some.injEq, Addr.mk.injEq, and_true] at hv
    obtain ⟨rfl, rfl, rfl⟩ := hv
    refine ⟨hw, .inr ⟨g, cap, cur, fz, by rw [hl], hg, hu, by omega, hcm, hcs, ?_⟩⟩
    have hf := flatten_length hw
    have e1 : rows.flatten = (rows.take i).flatten ++ (rows.drop i).flatten := by rw [← List.flatten_append, List.take_append_drop]
    rw [hl]
    rw [hl] at hf
    have h2 : cur.toList.take (i * sz) = (cur.toList.take (rows.length * sz)).take (i * sz) := by
      rw [List.take_take, Nat.min_eq_left (Nat.mul_le_mul_right _ hi)]
    rw [h2, htk, e1, List.take_left' hf]
section
variable {E : Env} {k : List It} {f : Fr} {h : Heap} {H Hr : List Chunk} {st : Md} [hmd : OkMd st h H] {all : Array Oper} {rest : List Oper} {d : Nat} {ty : TypeId} {pos : String} {aft : Array Edge}

/-- A slice of a slice. -/
theorem G.sliceSl {t e : TypeId} {x : Operand} {lo hi : Option Operand} {A : Option Addr} {n cap : Nat} {a b : Int} {td : TD} {sz by_ sz1 by1 : Nat} {z z1 : Value} (hx : ev f x = some (.slice A n cap)) (hlo : optI f lo 0 = some a) (hhi : optI f hi n = some b)
    (ht : Ty E.P t (.slice e) sz1 by1 z1) (he : Ty E.P e td sz by_ z) (hd : Nat.blt d E.n = true) {a' b' : Nat} (ha' : a.toNat = a') (hb' : b.toNat = b') (hb : 0 ≤ a ∧ a ≤ b ∧ b ≤ cap)
    (g : G E (.ops st all rest :: k) ((d, .slice (if cap = a' then A else A.map (·.add (a' * sz))) (b' - a') (cap - a')) :: f) h H) :
    G E (.ops st all (⟨some d, .slice t x lo hi none, ty, pos, aft, none⟩ :: rest) :: k) f h H := by
  subst ha' hb'
  refine G.opVal hd (fun _ ac w ha _ => ?_) g
  have hu := ht.fits
  simp only [TD.fits] at hu
  obtain ⟨i, hi1, hi2, hi3, hi4⟩ := he.info
  subst hi2
  have hs : ∀ {kd : IntKind} {q : Int} {y : Nat} {c : BoundsCode}, 0 ≤ q ∧ q ≤ y → (Instr.sliceBound (.int kd q) y c).run E.P w = .ok q.toNat w := fun hq => sliceBound_ok hq
  cases lo with
  | none =>
    simp only [optI, Option.some.injEq] at hlo
    subst hlo
    cases hi with
    | none =>
      simp only [optI, Option.some.injEq] at hhi
      subst hhi
      simp [execOp, Instr.sliceAt, Instr.slice, Instr.sliceBounds, ev_eq ha hx, run_underlying hu, sizeOf, typeInfo, hi1]
    | some y =>
      simp only [optI] at hhi
      split at hhi
      · rename_i kd q hy
        simp at hhi
        subst hhi
        have h1 := hs (kd := kd) (q := q) (y := cap) (c := .sliceAcap) (by omega)
        simp [execOp, Instr.sliceAt, Instr.slice, Instr.sliceBounds, ev_eq ha hx, ev_eq ha hy, run_underlying hu, sizeOf, typeInfo, hi1, h1]
      · cases hhi
  | some u =>
    simp only [optI] at hlo
    split at hlo
    · rename_i kl ql hl
      simp at hlo
      subst hlo
      cases hi with
      | none =>
        simp only [optI, Option.some.injEq] at hhi
        subst hhi
        have h1 := hs (kd := kl) (q := ql) (y := n) (c := .sliceB) (by omega)
        simp [execOp, Instr.sliceAt, Instr.slice, Instr.sliceBounds, ev_eq ha hx, ev_eq ha hl, run_underlying hu, sizeOf, typeInfo, hi1, h1]
      | some y =>
        simp only [optI] at hhi
        split at hhi
        · rename_i kd q hy
          simp at hhi
          subst hhi
          have h1 := hs (kd := kd) (q := q) (y := cap) (c := .sliceAcap) (by omega)
          have h2 := hs (kd := kl) (q := ql) (y := q.toNat) (c := .sliceB) (by omega)
          simp [execOp, Instr.sliceAt, Instr.slice, Instr.sliceBounds, ev_eq ha hx, ev_eq ha hy, ev_eq ha hl, run_underlying hu, sizeOf, typeInfo, hi1, h1, h2]
        · cases hhi
    · cases hlo
theorem pre_eq (A : Option Addr) (cap sz : Nat) : (if cap = 0 then A else A.map (·.add (0 * sz))) = A := by
  split
  · rfl
  · cases A <;> simp [Addr.add]
theorem G.slicePre {t e : TypeId} {x y : Operand} {A : Option Addr} {n cap : Nat} {b : Int} {kd : IntKind} {td : TD} {sz by_ sz1 by1 : Nat} {z z1 : Value} (hx : ev f x = some (.slice A n cap)) (hy : ev f y = some (.int kd b))
    (ht : Ty E.P t (.slice e) sz1 by1 z1) (he : Ty E.P e td sz by_ z) (hd : Nat.blt d E.n = true) {b' : Nat} (hb' : b.toNat = b') (hb : 0 ≤ b ∧ b ≤ cap)
    (g : G E (.ops st all rest :: k) ((d, .slice A b' cap) :: f) h H) :
    G E (.ops st all (⟨some d, .slice t x none (some y) none, ty, pos, aft, none⟩ :: rest) :: k) f h H := by
  refine G.sliceSl (a := 0) (a' := 0) hx rfl (b := b) (by simp [optI, hy]) ht he hd rfl hb' ⟨Int.le_refl _, hb.1, hb.2⟩ ?_
  rw [pre_eq, Nat.sub_zero, Nat.sub_zero]
  exact g
theorem G.sliceSl3 {t e : TypeId} {x lo hi mx : Operand} {A : Option Addr} {n cap : Nat} {a b m : Int} {kl kh km : IntKind} {td : TD} {sz by_ sz1 by1 : Nat} {z z1 : Value} (hx : ev f x = some (.slice A n cap)) (hlo : ev f lo = some (.int kl a)) (hhi : ev f hi = some (.int kh b)) (hmx : ev f mx = some (.int km m))
    (ht : Ty E.P t (.slice e) sz1 by1 z1) (he : Ty E.P e td sz by_ z) (hd : Nat.blt d E.n = true) (hb : 0 ≤ a ∧ a ≤ b ∧ b ≤ m ∧ m ≤ cap)
    (g : G E (.ops st all rest :: k) ((d, .slice (if m.toNat = a.toNat then A else A.map (·.add (a.toNat * sz))) (b.toNat - a.toNat) (m.toNat - a.toNat)) :: f) h H) :
    G E (.ops st all (⟨some d, .slice t x (some lo) (some hi) (some mx), ty, pos, aft, none⟩ :: rest) :: k) f h H := by
  refine G.opVal hd (fun _ ac w ha _ => ?_) g
  have hu := ht.fits
  simp only [TD.fits] at hu
  obtain ⟨i, hi1, hi2, hi3, hi4⟩ := he.info
  subst hi2
  have h0 : (Instr.sliceBound (.int km m) cap .slice3Acap).run E.P w = .ok m.toNat w := sliceBound_ok (by omega)
  have h1 : (Instr.sliceBound (.int kh b) m.toNat .slice3B).run E.P w = .ok b.toNat w := sliceBound_ok (by omega)
  have h2 : (Instr.sliceBound (.int kl a) b.toNat .slice3C).run E.P w = .ok a.toNat w := sliceBound_ok (by omega)
  simp [execOp, Instr.sliceAt, Instr.slice, Instr.sliceBounds, ev_eq ha hx, ev_eq ha hlo, ev_eq ha hhi, ev_eq ha hmx, run_underlying hu, sizeOf, typeInfo, hi1, h0, h1, h2]
end

/-- What stands behind in a row. -/
theorem Src.cutRow {P : Program} {h : Heap} {H Hr : List Chunk} {sz e g n cap j : Nat} {rows : List (List Value)} (ht : Take (.row (.slice (some ⟨g, 0, none⟩) n cap) e sz rows) H Hr) (hj : j ≤ rows.length) :
    Src P h H sz (.slice (if cap = j then some ⟨g, 0, none⟩ else (some (⟨g, 0, none⟩ : Addr)).map (·.add (j * sz))) (n - j) (cap - j)) (rows.drop j) := by
  intro cx w s w' hh
  have hr := s.own _ ht.mem
  obtain ⟨A, c', hf, _, _⟩ := row_form hr
  injection hf with e1 e2 e3
  subst e2
  have hl : (rows.drop j).length = rows.length - j := List.length_drop
  have hw1 : Rowed sz (rows.take j) := fun r hm => hr.1 r (List.mem_of_mem_take hm)
  have hw2 : Rowed sz (rows.drop j) := fun r hm => hr.1 r (List.mem_of_mem_drop hm)
  have hl1 := flatten_length hw1
  rw [List.length_take, Nat.min_eq_left hj] at hl1
  have ef : rows.flatten = (rows.take j).flatten ++ (rows.drop j).flatten := by rw [← List.flatten_append, List.take_append_drop]
  refine ⟨by simp [Builtin.lenOf, hl], ?_⟩
  rw [hl]
  by_cases hc : cap = j
  · rw [if_pos hc]
    have h0 : rows.drop j = [] := by
      rcases hr.2 with ⟨h0, _⟩ | ⟨g', cap', cur, fz, hv, hg, hu, hnc, _⟩
      · simp at h0
      · simp only [Value.slice.injEq, Option.some.injEq, Addr.mk.injEq, and_true, true_and] at hv
        obtain ⟨rfl, rfl⟩ := hv
        exact List.drop_eq_nil_of_le (by omega)
    refine run_firstCells_some w' sz (rows.length - j) ⟨g, 0, none⟩ (rows.length - j) (cap - j) (rows.drop j).flatten (by rw [flatten_length hw2, hl]) fun q v hq => ?_
    rw [h0] at hq; simp at hq
  · rw [if_neg hc, Option.map_some]
    refine run_firstCells_some w' sz (rows.length - j) _ (rows.length - j) (cap - j) (rows.drop j).flatten (by rw [flatten_length hw2, hl]) fun q v hq => ?_
    rw [add_add_, Addr.add_lit, Nat.zero_add, cell_heap hh]
    refine (row_cells hr).2 (j * sz + q) v ?_
    rw [ef, List.getElem?_append_right (by omega), hl1, Nat.add_sub_cancel_left]
    exact hq

section
variable {E : Env} {k : List It} {f : Fr} {h : Heap} {H Hr : List Chunk} {all : Array Oper} {rest : List Oper} {d : Nat} {ty : TypeId} {pos : String} {aft : Array Edge}

/-- What is between two places of a row goes. -/
theorem G.appendCut {t e : TypeId} {x y : Operand} {td : TD} {sz by_ sz1 by1 g n cap i j : Nat} {z z1 u : Value} {rows : List (List Value)} (hx : ev f x = some (.slice (some ⟨g, 0, none⟩) i cap)) (hy : ev f y = some u)
    (hu : u = .slice (if cap = j then some ⟨g, 0, none⟩ else (some (⟨g, 0, none⟩ : Addr)).map (·.add (j * sz))) (n - j) (cap - j))
    (ht : Ty E.P t (.slice e) sz1 by1 z1) (he : Ty E.P e td sz by_ z)
    (hH : Take (.row (.slice (some ⟨g, 0, none⟩) n cap) e sz rows) H Hr) (h1 : ∀ r ∈ rows, ∀ q ∈ r, q.oneCell' = true) (hd : Nat.blt d E.n = true) (hij : i ≤ j) (hj : j ≤ rows.length) (hnc : rows.length ≤ cap)
    (nx : G E (.ops .seq all rest :: k) ((d, .slice (some ⟨g, 0, none⟩) (i + (rows.length - j)) cap) :: f) h (.row (.slice (some ⟨g, 0, none⟩) (i + (rows.length - j)) cap) e sz (rows.take i ++ rows.drop j) :: Hr)) :
    G E (.ops .seq all (⟨some d, .call { callee := .builtin .append, args := #[x, y], argTypes := #[t, t] }, ty, pos, aft, none⟩ :: rest) :: k) f h H := by
  subst hu
  refine G.opGen fun a w ha hw => ?_
  have hr := hw.own _ hH.mem
  have hl1 : (rows.take i).length = i := by rw [List.length_take]; omega
  have hl2 : (rows.drop j).length = rows.length - j := List.length_drop
  have hcut := row_cut hr (show i ≤ rows.length by omega)
  have hw2 : Rowed sz (rows.drop j) := fun r hm => hr.1 r (List.mem_of_mem_drop hm)
  have hrun := run_append_fit (ty := ty) (rows := rows.take i) hw ht he (by rw [hl1]; exact hcut) (Src.cutRow hH hj) hw2 (fun r hm => h1 r (List.mem_of_mem_drop hm)) (by rw [hl1, hl2]; omega)
  rw [hl1, hl2] at hrun
  obtain ⟨w', r1, r2, r3, r4, r5, r6, r7⟩ := hrun
  refine ⟨.value _, w', _, h, _, ?_, .inl ⟨_, rfl, ha.put d _ hd⟩, hw.set (g := g) hH rfl rfl r2 r3 r4 r5 r6 r7, nx⟩
  rw [Option.map_some] at r1
  simp [execOp, resolve, invoke, builtin, ev_eq ha hx, ev_eq ha hy, r1]

theorem zeroCells_one {z : Value} {m : Nat} (hz : (cellsL z).all Value.oneCell' = true) : ∀ v ∈ (Builtin.zeroCells z.cells m).toList, v.oneCell' = true := by
  intro v hv
  simp only [Builtin.zeroCells, Array.toList_map, List.mem_map] at hv
  obtain ⟨q, hq, rfl⟩ := hv
  rw [cellsL_eq] at hq ⊢
  simp only [List.size_toArray, Array.toList_range, List.mem_range] at hq
  have hpos : 0 < (cellsL z).length := by
    rcases Nat.eq_zero_or_pos (cellsL z).length with h0 | h0
    · rw [h0] at hq; simp at hq
    · exact h0
  have hlt : q % (cellsL z).length < (cellsL z).length := Nat.mod_lt _ hpos
  simp only [List.size_toArray]
  rw [getElem!_pos (cellsL z).toArray (q % (cellsL z).length) (by simpa using hlt)]
  simp only [List.getElem_toArray]
  exact List.all_eq_true.1 hz _ (List.getElem_mem hlt)

/-- What is behind a row is cleared: the row stays. -/
theorem G.clearTail {t e : TypeId} {x : Operand} {dd : Option Nat} (hdd : dd = none) {td : TD} {sz by_ sz1 by1 g n cap p m c' : Nat} {z z1 u : Value} {rows : List (List Value)} (hx : ev f x = some u)
    (hu : u = .slice (if cap = p then some ⟨g, 0, none⟩ else (some (⟨g, 0, none⟩ : Addr)).map (·.add (p * sz))) m c')
    (ht : Ty E.P t (.slice e) sz1 by1 z1) (he : Ty E.P e td sz by_ z) (hz : (Nat.beq (cellsL z).length sz && (cellsL z).all Value.oneCell') = true)
    (hH : Take (.row (.slice (some ⟨g, 0, none⟩) n cap) e sz rows) H Hr) (hp : rows.length ≤ p) (hm : p + m ≤ cap)
    (nx : G E (.ops .seq all rest :: k) f h (.row (.slice (some ⟨g, 0, none⟩) n cap) e sz rows :: Hr)) :
    G E (.ops .seq all (⟨dd, .call { callee := .builtin .clear, args := #[x], argTypes := #[t] }, ty, pos, aft, none⟩ :: rest) :: k) f h H := by
  subst hu hdd
  rw [Bool.and_eq_true] at hz
  obtain ⟨hz0, hz1⟩ := hz
  have hz0 := Nat.eq_of_beq_eq_true hz0
  refine G.opGen fun a w ha hw => ?_
  have hu1 := ht.fits
  simp only [TD.fits] at hu1
  have hr := hw.own _ hH.mem
  by_cases hm0 : m = 0
  · subst hm0
    refine ⟨.value (.tuple #[]), w, f, h, _, ?_, .inl ⟨_, rfl, ha⟩, hw.sub ⟨[], by simpa using hH.perm⟩, nx⟩
    by_cases hc : cap = p <;> simp [execOp, resolve, invoke, builtin, ev_eq ha hx, Builtin.clear_, run_underlying hu1, hc]
  · have hc : ¬ cap = p := by omega
    rcases hr.2 with ⟨h0, _⟩ | ⟨g', cap', cur, fz, hv, hg, hu, hnc, hcm, hcs, htk⟩
    · simp at h0
    · simp only [Value.slice.injEq, Option.some.injEq, Addr.mk.injEq, and_true] at hv
      obtain ⟨rfl, rfl, rfl⟩ := hv
      have hsz : (Builtin.zeroCells z.cells m).toList.length = m * sz := by rw [Array.length_toList, size_zeroCells, cellsL_eq, List.size_toArray, hz0]
      have hcl : cur.toList.length = cap * sz := by rw [Array.length_toList, hcs]
      have hfit : p * sz + 0 + (Builtin.zeroCells z.cells m).toList.length ≤ cur.toList.length := by
        rw [hsz, hcl, Nat.add_zero, ← Nat.add_mul]; exact Nat.mul_le_mul_right _ hm
      obtain ⟨w', cur', r1, r2, r3, r4, r5, r6, r7, r8, r9, r10⟩ := run_storeCells_blk E.P g (p * sz) e _ 0 cur.toList w fz (by simpa using hg) (by simpa using hu) hfit (zeroCells_one hz1)
      have hrow : (Chunk.row (.slice (some ⟨g, 0, none⟩) rows.length cap) e sz rows).holds w' := by
        refine ⟨hr.1, .inr ⟨g, cap, cur'.toArray, fz, rfl, r2, by simpa [r3] using hu, hnc, hcm, by simp [r3, hcs], ?_⟩⟩
        rw [← htk]
        have hle : rows.length * sz ≤ p * sz := Nat.mul_le_mul_right _ hp
        have hle2 : rows.length * sz ≤ cap * sz := Nat.mul_le_mul_right _ hnc
        apply List.ext_getElem?
        intro q
        by_cases hq : q < rows.length * sz
        · rw [List.getElem?_take_of_lt hq, List.getElem?_take_of_lt hq]
          exact r5 q (.inl (by omega))
        · rw [List.getElem?_eq_none (by rw [List.length_take]; omega), List.getElem?_eq_none (by rw [List.length_take]; omega)]
      refine ⟨.value (.tuple #[]), w', f, h, _, ?_, .inl ⟨_, rfl, ha⟩, hw.set (g := g) hH rfl rfl hrow r6 r7 r8 r9 r10, nx⟩
      have hzv := run_zero he (w := w)
      obtain ⟨m', rfl⟩ : ∃ m', m = m' + 1 := ⟨m - 1, by omega⟩
      simp [execOp, resolve, invoke, builtin, ev_eq ha hx, Builtin.clear_, run_underlying hu1, hc, hzv, Addr.add_lit, r1]
end
end Go.Proofs.Ytpcfnhjeacahdaa
