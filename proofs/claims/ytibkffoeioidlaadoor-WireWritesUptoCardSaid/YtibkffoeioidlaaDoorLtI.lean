/- Rules of the light walk: structs and rows that are built, elements that are stored, bits, orders that are drawn, results in memory. -/
import Derived.Test.YtibkffoeioidlaaDoorLtH
namespace Go.Proofs.YtibkffoeioidlaaDoor
set_option linter.all false
set_option maxRecDepth 4000
open Go.RowKit

def buildL (f : Fr) (fs : List (Nat × Nat × Nat)) : List Value -> List (Nat × Operand) -> Option (List Value)
  | cs, [] => some cs
  | cs, (i, x) :: r => match nthF fs i, ev f x with
    | some (_, off, sz), some v => bif Nat.beq (cellsL v).length sz then (match putL cs off (cellsL v) with
      | some cs' => buildL f fs cs' r
      | none => none) else none
    | _, _ => none

theorem foldl_set (off : Nat) : ∀ (vs : List Value) (i : Nat) (cs : List Value), off + i + vs.length <= cs.length →
    ∃ r : List Value, (vs.zipIdx i).foldl (fun (cs : Array Value) (p : Value × Nat) => cs.setIfInBounds (off + p.2) p.1) cs.toArray = r.toArray /\ r.length = cs.length ∧
      (∀ j, j < vs.length -> r[off + i + j]? = vs[j]?) /\ (∀ j, j < off + i \/ off + i + vs.length <= j -> r[j]? = cs[j]?)
  | [], i, cs, _ => ⟨cs, by simp, rfl, fun j hj => by simp at hj, fun _ _ => rfl⟩
  | v :: vs, i, cs, hl => by
    simp only [List.length_cons] at hl
    have hlt : off + i < cs.length := by omega
    obtain ⟨r, r1, r2, r3, r4⟩ := foldl_set off vs (i + 1) (cs.set (off + i) v) (by simp; omega)
    refine ⟨r, ?_, by simpa using r2, fun j hj => ?_, fun j hj => ?_⟩
    . simp only [List.zipIdx_cons, List.foldl_cons]
      rw [show (cs.toArray.setIfInBounds (off + i) v) = (cs.set (off + i) v).toArray by simp]
      exact r1
    . cases j with
      | zero => rw [Nat.add_zero, r4 (off + i) (.inl (by omega))]; simp [hlt]
      | succ j =>
        have := r3 j (by simpa using hj)
        rw [show off + i + (j + 1) = off + (i + 1) + j by omega, this]; simp
    . simp only [List.length_cons] at hj
      rw [r4 j (by omega), List.getElem?_set_ne (by omega)]

theorem putL_len {cs : List Value} {o : Nat} {vs r : List Value} (h : putL cs o vs = some r) (hv : 0 < vs.length) : o + vs.length <= cs.length := by
  obtain ⟨p1, _, p3, _⟩ := putL_eq _ _ _ _ h
  rcases Nat.lt_or_ge cs.length (o + vs.length) with h' | h'
  . exfalso
    have := p3 (vs.length - 1) (by omega)
    rw [List.getElem?_eq_none (by omega), List.getElem?_eq_getElem (by omega)] at this
    cases this
  . exact h'

theorem fill_one {place : Nat -> Option (Nat × Nat)} {i off sz : Nat} {v : Value} {cs cs' : List Value} {rest : List (Nat × Value)} (hp : place i = some (off, sz)) (hl : (cellsL v).length = sz) (hpos : 0 < sz) (hput : putL cs off (cellsL v) = some cs') :
    Instr.fill place cs.toArray ((i, v) :: rest) = Instr.fill place cs'.toArray rest := by
  have hlen := putL_len hput (by omega)
  obtain ⟨p1, _, p3, p4⟩ := putL_eq _ _ _ _ hput
  obtain ⟨r, r1, r2, r3, r4⟩ := foldl_set off (cellsL v) 0 cs (by simpa using hlen)
  have hr : r = cs' := by
    apply list_ext_get (by omega)
    intro j hj
    by_cases hjo : j < off \/ off + (cellsL v).length <= j
    . rw [p4 j hjo, r4 j (by simpa using hjo)]
    . have h3 := p3 (j - off) (by omega)
      have h4 := r3 (j - off) (by omega)
      rw [show off + (j - off) = j by omega] at h3
      rw [show off + 0 + (j - off) = j by omega] at h4
      rw [h3, h4]
  subst hr
  have hsz : v.cells.size = sz := by rw [cellsL_eq]; simpa using hl
  simp only [Instr.fill, hp]
  rw [if_neg (by simp [hsz]; omega)]
  congr 1
  have hzi : (cellsL v).toArray.zipIdx = ((cellsL v).zipIdx).toArray := by apply Array.ext'; simp
  rw [cellsL_eq, hzi, List.foldl_toArray]
  simpa using r1

theorem mapM_places {P : Program} (w : World) : ∀ (l : List Field) (r : List (Nat × Nat)), l.map (fun f => (f.offset, (P.info? f.type).map (·.size))) = r.map (fun x => (x.1, some x.2)) →
    (l.mapM fun (f : Field) => do pure (f.offset, ← sizeOf f.type) : Sem (List (Nat × Nat))).run P w = .ok r w
  | [], r, h => by
    have : r = [] := by cases r <;> simp at h <;> rfl
    subst this; simp
  | f :: l, r, h => by
    cases r with
    | nil => simp at h
    | cons x r =>
      simp only [List.map_cons, List.cons.injEq, Prod.mk.injEq] at h
      obtain ⟨⟨h1, h2⟩, h3⟩ := h
      have ih := mapM_places w l r h3
      cases hi : P.info? f.type with
      | none => rw [hi] at h2; simp at h2
      | some inf =>
        rw [hi] at h2
        simp at h2
        have hs : (sizeOf f.type).run P w = .ok inf.size w := by simp [Go.sizeOf, typeInfo, hi]
        simp only [List.mapM_cons, Sem.run_bind, hs, Result.andThen_ok, Sem.run_pure, ih]
        rw [h1, h2]

section
variable {E : Env} {k : List It} {f : Fr} {h : Heap} {H Hr : List Chunk} {st : Md} [hmd : OkMd st h H] {all : Array Oper} {rest : List Oper} {d : Nat} {ty : TypeId} {pos : String} {aft : Array Edge}

theorem fill_ok {fs : List (Nat × Nat × Nat)} {a : Act} (ha : FSat E.n f a) (place : Nat -> Option (Nat × Nat)) (hplace : ∀ i, place i = (fs[i]?).map fun x => (x.2.1, x.2.2)) (hpos : ∀ x ∈ fs, 0 < x.2.2) : ∀ (parts : List (Nat × Operand)) (cs r : List Value),
    buildL f fs cs parts = some r -> Instr.fill place cs.toArray (parts.map fun p => (p.1, a.eval p.2)) = some r.toArray
  | [], cs, r, hb => by simp [buildL] at hb; subst hb; simp [Instr.fill]
  | (i, x) :: ps, cs, r, hb => by
    simp only [buildL] at hb
    split at hb
    . rename_i ft off sz v hn hv
      rw [nthF_eq] at hn
      cases hq : Nat.beq (cellsL v).length sz with
      | false => rw [hq] at hb; cases hb
      | true =>
        rw [hq] at hb
        simp only [cond_true] at hb
        split at hb
        . rename_i cs' hp
          have hsz := Nat.eq_of_beq_eq_true hq
          have h0 : 0 < sz := hpos _ (List.mem_of_getElem? hn)
          simp only [List.map_cons, ev_eq ha hv]
          rw [fill_one (off := off) (sz := sz) (by rw [hplace, hn]; rfl) hsz h0 hp]
          exact fill_ok ha place hplace hpos ps cs' r hb
        . cases hb
    . cases hb

def allPos : List (Nat × Nat × Nat) -> Bool
  | [] => true
  | x :: l => Nat.blt 0 x.2.2 && allPos l
theorem allPos_spec : ∀ {l : List (Nat × Nat × Nat)}, allPos l = true -> ∀ x ∈ l, 0 < x.2.2
  | [], _, x, hx => by simp at hx
  | y :: l, hp, x, hx => by
    simp only [allPos, Bool.and_eq_true, Nat.blt_eq] at hp
    rcases List.mem_cons.1 hx with rfl | hx
    . exact hp.1
    . exact allPos_spec hp.2 x hx

theorem G.build {t : TypeId} {parts : List (Nat × Operand)} {fs : List (Nat × Nat × Nat)} {sz by_ : Nat} {z : Value} {cs : List Value} (ht : Ty E.P t (.struct fs) sz by_ z) (hpos : allPos fs = true) (hb : buildL f fs (cellsL z) parts = some cs) (hd : Nat.blt d E.n = true)
    (g : G E (.ops st all rest :: k) ((d, .agg cs.toArray) :: f) h H) :
    G E (.ops st all (⟨some d, .build t parts.toArray, ty, pos, aft, none⟩ :: rest) :: k) f h H := by
  refine G.opVal hd (fun _ a w ha hw => ?_) g
  have := ht.fits
  simp only [TD.fits] at this
  obtain ⟨fields, h1, h2⟩ := structOf_some this
  have hm : fields.toList.map (fun f => (f.offset, (E.P.info? f.type).map (·.size))) = (fs.map fun x => (x.2.1, x.2.2)).map (fun x => (x.1, some x.2)) := by
    have := congrArg (List.map fun x : Nat × Nat × Option Nat => (x.2.1, x.2.2)) h2
    simpa [List.map_map, Function.comp_def] using this
  have hp := mapM_places w fields.toList _ hm
  have hp' : (fields.mapM fun (f : Field) => do pure (f.offset, ← sizeOf f.type) : Sem (Array (Nat × Nat))).run E.P w = .ok (fs.map fun x => (x.2.1, x.2.2)).toArray w := by
    rw [Array.mapM_eq_mapM_toList]
    simp only [Sem.run_map, hp, Result.andThen_ok]
  have hf := fill_ok (E := E) ha (fun i => (fs.map fun x => (x.2.1, x.2.2)).toArray[i]?) (fun i => by simp) (allPos_spec hpos) parts (cellsL z) cs hb
  simp only [execOp, Instr.build, Sem.run_bind, run_zero ht, Result.andThen_ok, underlying, run_program, h1, Sem.run_pure, hp']
  simp only [List.getElem?_toArray, List.getElem?_map] at hf
  simp [cellsL_eq, hf]

def rowsL (f : Fr) (sz : Nat) : Nat -> List (Nat × Operand) -> Option (List (List Value))
  | _, [] => some []
  | i, (j, x) :: r => match ev f x, rowsL f sz (i + 1) r with
    | some v, some l => bif Nat.beq i j && Nat.beq (cellsL v).length sz then some (cellsL v :: l) else none
    | _, _ => none
theorem rowsL_spec {a : Act} (ha : FSat E.n f a) {sz : Nat} (hsz : 0 < sz) : ∀ (parts : List (Nat × Operand)) (i : Nat) (rows : List (List Value)), rowsL f sz i parts = some rows -> rows.length = parts.length /\ Rowed sz rows ∧
    ∀ (pre post : List Value), pre.length = i * sz -> post.length = parts.length * sz →
      Instr.fill (fun i => some (i * sz, sz)) (pre ++ post).toArray (parts.map fun p => (p.1, a.eval p.2)) = some (pre ++ rows.flatten).toArray
  | [], i, rows, hr => by
    simp [rowsL] at hr
    subst hr
    refine ⟨rfl, fun r hr => absurd hr (by simp), fun pre post h1 h2 => ?_⟩
    have : post = [] := List.eq_nil_of_length_eq_zero (by simpa using h2)
    subst this
    simp [Instr.fill]
  | (j, x) :: ps, i, rows, hr => by
    simp only [rowsL] at hr
    split at hr
    . rename_i v l hv hl
      cases hq : (Nat.beq i j && Nat.beq (cellsL v).length sz) with
      | false => rw [hq] at hr; cases hr
      | true =>
        rw [hq] at hr
        simp only [cond_true, Option.some.injEq] at hr
        subst hr
        rw [Bool.and_eq_true] at hq
        have hij := Nat.eq_of_beq_eq_true hq.1
        have hcl := Nat.eq_of_beq_eq_true hq.2
        subst hij
        obtain ⟨e1, e2, e3⟩ := rowsL_spec ha hsz ps (i + 1) l hl
        refine ⟨by simp [e1], fun r hr => ?_, fun pre post h1 h2 => ?_⟩
        . rcases List.mem_cons.1 hr with rfl | hr
          . exact hcl
          . exact e2 r hr
        . simp only [List.length_cons, Nat.succ_mul] at h2
          have hput : ∃ cs', putL (pre ++ post) (i * sz) (cellsL v) = some cs' /\ cs' = (pre ++ cellsL v) ++ post.drop sz := by
            have : ∀ (pre : List Value) (vs post : List Value), vs.length <= post.length -> putL (pre ++ post) pre.length vs = some ((pre ++ vs) ++ post.drop vs.length) := by
              intro pre
              induction pre with
              | nil =>
                intro vs
                induction vs with
                | nil => intro post _; cases post <;> simp [putL]
                | cons v vs ih =>
                  intro post hp
                  cases post with
                  | nil => simp at hp
                  | cons q post =>
                    have := ih post (by simpa using hp)
                    simp only [List.nil_append, List.length_nil] at this
                    simp [putL, this]
              | cons q pre ih =>
                intro vs post hp
                cases vs with
                | nil => simp [putL]
                | cons v vs =>
                  have := ih (v :: vs) post hp
                  simp only [List.cons_append, List.length_cons, putL, this]
            refine ⟨_, ?_, rfl⟩
            rw [<- h1, ← hcl]
            exact this pre (cellsL v) post (by omega)
          obtain ⟨cs', p1, p2⟩ := hput
          subst p2
          simp only [List.map_cons, ev_eq ha hv]
          rw [fill_one (off := i * sz) (sz := sz) rfl hcl hsz p1]
          have := e3 (pre ++ cellsL v) (post.drop sz) (by simp [h1, hcl, Nat.succ_mul]) (by simp; omega)
          rw [this]
          simp [List.append_assoc]
    . cases hr

theorem G.buildSlice {t e : TypeId} {n : Nat} {parts : List (Nat × Operand)} {td : TD} {sz by_ sz1 by1 : Nat} {z z1 : Value} {cs : List Value} {rows : List (List Value)} (ht : Ty E.P t (.slice e) sz1 by1 z1) (he : Ty E.P e td sz by_ z)
    (hz : (Nat.beq (cellsL z).length sz && Nat.blt 0 sz && Nat.beq parts.length n && Nat.ble (n * sz) 16777216) = true) (hr : rowsL f sz 0 parts = some rows) (hc : normL rows.flatten = some cs) (hd : Nat.blt d E.n = true)
    (g : ∀ g, G E (.ops .seq all rest :: k) ((d, .slice (some ⟨g, 0, none⟩) n n) :: f) h (.blk g cs e :: H)) :
    G E (.ops .seq all (⟨some d, .buildSlice t n parts.toArray, ty, pos, aft, none⟩ :: rest) :: k) f h H := by
  simp only [Bool.and_eq_true, Nat.blt_eq, Nat.ble_eq] at hz
  obtain ⟨⟨⟨z1', hpos⟩, z2'⟩, z3'⟩ := hz
  have z1' := Nat.eq_of_beq_eq_true z1'
  have z2' := Nat.eq_of_beq_eq_true z2'
  have hc := normL_eq hc
  subst z2' hc
  have f1 := ht.fits
  simp only [TD.fits] at f1
  refine G.opGen fun a w ha hw => ⟨.value (.slice (some ⟨w.heap.size, 0, none⟩) parts.length parts.length), w.alloc (.cells rows.flatten.toArray e), _, h, _, ?_, .inl ⟨_, rfl, ha.put d _ hd⟩, hw.alloc _ (.blk w.heap.size rows.flatten e) ⟨(0, 0), heap_alloc_new w _, fun i _ => by simp⟩ rfl, g _⟩
  obtain ⟨e1, e2, e3⟩ := rowsL_spec ha hpos parts 0 rows hr
  have hn : ¬ (parts.length * sz > 2 ^ 24) := by omega
  have hfill := e3 [] ((Array.range (parts.length * sz)).map (fun i => z.cells[i % z.cells.size]!)).toList (by simp) (by simp)
  simp only [List.nil_append] at hfill
  simp only [execOp, Instr.buildSlice, Sem.run_bind, underlying, run_program, f1, Result.andThen_ok, Sem.run_pure, run_sizeOf' he, if_neg hn, Sem.run_ite]
  by_cases h0 : parts.length * sz = 0
  . have hp : parts = [] := by
      rcases Nat.mul_eq_zero.1 h0 with h1 | h1
      . exact List.eq_nil_of_length_eq_zero h1
      . omega
    subst hp
    simp [rowsL] at hr
    subst hr
    have h00 : (Array.map (fun x : Nat => (default : Value)) (Array.range 0)) = #[] := by simp
    simp [newRow, Instr.fill, h00]
  . simp only [if_neg h0, Sem.run_bind, run_zero he, Result.andThen_ok, Sem.run_pure, List.map_toArray]
    simp only [Array.toArray_toList] at hfill
    simp [hfill, newRow]

theorem G.storeRow {t e : TypeId} {x y : Operand} {td : TD} {i sz by_ : Nat} {z v u : Value} {p : Addr} {rows : List (List Value)} {r : List Value} (hx : ev f x = some (.pointer (some p))) (hy : ev f y = some u) (ht : Ty E.P t td sz by_ z) (hp : Elem v sz i p)
    (hH : Take (.row v e sz rows) H Hr) (hr : normL (cellsL u) = some r) (hl : (Nat.beq r.length sz && Nat.blt 0 sz) = true) (h1 : r.all Value.oneCell' = true) (hi : i < rows.length)
    (n : G E (.ops .seq all rest :: k) f h (.row v e sz (rows.set i r) :: Hr)) :
    G E (.ops .seq all (⟨none, .store t x y, ty, pos, aft, none⟩ :: rest) :: k) f h H := by
  have hr := normL_eq hr
  subst hr
  rw [Bool.and_eq_true, Nat.blt_eq] at hl
  obtain ⟨hl, hpos⟩ := hl
  have hl := Nat.eq_of_beq_eq_true hl
  obtain ⟨g, m, c, rfl, rfl⟩ := hp
  refine G.opGen fun a w ha hw => ?_
  have hrow := hw.own _ hH.mem
  rcases hrow.2 with ⟨h0, _⟩ | ⟨g', cap, cur, fz, hv, hg, hu, hn, hc, hcs, htk⟩
  . cases h0
  injection hv with q1 q2 q3
  injection q1 with q1
  injection q1 with q1
  subst q1 q2 q3
  have hfl := flatten_length hrow.1
  have hle : i * sz + 0 + (cellsL u).length <= cur.toList.length := by
    have h5 : (i + 1) * sz <= rows.length * sz := Nat.mul_le_mul_right _ hi
    have h6 : rows.length * sz <= c * sz := Nat.mul_le_mul_right _ hn
    have hcl0 : cur.toList.length = c * sz := by rw [Array.length_toList, hcs]
    rw [hcl0, hl]; rw [Nat.succ_mul] at h5; omega
  obtain ⟨w', cur', r1, r2, r3, r4, r5, r6, r7, r8, r9, r10⟩ := run_storeCells_blk E.P g (i * sz) e (cellsL u) 0 cur.toList w fz (by simpa using hg) (by simpa using hu) hle (fun u' hu' => by simpa using List.all_eq_true.1 h1 u' hu')
  have hset : Rowed sz (rows.set i (cellsL u)) := fun r hr => by
    rcases List.mem_or_eq_of_mem_set hr with h' | h'
    . exact hrow.1 r h'
    . rw [h']; exact hl
  refine ⟨.skip, w', f, h, .row (.slice (some ⟨g, 0, none⟩) rows.length c) e sz (rows.set i (cellsL u)) :: Hr, ?_, .inr ⟨rfl, ha⟩, ?_, n⟩
  . have hsz : u.cells.size = sz := by rw [cellsL_eq]; simpa using hl
    simp [execOp, Instr.storeAt, Instr.sureAddr, ev_eq ha hx, ev_eq ha hy, storeVar, run_sizeOf' ht, hsz, cellsL_eq', r1]
  . refine hw.set hH rfl rfl ⟨hset, .inr ⟨g, c, cur'.toArray, fz, by simp, r2, by simpa [r3] using hu, by simpa using hn, hc, by simp [r3, hcs], ?_⟩⟩ r6 r7 r8 r9 r10
    rw [List.length_set]
    have hfl' := flatten_length hset
    rw [List.length_set] at hfl'
    have hcl : cur'.length = c * sz := by rw [r3, Array.length_toList, hcs]
    apply list_ext_get (by rw [List.length_take, hfl']; show min _ cur'.length = _; rw [hcl]; exact Nat.min_eq_left (Nat.mul_le_mul_right _ hn))
    intro j hj
    rw [hfl'] at hj
    rw [List.getElem?_take_of_lt hj]
    have hjl : j / sz < rows.length := Nat.div_lt_of_lt_mul (by rw [Nat.mul_comm]; exact hj)
    have hjd : j / sz * sz + j % sz = j := by rw [Nat.mul_comm]; exact Nat.div_add_mod j sz
    by_cases hji : j / sz = i
    . have hg1 := flatten_get hset i (cellsL u) (by simp [hi]) (j % sz) (Nat.mod_lt _ hpos)
      rw [<- hji, hjd] at hg1
      rw [hji] at hg1
      rw [hg1]
      have := r4 (j % sz) (by rw [hl]; exact Nat.mod_lt _ hpos)
      rw [<- this]
      show cur'[j]? = _
      congr 1
      rw [<- hji]; omega
    . have hrj : rows[j / sz]? = some rows[j / sz] := List.getElem?_eq_getElem hjl
      have hg1 := flatten_get hset (j / sz) rows[j / sz] (by rw [List.getElem?_set_ne (fun e => hji e.symm)]; exact hrj) (j % sz) (Nat.mod_lt _ hpos)
      have hg2 := flatten_get hrow.1 (j / sz) rows[j / sz] hrj (j % sz) (Nat.mod_lt _ hpos)
      rw [hjd] at hg1 hg2
      rw [hg1, ← hg2, ← htk, List.getElem?_take_of_lt hj]
      show cur'[j]? = _
      refine r5 j ?_
      rcases Nat.lt_or_ge (j / sz) i with h5 | h5
      . have : (j / sz + 1) * sz <= i * sz := Nat.mul_le_mul_right _ h5
        rw [Nat.succ_mul] at this
        have := Nat.mod_lt j hpos
        left; omega
      . have : (i + 1) * sz <= j / sz * sz := Nat.mul_le_mul_right _ (by omega)
        rw [Nat.succ_mul] at this
        right; rw [hl]; omega
end
end Go.Proofs.YtibkffoeioidlaaDoor
