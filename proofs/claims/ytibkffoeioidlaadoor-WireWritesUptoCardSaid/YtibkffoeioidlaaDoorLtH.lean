/- Rules of the light walk: texts of bytes, make, indexes, structs and rows that are built. -/
import Derived.Test.YtibkffoeioidlaaDoorLtG
namespace Go.Proofs.YtibkffoeioidlaaDoor
set_option linter.all false
set_option maxRecDepth 4000
open Go.RowKit

theorem run_bytesToString' {P : Program} {w : World} {a : Addr} {len cap : Nat} {l : List UInt8} (hl : l.length = len) (h : ∀ j u, (bytesR l).flatten[j]? = some u -> w.cell? (a.add j) = some u) :
    (Conv.bytesToString (.slice (some a) len cap)).run P w = .ok (str l) w := by
  have h1 : (loadCells a len).run P w = .ok ((l.map fun b => (b.toNat : Int)).map (Value.int .u8)).toArray w := by
    have := run_loadCells_list (P := P) w a (bytesR l).flatten h
    rw [bytesR_flatten] at this
    simp only [List.length_map, hl] at this
    rw [this, List.map_map]
    rfl
  rw [run_bytesToString w a len cap _ h1]
  have : ∀ (l : List UInt8) (r : List UInt8), (l.map fun b => (b.toNat : Int)).foldl (fun r n => r.push (UInt8.ofNat n.toNat)) (⟨r.toArray⟩ : ByteArray) = ⟨(r ++ l).toArray⟩ := by
    intro l
    induction l with
    | nil => intro r; simp
    | cons b l ih =>
      intro r
      simp only [List.map_cons, List.foldl_cons]
      have hb : (⟨r.toArray⟩ : ByteArray).push (UInt8.ofNat (b.toNat : Int).toNat) = ⟨(r ++ [b]).toArray⟩ := by
        simp [ByteArray.push]
      rw [hb, ih (r ++ [b])]
      simp
  have h2 := this l []
  simp only [List.nil_append] at h2
  show Result.ok (Value.string _) w = _
  rw [show (ByteArray.empty : ByteArray) = ⟨([] : List UInt8).toArray⟩ from rfl, h2]
  rfl

section
variable {E : Env} {k : List It} {f : Fr} {h : Heap} {H Hr : List Chunk} {st : Md} [hmd : OkMd st h H] {all : Array Oper} {rest : List Oper} {d : Nat} {ty : TypeId} {pos : String} {aft : Array Edge}

theorem run_convStr {P : Program} {s t e : TypeId} {sz1 by1 sz2 by2 sz3 by3 : Nat} {z1 z2 z3 : Value} (hs : Ty P s (.slice e) sz1 by1 z1) (ht : Ty P t .str sz2 by2 z2) (he : Ty P e (.int .u8) sz3 by3 z3) {A : Option Addr} {n c : Nat} {w : World} :
    (convert s t (.slice A n c)).run P w = (Conv.bytesToString (.slice A n c)).run P w := by
  have f1 := hs.fits
  have f2 := ht.fits
  have f3 := he.fits
  simp only [TD.fits] at f1 f2 f3
  simp [convert, underlying, f1, f2, f3]

theorem G.convStr {s t e e' : TypeId} {x : Operand} {v : Value} {l : List UInt8} {sz1 by1 sz2 by2 sz3 by3 : Nat} {z1 z2 z3 : Value} (hx : ev f x = some v) (hs : Ty E.P s (.slice e) sz1 by1 z1) (ht : Ty E.P t .str sz2 by2 z2)
    (he : Ty E.P e (.int .u8) sz3 by3 z3) (hH : Take (.row v e' 1 (bytesR l)) H Hr) (hd : Nat.blt d E.n = true) (n : G E (.ops st all rest :: k) ((d, str l) :: f) h H) :
    G E (.ops st all (⟨some d, .convert s t x, ty, pos, aft, none⟩ :: rest) :: k) f h H := by
  refine G.opVal hd (fun _ a w ha hw => ?_) n
  have hr := hw.own _ hH.mem
  obtain ⟨A, cap, rfl, _, h2⟩ := row_form hr
  have : (Conv.bytesToString (.slice A (bytesR l).length cap)).run E.P w = .ok (str l) w := by
    by_cases hne : l = []
    . subst hne
      cases A with
      | none => simp [Conv.bytesToString, Go.Proofs.YtibkffoeioidlaaDoor.str]; rfl
      | some ad => exact run_bytesToString' (l := []) (by simp) (fun j u hj => by simp [bytesR] at hj)
    . obtain ⟨g, rfl⟩ := h2 (by intro e; apply hne; simpa [bytesR] using e)
      exact run_bytesToString' (by simp) fun j u hj => by rw [Addr.add_lit]; simpa using (row_cells hr).2 j u hj
  rw [bytesR_length] at this
  simp [execOp, ev_eq ha hx, run_convStr hs ht he, this]

theorem G.makeSlice {t e : TypeId} {x y : Operand} {td : TD} {kx ky : IntKind} {n : Int} {m : Nat} {sz by_ sz1 by1 : Nat} {z z1 : Value} {cs : List Value} (hx : ev f x = some (.int kx n)) (hy : ev f y = some (.int ky n)) (ht : Ty E.P t (.slice e) sz1 by1 z1)
    (he : Ty E.P e td sz by_ z) (hm : n.toNat = m) (hc : normL (cellsL z) = some cs) (hz : (Nat.beq cs.length sz && Nat.blt 0 sz) = true) (hb : 0 <= n /\ n <= 9223372036854775807 /\ by_ * n <= 281474976710656) (hd : Nat.blt d E.n = true)
    (g : ∀ v, G E (.ops .seq all rest :: k) ((d, v) :: f) h (.row v e sz (List.replicate m cs) :: H)) :
    G E (.ops .seq all (⟨some d, .makeSlice t x y, ty, pos, aft, none⟩ :: rest) :: k) f h H := by
  have hc := normL_eq hc
  subst hm hc
  rw [Bool.and_eq_true, Nat.blt_eq] at hz
  obtain ⟨hz0, hpos⟩ := hz
  have hz0 := Nat.eq_of_beq_eq_true hz0
  have f1 := ht.fits
  simp only [TD.fits] at f1
  obtain ⟨i, hi, hi1, hi2, hi3⟩ := he.info
  refine G.opGen fun a w ha hw => ⟨.value (.slice (some ⟨w.heap.size, 0, none⟩) n.toNat n.toNat), w.alloc (.cells (madeCells z.cells (n.toNat * i.size)) e), _, h, _, ?_, .inl ⟨_, rfl, ha.put d _ hd⟩, ?_, g _⟩
  . have := run_make (P := E.P) w t e i z f1 hi hi3 kx ky n n hb.1 (Int.le_refl _) (by rw [hi2]; exact hb.2.2) (by omega)
    simp [execOp, ev_eq ha hx, ev_eq ha hy, this]
  . refine hw.alloc _ _ ⟨fun r hr => ?_, .inr ⟨w.heap.size, n.toNat, _, (0, 0), by simp, heap_alloc_new w _, fun i _ => by simp, by simp, by simp only [maxLen]; omega, ?_, ?_⟩⟩ rfl
    . rw [List.eq_of_mem_replicate hr]; exact hz0
    . simp [madeCells, hi1]
    . have hml : (madeCells z.cells (n.toNat * i.size)).toList = (List.replicate n.toNat (cellsL z)).flatten := by
        have hfl : (List.replicate n.toNat (cellsL z)).flatten.length = n.toNat * sz := by
          rw [flatten_length (sz := sz) (fun r hr => by rw [List.eq_of_mem_replicate hr]; exact hz0)]; simp
        apply list_ext_get
        . simp only [madeCells, Array.toList_map, List.length_map, Array.length_toList, Array.size_range, hfl, hi1]
        . intro j hj
          rw [hfl] at hj
          have hrow : (List.replicate n.toNat (cellsL z))[j / sz]? = some (cellsL z) := by
            rw [List.getElem?_replicate, if_pos (Nat.div_lt_of_lt_mul (by rw [Nat.mul_comm]; exact hj))]
          have hq := flatten_get (sz := sz) (rows := List.replicate n.toNat (cellsL z)) (fun r hr => by rw [List.eq_of_mem_replicate hr]; exact hz0) (j / sz) (cellsL z) hrow (j % sz) (Nat.mod_lt _ hpos)
          rw [show j / sz * sz + j % sz = j by rw [Nat.mul_comm]; exact Nat.div_add_mod j sz] at hq
          rw [hq]
          have hms : z.cells.size = sz := by rw [cellsL_eq]; simpa using hz0
          have hlt : j % sz < (cellsL z).length := by rw [hz0]; exact Nat.mod_lt _ hpos
          simp only [madeCells, Array.toList_map, List.getElem?_map, Array.getElem?_toList, Array.getElem?_range, hi1, hj, if_true, Option.map_some]
          rw [hms, List.getElem?_eq_getElem hlt]
          simp [cellsL_eq, getElem!_pos, hlt]
      rw [hml, List.length_replicate, List.take_of_length_le]
      rw [flatten_length (sz := sz) (fun r hr => by rw [List.eq_of_mem_replicate hr]; exact hz0)]; simp

def Elem (v : Value) (sz i : Nat) (p : Addr) : Prop := ∃ g n c, v = .slice (some ⟨g, 0, none⟩) n c /\ p = ⟨g, i * sz, none⟩

theorem run_indexAt {P : Program} {t e : TypeId} {td : TD} {sz by_ sz1 by1 : Nat} {z z1 : Value} (ht : Ty P t (.slice e) sz1 by1 z1) (he : Ty P e td sz by_ z) {ad : Addr} {len c : Nat} {kd : IntKind} {i : Int} (hb : 0 <= i /\ i < len) (w : World) :
    (Instr.indexAt t (.slice (some ad) len c) (.int kd i)).run P w = .ok (.pointer (some (ad.add (i.toNat * sz)))) w := by
  have f1 := ht.fits
  simp only [TD.fits] at f1
  simp [Instr.indexAt, asIntOf, underlying, f1, hb, run_sizeOf' he]

theorem G.loadRow {t e : TypeId} {x : Operand} {td : TD} {i sz by_ : Nat} {z v u : Value} {p : Addr} {rows : List (List Value)} {r : List Value} (hx : ev f x = some (.pointer (some p))) (ht : Ty E.P t td sz by_ z) (hk : td.known = true) (hp : Elem v sz i p)
    (hH : Take (.row v e sz rows) H Hr) (hr : rows[i]? = some r) (hs : (td.isAgg || Nat.beq sz 1) = true) (hu : aggV td.isAgg r = u) (hd : Nat.blt d E.n = true) (n : G E (.ops st all rest :: k) ((d, u) :: f) h H) :
    G E (.ops st all (⟨some d, .load t x, ty, pos, aft, none⟩ :: rest) :: k) f h H := by
  subst hu
  refine G.opVal hd (fun _ a w ha hw => ?_) n
  obtain ⟨g, m, c, rfl, rfl⟩ := hp
  have hrow := hw.own _ hH.mem
  have hl : r.length = sz := hrow.1 r (List.mem_of_getElem? hr)
  have hs' : td.isAgg = true \/ sz = 1 := by
    rcases (Bool.or_eq_true_iff).1 hs with h1 | h1
    . exact .inl h1
    . exact .inr (Nat.eq_of_beq_eq_true h1)
  have := run_load_at (w := w) (p := ⟨g, i * sz, none⟩) ht hk hl hs' (fun j u hj => by
    have hj' : j < sz := by rw [<- hl]; exact (List.getElem?_eq_some_iff.1 hj).1
    rw [Addr.add_lit]
    refine (row_cells hrow).2 _ u ?_
    rw [flatten_get hrow.1 i r hr j hj']; exact hj)
  simp [execOp, Instr.loadAt, Instr.sureAddr, ev_eq ha hx, this]

theorem G.loadRow1 {t e : TypeId} {x : Operand} {td : TD} {i by_ : Nat} {z v u : Value} {p : Addr} {rows : List (List Value)} (hx : ev f x = some (.pointer (some p))) (ht : Ty E.P t td 1 by_ z) (hk : td.known = true) (ha : td.isAgg = false) (hp : Elem v 1 i p)
    (hH : Take (.row v e 1 rows) H Hr) (hr : rows[i]? = some [u]) (hd : Nat.blt d E.n = true) (n : G E (.ops st all rest :: k) ((d, u) :: f) h H) :
    G E (.ops st all (⟨some d, .load t x, ty, pos, aft, none⟩ :: rest) :: k) f h H :=
  G.loadRow hx ht hk hp hH hr (by rw [ha]; rfl) (by rw [ha]; rfl) hd n
theorem G.idxImm {t e : TypeId} {x y : Operand} {td : TD} {kd : IntKind} {i : Int} {m sz by_ sz1 by1 : Nat} {z z1 v : Value} {rows : List (List Value)} (hx : ev f x = some v) (hy : ev f y = some (.int kd i)) (ht : Ty E.P t (.slice e) sz1 by1 z1)
    (he : Ty E.P e td sz by_ z) (hv : HSl h v sz rows) (hm : i.toNat = m) (hd : Nat.blt d E.n = true) (hb : 0 <= i /\ i < rows.length)
    (g : ∀ p r, rows[m]? = some r -> HCells h p r -> G E (.ops st all rest :: k) ((d, .pointer (some p)) :: f) h H) :
    G E (.ops st all (⟨some d, .indexAddr t x y, ty, pos, aft, none⟩ :: rest) :: k) f h H := by
  subst hm
  have hlt : i.toNat < rows.length := by omega
  obtain ⟨A, c, rfl, h2, h3, h4⟩ := hv.form
  obtain ⟨ad, rfl, hc⟩ := hv.at_ (List.getElem?_eq_getElem hlt)
  refine G.opVal hd (fun _ a w ha hw => ?_) (g _ _ (List.getElem?_eq_getElem hlt) hc)
  simp [execOp, ev_eq ha hx, ev_eq ha hy, run_indexAt ht he hb w]

theorem G.idxImmN {t e : TypeId} {x y : Operand} {td : TD} {kd : IntKind} {i : Int} {m sz by_ sz1 by1 : Nat} {z z1 v : Value} {rows : List (List Value)} (hx : ev f x = some v) (hy : ev f y = some (.int kd i)) (ht : Ty E.P t (.slice e) sz1 by1 z1)
    (he : Ty E.P e td sz by_ z) (hv : HSl h v sz rows) (hm : i.toNat = m) (hd : Nat.blt d E.n = true) (hb : 0 <= i /\ i < rows.length)
    (g : ∀ p r, rows[m]? = some r -> r.length = sz -> HCells h p r -> G E (.ops st all rest :: k) ((d, .pointer (some p)) :: f) h H) :
    G E (.ops st all (⟨some d, .indexAddr t x y, ty, pos, aft, none⟩ :: rest) :: k) f h H :=
  G.idxImm hx hy ht he hv hm hd hb fun p r hr hp => g p r hr (hv.rowed r (List.mem_of_getElem? hr)) hp

theorem G.loadImm {t : TypeId} {x : Operand} {td : TD} {sz by_ : Nat} {z u : Value} {p : Addr} {r : List Value} (hx : ev f x = some (.pointer (some p))) (ht : Ty E.P t td sz by_ z) (hk : td.known = true) (hp : HCells h p r) (hl : r.length = sz)
    (hs : (td.isAgg || Nat.beq sz 1) = true) (hu : aggV td.isAgg r = u) (hd : Nat.blt d E.n = true) (n : G E (.ops st all rest :: k) ((d, u) :: f) h H) :
    G E (.ops st all (⟨some d, .load t x, ty, pos, aft, none⟩ :: rest) :: k) f h H := by
  subst hu
  refine G.opVal hd (fun _ a w ha hw => ?_) n
  have hs' : td.isAgg = true \/ sz = 1 := by
    rcases (Bool.or_eq_true_iff).1 hs with h1 | h1
    . exact .inl h1
    . exact .inr (Nat.eq_of_beq_eq_true h1)
  have := run_load_at (w := w) ht hk hl hs' (fun j u hj => imm_cell hw (hp j u hj))
  simp [execOp, Instr.loadAt, Instr.sureAddr, ev_eq ha hx, this]

theorem G.loadImmAt {t : TypeId} {x : Operand} {td : TD} {sz by_ off : Nat} {z u : Value} {p : Addr} {r r' : List Value} (hx : ev f x = some (.pointer (some (p.add off)))) (ht : Ty E.P t td sz by_ z) (hk : td.known = true) (hp : HCells h p r)
    (hr : partL r off sz = some r') (hs : (td.isAgg || Nat.beq sz 1) = true) (hu : aggV td.isAgg r' = u) (hd : Nat.blt d E.n = true) (n : G E (.ops st all rest :: k) ((d, u) :: f) h H) :
    G E (.ops st all (⟨some d, .load t x, ty, pos, aft, none⟩ :: rest) :: k) f h H := by
  obtain ⟨hl, hq⟩ := partL_eq _ _ _ _ hr
  refine G.loadImm hx ht hk (r := r') (fun j u hj => ?_) hl hs hu hd n
  rw [add_add_]
  refine hp _ u ?_
  rw [hq j (by rw [<- hl]; exact (List.getElem?_eq_some_iff.1 hj).1)]; exact hj

theorem G.loadImm1 {t : TypeId} {x : Operand} {td : TD} {by_ : Nat} {z u : Value} {p : Addr} (hx : ev f x = some (.pointer (some p))) (ht : Ty E.P t td 1 by_ z) (hk : td.known = true) (ha : td.isAgg = false) (hp : HCells h p [u])
    (hd : Nat.blt d E.n = true) (n : G E (.ops st all rest :: k) ((d, u) :: f) h H) :
    G E (.ops st all (⟨some d, .load t x, ty, pos, aft, none⟩ :: rest) :: k) f h H :=
  G.loadImm hx ht hk hp rfl (by rw [ha]; rfl) (by rw [ha]; rfl) hd n
theorem G.loadImmA {t : TypeId} {x : Operand} {td : TD} {sz by_ : Nat} {z : Value} {p : Addr} {r : List Value} (hx : ev f x = some (.pointer (some p))) (ht : Ty E.P t td sz by_ z) (hk : td.known = true) (ha : td.isAgg = true) (hp : HCells h p r) (hl : r.length = sz)
    (hd : Nat.blt d E.n = true) (n : G E (.ops st all rest :: k) ((d, .agg r.toArray) :: f) h H) :
    G E (.ops st all (⟨some d, .load t x, ty, pos, aft, none⟩ :: rest) :: k) f h H :=
  G.loadImm hx ht hk hp hl (by rw [ha]; rfl) (by rw [ha]; rfl) hd n
theorem G.loadImmAt1 {t : TypeId} {x : Operand} {td : TD} {by_ off : Nat} {z u : Value} {p : Addr} {r : List Value} (hx : ev f x = some (.pointer (some (p.add off)))) (ht : Ty E.P t td 1 by_ z) (hk : td.known = true) (ha : td.isAgg = false) (hp : HCells h p r)
    (hr : partL r off 1 = some [u]) (hd : Nat.blt d E.n = true) (n : G E (.ops st all rest :: k) ((d, u) :: f) h H) :
    G E (.ops st all (⟨some d, .load t x, ty, pos, aft, none⟩ :: rest) :: k) f h H :=
  G.loadImmAt hx ht hk hp hr (by rw [ha]; rfl) (by rw [ha]; rfl) hd n

theorem G.lenImm {t e : TypeId} {x : Operand} {v : Value} {sz sz1 by_ : Nat} {z : Value} {rows : List (List Value)} (hx : ev f x = some v) (ht : Ty E.P t (.slice e) sz1 by_ z) (hv : HSl h v sz rows) (hd : Nat.blt d E.n = true)
    (g : G E (.ops st all rest :: k) ((d, .int .i64 rows.length) :: f) h H) :
    G E (.ops st all (⟨some d, .call { callee := .builtin .len, args := #[x], argTypes := #[t] }, ty, pos, aft, none⟩ :: rest) :: k) f h H := by
  obtain ⟨A, c, rfl, _⟩ := hv.form
  exact G.lenSlice hx ht hd g
theorem G.lenRow {t e e' : TypeId} {x : Operand} {v : Value} {sz sz1 by_ : Nat} {z : Value} {rows : List (List Value)} (hx : ev f x = some v) (ht : Ty E.P t (.slice e) sz1 by_ z) (hH : Take (.row v e' sz rows) H Hr) (hd : Nat.blt d E.n = true)
    (g : G E (.ops st all rest :: k) ((d, .int .i64 rows.length) :: f) h H) :
    G E (.ops st all (⟨some d, .call { callee := .builtin .len, args := #[x], argTypes := #[t] }, ty, pos, aft, none⟩ :: rest) :: k) f h H := by
  refine G.opVal hd (fun _ a w ha hw => ?_) g
  obtain ⟨A, cap, rfl, _, _⟩ := row_form (hw.own _ hH.mem)
  have := ht.fits
  simp only [TD.fits] at this
  simp [execOp, resolve, invoke, builtin, Builtin.len_, ev_eq ha hx, underlying, this, goInt]
end
end Go.Proofs.YtibkffoeioidlaaDoor
