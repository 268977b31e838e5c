/- Rules of the light walk: memory. -/
import Derived.Test.YtibkffoeioidlaaDoorLtD
namespace Go.Proofs.YtibkffoeioidlaaDoor
set_option linter.all false
set_option maxRecDepth 4000
open Go.RowKit

theorem run_typeInfo {P : Program} {t : TypeId} {d : TD} {sz by_ : Nat} {z : Value} (ht : Ty P t d sz by_ z) (w : World) : ∃ i, (typeInfo t).run P w = .ok i w /\ i.size = sz /\ i.bytes = by_ /\ i.zero = some z := by
  obtain ⟨i, hi, h1, h2, h3⟩ := ht.info
  exact ⟨i, by simp [typeInfo, hi], h1, h2, h3⟩
theorem run_sizeOf' {P : Program} {t : TypeId} {d : TD} {sz by_ : Nat} {z : Value} (ht : Ty P t d sz by_ z) (w : World) : (sizeOf t).run P w = .ok sz w := by
  obtain ⟨i, hi, h1, _⟩ := run_typeInfo ht w
  simp [Go.sizeOf, hi, h1]
theorem run_zero {P : Program} {t : TypeId} {d : TD} {sz by_ : Nat} {z : Value} (ht : Ty P t d sz by_ z) (w : World) : (zeroValue t).run P w = .ok z w := by
  obtain ⟨i, hi, _, _, h3⟩ := run_typeInfo ht w
  simp [zeroValue, hi, h3]
def TD.isAgg : TD -> Bool
  | .struct _ => true
  | .array _ _ => true
  | _ => false
def TD.known : TD -> Bool
  | .other => false
  | _ => true
theorem run_isAgg' {P : Program} {t : TypeId} {d : TD} {sz by_ : Nat} {z : Value} (ht : Ty P t d sz by_ z) (hk : d.known = true) (w : World) : (isAgg t).run P w = .ok d.isAgg w := by
  have := ht.fits
  cases d <;> simp only [TD.fits] at this <;> simp only [TD.known] at hk <;> try (cases hk; done)
  case struct fs => obtain ⟨fields, h1, _⟩ := structOf_some this; simp [isAgg, underlying, h1, TD.isAgg]
  case func => obtain ⟨a, b, c, h1⟩ := this; simp [isAgg, underlying, h1, TD.isAgg]
  case iface => obtain ⟨ms, h1⟩ := this; simp [isAgg, underlying, h1, TD.isAgg]
  all_goals simp [isAgg, underlying, this, TD.isAgg]

theorem imm_cell {c : Ctx} {h : Heap} {H : List Chunk} {w : World} (s : St c h H w) {a : Addr} {v : Value} (hc : Heap.cell? h a = some v) : w.cell? a = some v := by
  unfold Heap.cell? at hc
  unfold World.cell?
  cases hb : h a.block with
  | none => rw [hb] at hc; cases hc
  | some o => rw [hb] at hc; rw [s.imm _ _ hb]; exact hc

theorem blk_cell {w : World} {g : Nat} {cs : List Value} {t : TypeId} (hb : (Chunk.blk g cs t).holds w) (i : Nat) : w.cell? ⟨g, i, none⟩ = cs[i]? := by
  obtain ⟨fz, h1, _⟩ := hb
  simp [World.cell?, h1]
theorem blk_unfrozen {w : World} {g : Nat} {cs : List Value} {t : TypeId} (hb : (Chunk.blk g cs t).holds w) {i : Nat} (hi : i < cs.length) : w.frozen? ⟨g, i, none⟩ = false := by
  obtain ⟨fz, h1, h2⟩ := hb
  have := h2 i hi
  simp only [World.frozen?, h1]
  simp only [Bool.and_eq_false_iff, decide_eq_false_iff_not]
  by_cases h3 : fz.1 <= i
  . exact .inr fun h4 => this ⟨h3, h4⟩
  . exact .inl h3

theorem St.alloc {c : Ctx} {h : Heap} {H : List Chunk} {w : World} (s : St c h H w) (o : Obj) (x : Chunk) (hx : x.holds (w.alloc o)) (hk : x.key = some w.heap.size) : St c h (x :: H) (w.alloc o) := by
  have hlt : ∀ g ∈ keys H, g < w.heap.size := fun g hg => by
    obtain ⟨y, hy, hk⟩ := mem_keys.1 hg
    exact Chunk.holds_lt (s.own y hy) g hk
  have hkeys : keys (x :: H) = w.heap.size :: keys H := by simp [keys, hk]
  refine ⟨s.os, s.tape, s.output, Nat.le_trans s.size (by simp), fun b hb hK => ?_, s.mono, fun b o' hb => ?_, fun y hy => ?_, ?_, fun g hg => ?_, fun g hg => ?_, s.isub⟩
  . rw [Below.heap_alloc w o b (Nat.lt_of_lt_of_le hb s.size)]; exact s.fr b hb hK
  . have := s.imm b o' hb
    rw [Below.heap_alloc w o b (lt_of_get this)]; exact this
  . rcases List.mem_cons.1 hy with rfl | hy
    . exact hx
    . exact Chunk.holds_congr (fun g hg => Below.heap_alloc w o g (Chunk.holds_lt (s.own y hy) g hg)) (s.own y hy)
  . rw [hkeys, List.nodup_cons]
    exact ⟨fun hm => by have := hlt _ hm; omega, s.nodup⟩
  . rw [hkeys] at hg
    rcases List.mem_cons.1 hg with rfl | hg
    . cases hh : h w.heap.size with
      | none => rfl
      | some o' => exact absurd (lt_of_get (s.imm _ _ hh)) (by omega)
    . exact s.sep g hg
  . rw [hkeys] at hg
    rcases List.mem_cons.1 hg with rfl | hg
    . exact .inr s.size
    . exact s.ksub g hg

theorem St.drewN {c : Ctx} {h : Heap} {H : List Chunk} {w w' : World} (s : St c h H w) (hh : w'.heap = w.heap) (ho : w'.os = w.os) (ht : w'.tape = w.tape) (hp : w'.output = w.output) : St c h H w' :=
  ⟨ho.trans s.os, ht.trans s.tape, hp.trans s.output, by rw [hh]; exact s.size, fun b hb hK => by rw [hh]; exact s.fr b hb hK, s.mono, fun b o hb => by rw [hh]; exact s.imm b o hb,
    fun x hx => Chunk.holds_congr (fun g _ => by rw [hh]) (s.own x hx), s.nodup, s.sep, s.ksub, s.isub⟩

theorem St.set {c : Ctx} {h : Heap} {H Hr : List Chunk} {x y : Chunk} {g : Nat} {w w' : World} (s : St c h H w) (t : Take x H Hr) (hk : x.key = some g) (hk' : y.key = some g) (hy : y.holds w')
    (ho : w'.os = w.os) (ht : w'.tape = w.tape) (hp : w'.output = w.output) (hs : w'.heap.size = w.heap.size) (hb : ∀ b, b ≠ g -> w'.heap[b]? = w.heap[b]?) : St c h (y :: Hr) w' := by
  have s' : St c h (x :: Hr) w := s.sub ⟨[], by simpa using t.perm⟩
  have hkx : keys (x :: Hr) = g :: keys Hr := by simp [keys, hk]
  have hky : keys (y :: Hr) = g :: keys Hr := by simp [keys, hk']
  have hnd := s'.nodup
  rw [hkx, List.nodup_cons] at hnd
  have hgK : g ∈ c.K0 \/ c.W0.heap.size <= g := s'.ksub g (by rw [hkx]; simp)
  refine ⟨ho.trans s.os, ht.trans s.tape, hp.trans s.output, by rw [hs]; exact s.size, fun b hb' hK => ?_, s.mono, fun b o hbo => ?_, fun z hz => ?_, ?_, fun g' hg' => ?_, fun g' hg' => ?_, s.isub⟩
  . rw [hb b (fun e => by subst e; rcases hgK with h1 | h1; exact hK h1; omega)]; exact s.fr b hb' hK
  . rw [hb b (fun e => by subst e; have := s'.sep b (by rw [hkx]; simp); rw [this] at hbo; cases hbo)]; exact s.imm b o hbo
  . rcases List.mem_cons.1 hz with rfl | hz
    . exact hy
    . refine Chunk.holds_congr (fun g' hg' => hb g' fun e => ?_) (s'.own z (List.mem_cons_of_mem _ hz))
      subst e
      exact hnd.1 (mem_keys.2 ⟨z, hz, hg'⟩)
  . rw [hky, ← hkx]; exact s'.nodup
  . rw [hky, ← hkx] at hg'; exact s'.sep g' hg'
  . rw [hky, ← hkx] at hg'; exact s'.ksub g' hg'

def cellsL : Value -> List Value
  | .agg cs => cs.toList
  | v => [v]
theorem cellsL_eq (v : Value) : v.cells = (cellsL v).toArray := by cases v <;> rfl
theorem cellsL_eq' (v : Value) : v.cells.toList = cellsL v := by cases v <;> rfl

def normL : List Value -> Option (List Value)
  | [] => some []
  | v :: l => match normL l with
    | some r => some (v :: r)
    | none => none
theorem normL_eq : ∀ {l r : List Value}, normL l = some r -> l = r
  | [], r, h => by simp [normL] at h; first | exact h | exact h.symm
  | v :: l, r, h => by
    simp only [normL] at h
    split at h
    . rename_i r' hr'
      simp at h
      rw [<- h, normL_eq hr']
    . cases h

def partL : List Value -> Nat -> Nat -> Option (List Value)
  | _, _, 0 => some []
  | [], _, _ + 1 => none
  | v :: l, 0, n + 1 => match partL l 0 n with
    | some r => some (v :: r)
    | none => none
  | _ :: l, o + 1, n => partL l o n
theorem partL_eq : ∀ (cs : List Value) (o n : Nat) (r : List Value), partL cs o n = some r -> r.length = n /\ ∀ j, j < n -> cs[o + j]? = r[j]?
  | cs, o, 0, r, h => by
    have : r = [] := by cases cs <;> cases o <;> (simp [partL] at h; first | exact h | exact h.symm)
    subst this
    exact ⟨rfl, fun j hj => by omega⟩
  | [], o, n + 1, r, h => by cases o <;> simp [partL] at h
  | v :: l, 0, n + 1, r, h => by
    simp only [partL] at h
    split at h
    . rename_i r' hr'
      simp at h
      subst h
      obtain ⟨h1, h2⟩ := partL_eq l 0 n r' hr'
      refine ⟨by simp [h1], fun j hj => ?_⟩
      cases j with
      | zero => rfl
      | succ j =>
        have := h2 j (by omega)
        simp only [Nat.zero_add] at this ⊢
        simpa using this
    . cases h
  | _ :: l, o + 1, n + 1, r, h => by
    simp only [partL] at h
    obtain ⟨h1, h2⟩ := partL_eq l o (n + 1) r h
    refine ⟨h1, fun j hj => ?_⟩
    rw [show o + 1 + j = (o + j) + 1 by omega]
    simpa using h2 j hj

def putL : List Value -> Nat -> List Value -> Option (List Value)
  | cs, _, [] => some cs
  | [], _, _ :: _ => none
  | _ :: l, 0, v :: vs => match putL l 0 vs with
    | some r => some (v :: r)
    | none => none
  | u :: l, o + 1, v :: vs => match putL l o (v :: vs) with
    | some r => some (u :: r)
    | none => none
theorem putL_eq : ∀ (cs : List Value) (o : Nat) (vs r : List Value), putL cs o vs = some r -> r.length = cs.length /\ o + vs.length <= max cs.length o /\ (∀ j, j < vs.length -> r[o + j]? = vs[j]?) /\ (∀ j, j < o \/ o + vs.length <= j -> r[j]? = cs[j]?)
  | cs, o, [], r, h => by
    have : r = cs := by cases cs <;> cases o <;> (simp [putL] at h; first | exact h | exact h.symm)
    subst this
    exact ⟨rfl, by simp; omega, fun j hj => by simp at hj, fun j _ => rfl⟩
  | [], o, _ :: _, r, h => by cases o <;> simp [putL] at h
  | u :: l, 0, v :: vs, r, h => by
    simp only [putL] at h
    split at h
    . rename_i r' hr'
      simp at h
      subst h
      obtain ⟨h1, h2, h3, h4⟩ := putL_eq l 0 vs r' hr'
      refine ⟨by simp [h1], by simp at h2 ⊢; omega, fun j hj => ?_, fun j hj => ?_⟩
      . cases j with
        | zero => rfl
        | succ j =>
          have := h3 j (by simpa using hj)
          simp only [Nat.zero_add] at this ⊢
          simpa using this
      . cases j with
        | zero => simp at hj
        | succ j => simpa using h4 j (by simp at hj ⊢; omega)
    . cases h
  | u :: l, o + 1, v :: vs, r, h => by
    simp only [putL] at h
    split at h
    . rename_i r' hr'
      simp at h
      subst h
      obtain ⟨h1, h2, h3, h4⟩ := putL_eq l o (v :: vs) r' hr'
      refine ⟨by simp [h1], by simp at h2 ⊢; omega, fun j hj => ?_, fun j hj => ?_⟩
      . rw [show o + 1 + j = (o + j) + 1 by omega]
        simpa using h3 j hj
      . cases j with
        | zero => rfl
        | succ j => simpa using h4 j (by omega)
    . cases h

theorem run_storeCells_blk (P : Program) (g o : Nat) (t : TypeId) : ∀ (vs : List Value) (i : Nat) (cur : List Value) (w : World) (fz : Nat × Nat), w.heap[g]? = some (.cells cur.toArray t fz) -> Unfz fz cur.length -> o + i + vs.length <= cur.length →
    (∀ v ∈ vs, v.oneCell' = true) -> ∃ (w' : World) (cur' : List Value), (storeCells ⟨g, o, none⟩ vs i).run P w = .ok () w' /\ w'.heap[g]? = some (.cells cur'.toArray t fz) /\ cur'.length = cur.length ∧
      (∀ j, j < vs.length -> cur'[o + i + j]? = vs[j]?) /\ (∀ j, j < o + i \/ o + i + vs.length <= j -> cur'[j]? = cur[j]?) /\ w'.os = w.os /\ w'.tape = w.tape /\ w'.output = w.output /\ w'.heap.size = w.heap.size /\ ∀ b, b ≠ g -> w'.heap[b]? = w.heap[b]?
  | [], i, cur, w, fz, hg, _, _, _ => ⟨w, cur, by simp [storeCells], hg, rfl, fun j hj => by simp at hj, fun _ _ => rfl, rfl, rfl, rfl, rfl, fun _ _ => rfl⟩
  | v :: vs, i, cur, w, fz, hg, hu, hlen, h1 => by
    have hlt : o + i < cur.length := by simp at hlen; omega
    have hadd : (⟨g, o, none⟩ : Addr).add i = ⟨g, o + i, none⟩ := Addr.add_lit g o i
    have hc : w.cell? ⟨g, o + i, none⟩ = some cur[o + i] := by simp [World.cell?, hg, hlt]
    have hf : w.frozen? ⟨g, o + i, none⟩ = false := blk_unfrozen (cs := cur) (t := t) ⟨fz, hg, hu⟩ hlt
    have hrun : (store ((⟨g, o, none⟩ : Addr).add i) v).run P w = .ok () (w.setCell ⟨g, o + i, none⟩ v) := by
      rw [hadd, run_store P w _ v .plain (h1 v (by simp)), hc]
      simp [hf]
    have hg' : (w.setCell ⟨g, o + i, none⟩ v).heap[g]? = some (.cells (cur.set (o + i) v).toArray t fz) := by
      simp [World.setCell, Array.getElem?_modify, hg]
    obtain ⟨w', cur', r1, r2, r3, r4, r5, r6, r7, r8, r9, r10⟩ := run_storeCells_blk P g o t vs (i + 1) (cur.set (o + i) v) (w.setCell ⟨g, o + i, none⟩ v) fz hg' (by simpa using hu) (by simp at hlen ⊢; omega) (fun u hu' => h1 u (by simp [hu']))
    refine ⟨w', cur', by simp only [storeCells, Sem.run_bind, hrun, Result.andThen_ok]; exact r1, r2, by simpa using r3, fun j hj => ?_, fun j hj => ?_, r6.trans rfl, r7.trans rfl, r8.trans rfl, by rw [r9]; simp, fun b hb => (r10 b hb).trans (Below.heap_setCell w _ _ b hb)⟩
    . cases j with
      | zero =>
        have := r5 (o + i) (.inl (by omega))
        rw [Nat.add_zero, this]
        simp [hlt]
      | succ j =>
        have := r4 j (by simpa using hj)
        rw [show o + i + (j + 1) = o + (i + 1) + j by omega, this]
        simp
    . simp only [List.length_cons] at hj
      have := r5 j (by omega)
      rw [this, List.getElem?_set_ne (by omega)]

theorem list_ext_get {α : Type} {a b : List α} (hl : a.length = b.length) (h : ∀ j, j < b.length -> a[j]? = b[j]?) : a = b := by
  apply List.ext_getElem? 
  intro j
  by_cases hj : j < b.length
  . exact h j hj
  . rw [List.getElem?_eq_none (by omega), List.getElem?_eq_none (by omega)]

section
variable {E : Env} {k : List It} {f : Fr} {h : Heap} {H Hr : List Chunk} {st : Md} [hmd : OkMd st h H] {all : Array Oper} {rest : List Oper} {d : Nat} {ty : TypeId} {pos : String} {aft : Array Edge}

theorem G.alloc {e : TypeId} {td : TD} {sz by_ : Nat} {z : Value} {cs : List Value} (ht : Ty E.P e td sz by_ z) (hc : normL (cellsL z) = some cs) (hd : Nat.blt d E.n = true)
    (g : ∀ g, G E (.ops .seq all rest :: k) ((d, .pointer (some ⟨g, 0, none⟩)) :: f) h (.blk g cs e :: H)) :
    G E (.ops .seq all (⟨some d, .alloc e, ty, pos, aft, none⟩ :: rest) :: k) f h H := by
  have hc := normL_eq hc
  subst hc
  refine G.opGen fun a w ha hw => ⟨.value (.pointer (some ⟨w.heap.size, 0, none⟩)), w.alloc (.cells (cellsL z).toArray e), _, h, .blk w.heap.size (cellsL z) e :: H, ?_, .inl ⟨_, rfl, ha.put d _ hd⟩, ?_, g _⟩
  . simp [execOp, Instr.alloc, run_zero ht, newVar, newRow, cellsL_eq]
  . exact hw.alloc _ _ ⟨(0, 0), heap_alloc_new w _, fun i _ => by simp⟩ rfl

theorem G.box {e : TypeId} {x : Operand} {v : Value} {cs : List Value} (hx : ev f x = some v) (hc : normL (cellsL v) = some cs) (hd : Nat.blt d E.n = true)
    (g : ∀ g, G E (.ops .seq all rest :: k) ((d, .pointer (some ⟨g, 0, none⟩)) :: f) h (.blk g cs e :: H)) :
    G E (.ops .seq all (⟨some d, .box e x, ty, pos, aft, none⟩ :: rest) :: k) f h H := by
  have hc := normL_eq hc
  subst hc
  refine G.opGen fun a w ha hw => ⟨.value (.pointer (some ⟨w.heap.size, 0, none⟩)), w.alloc (.cells (cellsL v).toArray e), _, h, .blk w.heap.size (cellsL v) e :: H, ?_, .inl ⟨_, rfl, ha.put d _ hd⟩, ?_, g _⟩
  . simp [execOp, Instr.box, ev_eq ha hx, newVar, newRow, cellsL_eq]
  . exact hw.alloc _ _ ⟨(0, 0), heap_alloc_new w _, fun i _ => by simp⟩ rfl

def aggV (b : Bool) (r : List Value) : Value := bif b then .agg r.toArray else r.headD undef

theorem run_load_at {P : Program} {t : TypeId} {td : TD} {sz by_ : Nat} {z : Value} (ht : Ty P t td sz by_ z) (hk : td.known = true) {p : Addr} {r : List Value} {w : World} (hl : r.length = sz) (hs : td.isAgg = true \/ sz = 1)
    (hc : ∀ j v, r[j]? = some v -> w.cell? (p.add j) = some v) : (loadVar t p).run P w = .ok (aggV td.isAgg r) w := by
  unfold loadVar
  simp only [Sem.run_bind, run_isAgg' ht hk, Result.andThen_ok]
  cases hb : td.isAgg with
  | true =>
    simp only [if_true]
    simp only [Sem.run_bind, run_sizeOf' ht, Result.andThen_ok, ← hl, run_loadCells_list w p r hc]
    simp [aggV]
  | false =>
    simp only [Bool.false_eq_true, if_false]
    have h1 : r.length = 1 := by rw [hl]; exact hs.resolve_left (by simp [hb])
    obtain ⟨v, rfl⟩ := List.length_eq_one_iff.1 h1
    have := hc 0 v rfl
    rw [Addr.add_zero'] at this
    simp [run_load, this, aggV]

theorem G.loadOwn {t e : TypeId} {x : Operand} {td : TD} {sz by_ o g : Nat} {z v : Value} {cs r : List Value} (hx : ev f x = some (.pointer (some ⟨g, o, none⟩))) (ht : Ty E.P t td sz by_ z) (hk : td.known = true)
    (hH : Take (.blk g cs e) H Hr) (hr : partL cs o sz = some r) (hs : (td.isAgg || Nat.beq sz 1) = true) (hv : aggV td.isAgg r = v) (hd : Nat.blt d E.n = true)
    (n : G E (.ops st all rest :: k) ((d, v) :: f) h H) :
    G E (.ops st all (⟨some d, .load t x, ty, pos, aft, none⟩ :: rest) :: k) f h H := by
  subst hv
  refine G.opVal hd (fun _ a w ha hw => ?_) n
  obtain ⟨hl, hp⟩ := partL_eq _ _ _ _ hr
  have hb := hw.own _ hH.mem
  have hs' : td.isAgg = true \/ sz = 1 := by
    rcases (Bool.or_eq_true_iff).1 hs with h1 | h1
    . exact .inl h1
    . exact .inr (Nat.eq_of_beq_eq_true h1)
  have := run_load_at (w := w) (p := ⟨g, o, none⟩) ht hk hl hs' (fun j v hj => by
    have hj' : j < r.length := (List.getElem?_eq_some_iff.1 hj).1
    rw [Addr.add_lit, blk_cell hb, hp j (by omega)]; exact hj)
  simp [execOp, Instr.loadAt, Instr.sureAddr, ev_eq ha hx, this]

theorem G.loadOwn1 {t e : TypeId} {x : Operand} {td : TD} {by_ o g : Nat} {z v : Value} {cs : List Value} (hx : ev f x = some (.pointer (some ⟨g, o, none⟩))) (ht : Ty E.P t td 1 by_ z) (hk : td.known = true) (ha : td.isAgg = false)
    (hH : Take (.blk g cs e) H Hr) (hr : partL cs o 1 = some [v]) (hd : Nat.blt d E.n = true) (n : G E (.ops st all rest :: k) ((d, v) :: f) h H) :
    G E (.ops st all (⟨some d, .load t x, ty, pos, aft, none⟩ :: rest) :: k) f h H :=
  G.loadOwn hx ht hk hH hr (by rw [ha]; rfl) (by rw [ha]; rfl) hd n
theorem G.loadOwnA {t e : TypeId} {x : Operand} {td : TD} {sz by_ o g : Nat} {z : Value} {cs r : List Value} (hx : ev f x = some (.pointer (some ⟨g, o, none⟩))) (ht : Ty E.P t td sz by_ z) (hk : td.known = true) (ha : td.isAgg = true)
    (hH : Take (.blk g cs e) H Hr) (hr : partL cs o sz = some r) (hd : Nat.blt d E.n = true) (n : G E (.ops st all rest :: k) ((d, .agg r.toArray) :: f) h H) :
    G E (.ops st all (⟨some d, .load t x, ty, pos, aft, none⟩ :: rest) :: k) f h H :=
  G.loadOwn hx ht hk hH hr (by rw [ha]; rfl) (by rw [ha]; rfl) hd n

theorem G.storeOwn {t e : TypeId} {x y : Operand} {td : TD} {sz by_ o g : Nat} {z v : Value} {cs vs cs' : List Value} (hx : ev f x = some (.pointer (some ⟨g, o, none⟩))) (hy : ev f y = some v) (ht : Ty E.P t td sz by_ z)
    (hH : Take (.blk g cs e) H Hr) (hv : normL (cellsL v) = some vs) (hl : (Nat.beq vs.length sz && Nat.blt 0 sz) = true) (h1 : vs.all Value.oneCell' = true) (hr : putL cs o vs = some cs')
    (n : G E (.ops .seq all rest :: k) f h (.blk g cs' e :: Hr)) :
    G E (.ops .seq all (⟨none, .store t x y, ty, pos, aft, none⟩ :: rest) :: k) f h H := by
  have hv := normL_eq hv
  subst hv
  rw [Bool.and_eq_true, Nat.blt_eq] at hl
  obtain ⟨hl, hpos⟩ := hl
  have hl := Nat.eq_of_beq_eq_true hl
  obtain ⟨p1, p2, p3, p4⟩ := putL_eq _ _ _ _ hr
  refine G.opGen fun a w ha hw => ?_
  obtain ⟨fz, hg, hu⟩ := hw.own _ hH.mem
  have hle : o + 0 + (cellsL v).length <= cs.length := by
    rcases Nat.lt_or_ge cs.length (o + (cellsL v).length) with h' | h'
    . exfalso
      have h0 : 0 < (cellsL v).length := by omega
      have := p3 ((cellsL v).length - 1) (by omega)
      rw [List.getElem?_eq_none (by omega), List.getElem?_eq_getElem (by omega)] at this
      cases this
    . omega
  obtain ⟨w', cur', r1, r2, r3, r4, r5, r6, r7, r8, r9, r10⟩ := run_storeCells_blk E.P g o e (cellsL v) 0 cs w fz hg hu hle (fun u hu' => by simpa using List.all_eq_true.1 h1 u hu')
  have hcs : cur' = cs' := by
    apply list_ext_get (by omega)
    intro j hj
    by_cases hjo : j < o \/ o + (cellsL v).length <= j
    . rw [p4 j hjo, r5 j (by simpa using hjo)]
    . have h3 := p3 (j - o) (by omega)
      have h4 := r4 (j - o) (by omega)
      rw [show o + (j - o) = j by omega] at h3
      rw [show o + 0 + (j - o) = j by omega] at h4
      rw [h3, h4]
  subst hcs
  refine ⟨.skip, w', f, h, .blk g cur' e :: Hr, ?_, .inr ⟨rfl, ha⟩, ?_, n⟩
  . have hsz : v.cells.size = sz := by rw [cellsL_eq]; simpa using hl
    simp [execOp, Instr.storeAt, Instr.sureAddr, ev_eq ha hx, ev_eq ha hy, storeVar, run_sizeOf' ht, hsz, cellsL_eq', r1]
  . exact hw.set hH rfl rfl ⟨fz, r2, by rw [r3]; exact hu⟩ r6 r7 r8 r9 r10

def nthF : List (Nat × Nat × Nat) -> Nat -> Option (Nat × Nat × Nat)
  | [], _ => none
  | v :: _, 0 => some v
  | _ :: l, i + 1 => nthF l i
theorem nthF_eq : ∀ (l : List (Nat × Nat × Nat)) (i : Nat), nthF l i = l[i]?
  | [], _ => by simp [nthF]
  | _ :: _, 0 => rfl
  | _ :: l, i + 1 => by simpa [nthF] using nthF_eq l i

theorem run_fieldAt {P : Program} {s : TypeId} {fs : List (Nat × Nat × Nat)} {sz by_ i ft off fsz : Nat} {z : Value} (ht : Ty P s (.struct fs) sz by_ z) (hi : nthF fs i = some (ft, off, fsz + 1)) (p : Addr) (w : World) :
    (Instr.fieldAt s (.pointer (some p)) i).run P w = .ok (.pointer (some (p.add off))) w := by
  have := ht.fits
  simp only [TD.fits] at this
  obtain ⟨fields, h1, h2⟩ := structOf_some this
  rw [nthF_eq] at hi
  have h3 := congrArg (fun l => l[i]?) h2
  simp only [List.getElem?_map, Array.getElem?_toList, hi, Option.map_some] at h3
  cases hf : fields[i]? with
  | none => rw [hf] at h3; cases h3
  | some fl =>
    rw [hf] at h3
    simp only [Option.map_some, Option.some.injEq, Prod.mk.injEq] at h3
    obtain ⟨e1, e2, e3⟩ := h3
    cases hinf : P.info? fl.type with
    | none => rw [hinf] at e3; cases e3
    | some inf =>
      rw [hinf] at e3
      simp only [Option.map_some, Option.some.injEq] at e3
      have hne : ¬ inf.size = 0 := by omega
      simp [Instr.fieldAt, underlying, h1, hf, Instr.sureAddr, fieldPlace, Go.sizeOf, typeInfo, hinf, hne, e2]

theorem G.fieldAddr {s : TypeId} {x : Operand} {fs : List (Nat × Nat × Nat)} {sz by_ i ft off fsz g o : Nat} {z : Value} (hx : ev f x = some (.pointer (some ⟨g, o, none⟩))) (ht : Ty E.P s (.struct fs) sz by_ z)
    (hi : nthF fs i = some (ft, off, fsz + 1)) (hd : Nat.blt d E.n = true) (n : G E (.ops st all rest :: k) ((d, .pointer (some ⟨g, o + off, none⟩)) :: f) h H) :
    G E (.ops st all (⟨some d, .fieldAddr s x i, ty, pos, aft, none⟩ :: rest) :: k) f h H := by
  refine G.opVal hd (fun _ a w ha hw => ?_) n
  have := run_fieldAt ht hi ⟨g, o, none⟩ w
  rw [Addr.add_lit] at this
  simp [execOp, ev_eq ha hx, this]

theorem G.fieldAddrP {s : TypeId} {x : Operand} {fs : List (Nat × Nat × Nat)} {sz by_ i ft off fsz : Nat} {p : Addr} {z : Value} (hx : ev f x = some (.pointer (some p))) (ht : Ty E.P s (.struct fs) sz by_ z)
    (hi : nthF fs i = some (ft, off, fsz + 1)) (hd : Nat.blt d E.n = true) (n : G E (.ops st all rest :: k) ((d, .pointer (some (p.add off))) :: f) h H) :
    G E (.ops st all (⟨some d, .fieldAddr s x i, ty, pos, aft, none⟩ :: rest) :: k) f h H := by
  refine G.opVal hd (fun _ a w ha hw => ?_) n
  simp [execOp, ev_eq ha hx, run_fieldAt ht hi p w]
end
end Go.Proofs.YtibkffoeioidlaaDoor
