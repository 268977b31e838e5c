/- Rules of the light walk: append, conversions, indexes, freezing, building. -/
import Derived.Test.YtibkffoeioidlaaDoorLtF
namespace Go.Proofs.YtibkffoeioidlaaDoor
set_option linter.all false
set_option maxRecDepth 4000
open Go.RowKit

theorem St.same {c : Ctx} {h : Heap} {H : List Chunk} {w w' : World} (s : St c h H w) (hh : w'.heap = w.heap) (ho : w'.os = w.os) (ht : w'.tape = w.tape) (hp : w'.output = w.output) : St c h H w' := s.drewN hh ho ht hp

theorem St.push {c : Ctx} {h : Heap} {H : List Chunk} {w w' : World} (s : St c h H w) (o : Obj) (hh : w'.heap = w.heap.push o) (ho : w'.os = w.os) (ht : w'.tape = w.tape) (hp : w'.output = w.output) (x : Chunk) (hx : x.holds w')
    (hk : x.key = some w.heap.size) : St c h (x :: H) w' := by
  have h1 : (w.alloc o).heap = w'.heap := hh.symm
  have := s.alloc o x (Chunk.holds_congr (fun g _ => by rw [h1]) hx) hk
  exact this.same hh ho ht hp

theorem St.freezeBlk {c : Ctx} {h : Heap} {H Hr : List Chunk} {w : World} {g : Nat} {cs : List Value} {e : TypeId} (s : St c h H w) (t : Take (.blk g cs e) H Hr) :
    ∃ h', Heap.le h h' /\ (∀ i u, cs[i]? = some u -> Heap.cell? h' ⟨g, i, none⟩ = some u) /\ St c h' Hr w := by
  have s' : St c h (.blk g cs e :: Hr) w := s.sub ⟨[], by simpa using t.perm⟩
  obtain ⟨fz, hg, _⟩ := s'.own (.blk g cs e) (by simp)
  have hkx : keys (.blk g cs e :: Hr) = g :: keys Hr := by simp [keys, Chunk.key]
  have hnd := s'.nodup
  rw [hkx, List.nodup_cons] at hnd
  have hgn : h g = none := s'.sep g (by rw [hkx]; simp)
  refine ⟨fun b => if b = g then some (.cells cs.toArray e fz) else h b, fun b o hb => ?_, fun i u hu => ?_, ⟨s'.os, s'.tape, s'.output, s'.size, s'.fr, fun b o hb => ?_, fun b o hb => ?_, fun x hx => s'.own x (by simp [hx]), hnd.2, fun g' hg' => ?_, fun g' hg' => s'.ksub g' (by rw [hkx]; simp [hg']), fun b o hb => ?_⟩⟩
  . by_cases e1 : b = g
    . subst e1; rw [hgn] at hb; cases hb
    . simp [e1, hb]
  . simp [Heap.cell?, hu]
  . have := s'.mono b o hb
    by_cases e1 : b = g
    . subst e1; rw [hgn] at this; cases this
    . simp [e1, this]
  . by_cases e1 : b = g
    . subst e1; simp at hb; rw [<- hb]; exact hg
    . simp [e1] at hb; exact s'.imm b o hb
  . by_cases e1 : g' = g
    . subst e1; exact absurd hg' hnd.1
    . simp [e1]; exact s'.sep g' (by rw [hkx]; simp [hg'])
  . by_cases e1 : b = g
    . subst e1; exact .inr (s'.ksub b (by rw [hkx]; simp))
    . simp [e1] at hb; exact s'.isub b o hb

theorem St.freezeRow {c : Ctx} {h : Heap} {H Hr : List Chunk} {w : World} {v : Value} {sz : Nat} {rows : List (List Value)} {e : TypeId} (s : St c h H w) (t : Take (.row v e sz rows) H Hr) :
    ∃ h', Heap.le h h' /\ HSl h' v sz rows /\ St c h' Hr w := by
  have s' : St c h (.row v e sz rows :: Hr) w := s.sub ⟨[], by simpa using t.perm⟩
  have hr := s'.own (.row v e sz rows) (by simp)
  rcases hr.2 with ⟨rfl, rfl⟩ | ⟨g, cap, cur, fz, rfl, hg, hu, h1, h2, h3, h4⟩
  . exact ⟨h, Heap.le_refl h, HSl.nil h sz, s'.sub ⟨[.row (.slice none 0 0) e sz []], by simpa using (List.perm_append_comm (l₁ := [Chunk.row (.slice none 0 0) e sz []]) (l₂ := Hr))⟩⟩
  . have s2 : St c h (.blk g cur.toList e :: Hr) w := by
      refine ⟨s'.os, s'.tape, s'.output, s'.size, s'.fr, s'.mono, s'.imm, fun x hx => ?_, ?_, fun g' hg' => s'.sep g' ?_, fun g' hg' => s'.ksub g' ?_, s'.isub⟩
      . rcases List.mem_cons.1 hx with rfl | hx
        . exact ⟨fz, by simpa using hg, by simpa using hu⟩
        . exact s'.own x (by simp [hx])
      . have := s'.nodup; simpa [keys, Chunk.key, Value.ownBlock] using this
      . simpa [keys, Chunk.key, Value.ownBlock] using hg'
      . simpa [keys, Chunk.key, Value.ownBlock] using hg'
    obtain ⟨h', hle, hc, s3⟩ := s2.freezeBlk Take.hd
    refine ⟨h', hle, ⟨hr.1, some ⟨g, 0, none⟩, cap, rfl, h1, h2, fun _ => ⟨_, rfl, fun j u hj => ?_⟩⟩, s3⟩
    rw [Addr.add_lit, Nat.zero_add]
    refine hc j u ?_
    have hlt : j < rows.length * sz := by rw [<- flatten_length hr.1]; exact (List.getElem?_eq_some_iff.1 hj).1
    rw [<- h4, List.getElem?_take_of_lt hlt] at hj
    exact hj

def HCells (h : Heap) (p : Addr) (r : List Value) : Prop := ∀ j u, r[j]? = some u -> Heap.cell? h (p.add j) = some u
theorem HCells.mono {h h' : Heap} {p : Addr} {r : List Value} (s : HCells h p r) (hl : Heap.le h h') : HCells h' p r := fun j u hj => Heap.cell_mono hl (s j u hj)
theorem add_add_ (a : Addr) (i j : Nat) : (a.add i).add j = a.add (i + j) := by
  unfold Addr.add
  by_cases hi : i = 0 <;> by_cases hj : j = 0 <;> simp [hi, hj, Nat.add_assoc]
theorem HSl.at_ {h : Heap} {A : Option Addr} {n c : Nat} {sz : Nat} {rows : List (List Value)} (s : HSl h (.slice A n c) sz rows) {i : Nat} {r : List Value} (hr : rows[i]? = some r) : ∃ ad, A = some ad /\ HCells h (ad.add (i * sz)) r := by
  obtain ⟨A', c', h1, _, _, h4⟩ := s.form
  injection h1 with e1 e2 e3
  subst e1
  have hne : rows ≠ [] := fun e => by subst e; simp at hr
  obtain ⟨ad, rfl, h6⟩ := h4 hne
  refine ⟨ad, rfl, fun j u hj => ?_⟩
  rw [add_add_]
  refine h6 _ u ?_
  have hrl : r.length = sz := s.rowed r (List.mem_of_getElem? hr)
  rw [flatten_get s.rowed i r hr j (by rw [<- hrl]; exact (List.getElem?_eq_some_iff.1 hj).1)]
  exact hj

section
variable {E : Env} {k : List It} {f : Fr} {h : Heap} {H Hr : List Chunk} {st : Md} [hmd : OkMd st h H] {all : Array Oper} {rest : List Oper} {d : Nat} {ty : TypeId} {pos : String} {aft : Array Edge}

theorem G.freezeRow {v : Value} {sz : Nat} {rows : List (List Value)} {e : TypeId} (t : Take (.row v e sz rows) H Hr) (n : ∀ h', Heap.le h h' -> HSl h' v sz rows -> G E k f h' Hr) : G E k f h H :=
  ⟨fun a w ha hw => by obtain ⟨h', h1, h2, s⟩ := hw.freezeRow t; exact (n h' h1 h2).run a w ha s⟩
theorem G.freezeBlk {g : Nat} {cs : List Value} {e : TypeId} (t : Take (.blk g cs e) H Hr) (n : ∀ h', Heap.le h h' -> HCells h' ⟨g, 0, none⟩ cs -> G E k f h' Hr) : G E k f h H :=
  ⟨fun a w ha hw => by
    obtain ⟨h', h1, h2, s⟩ := hw.freezeBlk t
    exact (n h' h1 (fun j u hj => by rw [Addr.add_lit, Nat.zero_add]; exact h2 j u hj)).run a w ha s⟩
theorem G.nilRow (e : TypeId) (sz : Nat) (n : G E k f h (.row (.slice none 0 0) e sz [] :: H)) : G E k f h H :=
  ⟨fun a w ha hw => n.run a w ha ⟨hw.os, hw.tape, hw.output, hw.size, hw.fr, hw.mono, hw.imm, fun x hx => by
    rcases List.mem_cons.1 hx with rfl | hx
    . exact ⟨fun r hr => absurd hr (by simp), .inl ⟨rfl, rfl⟩⟩
    . exact hw.own x hx, hw.nodup, fun g hg => hw.sep g hg, fun g hg => hw.ksub g hg, hw.isub⟩⟩
theorem G.rowForm {v : Value} {sz : Nat} {rows : List (List Value)} {e : TypeId} (t : Take (.row v e sz rows) H Hr) (n : ∀ A c, v = .slice A rows.length c -> G E k f h H) : G E k f h H :=
  ⟨fun a w ha hw => by
    obtain ⟨A, cap, hv, _⟩ := row_form (hw.own _ t.mem)
    exact (n A cap hv).run a w ha hw⟩
theorem G.append {t t2 e : TypeId} {x y : Operand} {td td2 : TD} {sz by_ sz1 by1 sz2 by2 : Nat} {z z1 z2 v u : Value} {rows news : List (List Value)} (hx : ev f x = some v) (hy : ev f y = some u)
    (ht : Ty E.P t (.slice e) sz1 by1 z1) (he : Ty E.P e td sz by_ z) (ht2 : Ty E.P t2 td2 sz2 by2 z2) (h2 : (∃ e2, td2 = .slice e2) \/ td2 = .str) (hz : (Nat.beq (cellsL z).length sz && Nat.blt 0 sz) = true)
    (hH : Take (.row v e sz rows) H Hr) (hs : Src E.P h H sz u news) (hw' : Rowed sz news) (h1 : ∀ r ∈ news, ∀ q ∈ r, q.oneCell' = true) (hd : Nat.blt d E.n = true)
    (hb : (rows.length + news.length) * by_ <= 140737488355328) (h63 : rows.length + news.length <= 9223372036854775807)
    (n : ∀ v', G E (.ops .seq all rest :: k) ((d, v') :: f) h (.row v' e sz (rows ++ news) :: Hr)) :
    G E (.ops .seq all (⟨some d, .call { callee := .builtin .append, args := #[x, y], argTypes := #[t, t2] }, ty, pos, aft, none⟩ :: rest) :: k) f h H := by
  rw [Bool.and_eq_true, Nat.blt_eq] at hz
  obtain ⟨hz0, hpos⟩ := hz
  have hz0 := Nat.eq_of_beq_eq_true hz0
  refine G.opGen fun a w ha hw => ?_
  have hr := hw.own _ hH.mem
  obtain ⟨v', w', r1, r2, r3, r4, r5, r6⟩ := run_append_row (ty := ty) hw ht he ht2 h2 hz0 hpos hr hs hw' h1 hb h63
  refine ⟨.value v', w', (d, v') :: f, h, .row v' e sz (rows ++ news) :: Hr, ?_, .inl ⟨v', rfl, ha.put d v' hd⟩, ?_, n v'⟩
  . simp [execOp, resolve, invoke, builtin, ev_eq ha hx, ev_eq ha hy, r1]
  . rcases r6 with ⟨rfl, rfl, rfl⟩ | ⟨g, g1, g2, g3, g4⟩ | ⟨o, o1, o2⟩
    . have : St E.c h (.row v' e sz rows :: Hr) w' := hw.sub ⟨[], by simpa using hH.perm⟩
      simpa using this
    . exact hw.set hH g1 g2 r2 r3 r4 r5 g3 g4
    . have s' : St E.c h Hr w := hw.sub ⟨[.row v e sz rows], hH.perm.trans (by simpa using (List.perm_append_comm (l₁ := [Chunk.row v e sz rows]) (l₂ := Hr)))⟩
      exact s'.push o o2 r3 r4 r5 _ r2 o1

theorem G.convBytes {s t e : TypeId} {x : Operand} {l : List UInt8} {sz1 by1 sz2 by2 sz3 by3 : Nat} {z1 z2 z3 : Value} (hx : ev f x = some (str l)) (hs : Ty E.P s .str sz1 by1 z1) (ht : Ty E.P t (.slice e) sz2 by2 z2)
    (he : Ty E.P e (.int .u8) sz3 by3 z3) (hd : Nat.blt d E.n = true) (hl : l.length <= 9223372036854775807) (n : ∀ v, G E (.ops .seq all rest :: k) ((d, v) :: f) h (.row v e 1 (bytesR l) :: H)) :
    G E (.ops .seq all (⟨some d, .convert s t x, ty, pos, aft, none⟩ :: rest) :: k) f h H := by
  refine G.opGen fun a w ha hw => ?_
  have f1 := hs.fits
  have f2 := ht.fits
  have f3 := he.fits
  simp only [TD.fits] at f1 f2 f3
  have hge := grownCap_ge w l.length 0 e
  have hcm : grownCap w l.length 0 e <= maxLen := grownCap_le_maxLen w l.length 0 e (by simp only [maxLen]; omega)
  let cells : Array Value := (l.map fun b => Value.int .u8 b.toNat).toArray ++ Array.replicate (grownCap w l.length 0 e - l.length) (.int .u8 0)
  have hcs : cells.size = grownCap w l.length 0 e := by simp [cells]; omega
  let w1 := w.drew.alloc (.cells cells e)
  refine ⟨.value (.slice (some ⟨w.heap.size, 0, none⟩) l.length (grownCap w l.length 0 e)), w1.freeze ⟨w.heap.size, cells.size, none⟩ 1, _, h, _, ?_, .inl ⟨_, rfl, ha.put d _ hd⟩, ?_, n _⟩
  . have hsh : w1.shape? w.heap.size = some (e, cells.size) := by
      have : w1.heap[w.heap.size]? = some (.cells cells e (0, 0)) := heap_alloc_new w.drew _
      simp [World.shape?, this]
    have hq : (Question.appendCap l.length 0 e).cut (w.tape w.drawn (.appendCap l.length 0 e)) = grownCap w l.length 0 e := rfl
    simp [execOp, convert, underlying, f1, f2, f3, ev_eq ha hx, Go.Proofs.YtibkffoeioidlaaDoor.str, Conv.stringToBytes, ba_size, Question.forced, newRow, hq, markStringish]
    have hw1 : w.drew.alloc (.cells ((l.map fun b => Value.int .u8 b.toNat).toArray ++ Array.replicate (grownCap w l.length 0 e - l.length) (.int .u8 0)) e) = w1 := rfl
    rw [hw1, hsh]
    simp
  . have hb : (w1.freeze ⟨w.heap.size, cells.size, none⟩ 1).heap = w.heap.push (.cells cells e (cells.size, cells.size + 1)) := by
      simp only [World.freeze, w1, World.alloc]
      have hdh : w.drew.heap = w.heap := rfl
      apply Array.ext_getElem?
      intro i
      rw [if_neg (by omega)]
      simp only [Array.getElem?_modify, Array.getElem?_push]
      by_cases hi : i = w.heap.size
      . subst hi; simp [hdh]
      . have hi' : ¬ w.heap.size = i := fun e => hi e.symm
        simp [hdh, hi, hi']
    refine hw.push _ hb rfl rfl rfl _ ⟨rowed_bytes l, .inr ⟨w.heap.size, _, cells, (cells.size, cells.size + 1), by simp, ?_, fun i hi => by simp; omega, by simpa using hge, hcm, by simp [hcs], ?_⟩⟩ rfl
    . rw [hb]; simp
    . rw [bytesR_flatten]
      simp [cells]
end
end Go.Proofs.YtibkffoeioidlaaDoor
