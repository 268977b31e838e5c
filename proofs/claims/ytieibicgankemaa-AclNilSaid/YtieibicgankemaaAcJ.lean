/- Rules of the light walk: a range over a map, delete. -/
import Derived.Test.YtieibicgankemaaLtQ
import Derived.Maps.RangeRun
import Derived.Lib.OthersKept
import Derived.Lib.DecodeN
import Derived.Test.YtieibicgankemaaLtM
import Derived.Test.YtieibicgankemaaTy
namespace Go.Proofs.Ytieibicgankemaa
set_option linter.all false
set_option maxRecDepth 4000
open Go.RowKit

section
variable {E : Env} {k : List It} {f : Fr} {h : Heap} {H Hr Hr2 : List Chunk} {all : Array Oper} {rest : List Oper} {d : Nat} {ty : TypeId} {pos : String} {aft : Array Edge}
theorem St.setObj {c : Ctx} {w : World} {r : Nat} {o o' : Obj} (s : St c h H w) (t : Take (.obj r o) H Hr) : St c h (.obj r o' :: Hr) { w with heap := w.heap.setIfInBounds r o' } := by
  have ho : w.heap[r]? = some o := s.own _ t.mem
  have hlt : r < w.heap.size := lt_of_get ho
  refine s.set (g := r) t rfl rfl ?_ rfl rfl rfl (by simp) (fun b hb => ?_)
  . show (w.heap.setIfInBounds r o')[r]? = some o'
    simp [hlt]
  . simp [Array.getElem?_setIfInBounds, Ne.symm hb]
end
end Go.Proofs.Ytieibicgankemaa
namespace Go.Proofs.Ytieibicgankemaa
set_option linter.all false
set_option maxRecDepth 4000
open Go.RowKit

abbrev bA (s : List UInt8) : ByteArray := ⟨s.toArray⟩
def runeAt (s : List UInt8) (i : Nat) : Nat × Nat := Utf8.decode (bA s) i
theorem bA_size (s : List UInt8) : (bA s).size = s.length := by simp [bA, ByteArray.size]
theorem bA_get {s : List UInt8} {i : Nat} (h : i < s.length) : (bA s).get! i = s[i] := by
  show (bA s).data[i]! = _
  simp [bA, h]
theorem runeAt_low {s : List UInt8} {i : Nat} (h : i < s.length) (hb : (s[i]'h).toNat < 128) : runeAt s i = ((s[i]'h).toNat, 1) := by
  have hz : i < (bA s).size := by rw [bA_size]; exact h
  have e : (bA s)[i]'hz = s[i] := by simp [bA, ByteArray.getElem_eq_getElem_data]
  unfold runeAt
  rw [decode_ascii (bA s) i hz (by rw [e]; exact hb), e]
theorem runeAt_high {s : List UInt8} {i : Nat} (h : i < s.length) (hb : ¬ (s[i]'h).toNat < 128) : 128 <= (runeAt s i).1 /\ (runeAt s i).1 <= 1114111 /\ 1 <= (runeAt s i).2 := by
  have e0 := bA_get h
  have l1 := ((bA s).get! (i + 1)).toNat_lt
  have l2 := ((bA s).get! (i + 2)).toNat_lt
  have l3 := ((bA s).get! (i + 3)).toNat_lt
  have l0 := (s[i]'h).toNat_lt
  unfold runeAt
  rw [Lib.decode_at, e0]
  generalize (s[i]'h).toNat = b0 at *
  generalize ((bA s).get! (i + 1)).toNat = b1 at *
  generalize ((bA s).get! (i + 2)).toNat = b2 at *
  generalize ((bA s).get! (i + 3)).toNat = b3 at *
  unfold Lib.decodeN
  repeat' split
  all_goals first | (exfalso; omega) | (simp only; omega)
section
variable {E : Env} {k : List It} {f : Fr} {h : Heap} {H Hr : List Chunk} {all : Array Oper} {rest : List Oper} {d : Nat} {ty : TypeId} {pos : String} {aft : Array Edge}
theorem G.rangeStr {t : TypeId} {x : Operand} {s : List UInt8} {sz1 by1 : Nat} {z1 : Value} (hx : ev f x = some (str s)) (ht : Ty E.P t .str sz1 by1 z1) (hd : Nat.blt d E.n = true)
    (n : ∀ r, G E (.ops .seq all rest :: k) ((d, .pointer (some ⟨r, 0, none⟩)) :: f) h (.obj r (.stringIter (bA s) 0) :: H)) :
    G E (.ops .seq all (⟨some d, .range t x, ty, pos, aft, none⟩ :: rest) :: k) f h H := by
  refine G.opGen fun a w ha hw => ?_
  have hu := ht.fits
  simp only [TD.fits] at hu
  refine ⟨.value (.pointer (some ⟨w.heap.size, 0, none⟩)), w.iter (bA s) 0, _, h, _, ?_, .inl ⟨_, rfl, ha.put d _ hd⟩, hw.alloc _ (.obj w.heap.size (.stringIter (bA s) 0)) ?_ rfl, n _⟩
  . simp [execOp, ev_eq ha hx, str, run_range_string w t _ hu, bA]
  . exact heap_alloc_new w _
theorem G.nextStr {x : Operand} {r p : Nat} {s : List UInt8} (hx : ev f x = some (.pointer (some ⟨r, 0, none⟩))) (hI : Take (.obj r (.stringIter (bA s) p)) H Hr) (hd : Nat.blt d E.n = true)
    (over : s.length <= p -> G E (.ops .seq all rest :: k) ((d, .tuple #[.bool false]) :: f) h H)
    (step : p < s.length -> G E (.ops .seq all rest :: k) ((d, .tuple #[.bool true, .int .i64 p, .int .i32 (runeAt s p).1]) :: f) h (.obj r (.stringIter (bA s) (p + (runeAt s p).2)) :: Hr)) :
    G E (.ops .seq all (⟨some d, .next x true, ty, pos, aft, none⟩ :: rest) :: k) f h H := by
  refine G.opGen fun a w ha hw => ?_
  have hr : w.heap[r]? = some (.stringIter (bA s) p) := hw.own _ hI.mem
  by_cases hp : p < s.length
  . have hp' : p < (bA s).size := by rw [bA_size]; exact hp
    refine ⟨.value (.tuple #[.bool true, .int .i64 p, .int .i32 (runeAt s p).1]), { w with heap := w.heap.setIfInBounds r (.stringIter (bA s) (p + (runeAt s p).2)) }, _, h, _, ?_, .inl ⟨_, rfl, ha.put d _ hd⟩, hw.setObj hI, step hp⟩
    simp [execOp, ev_eq ha hx, Lib.run_next_any_at w r (bA s) p ty hr hp', runeAt, World.iterAt]
  . have hp' : ¬ p < (bA s).size := by rw [bA_size]; exact hp
    refine ⟨.value (.tuple #[.bool false]), w, _, h, H, ?_, .inl ⟨_, rfl, ha.put d _ hd⟩, hw, over (by omega)⟩
    simp [execOp, ev_eq ha hx, Lib.run_next_end_at w r (bA s) p ty hr hp']
theorem G.makeSlice0 {t e : TypeId} {x y : Operand} {td : TD} {kx ky : IntKind} {n : Int} {sz by_ sz1 by1 : Nat} {z z1 : Value} (hx : ev f x = some (.int kx 0)) (hy : ev f y = some (.int ky n)) (ht : Ty E.P t (.slice e) sz1 by1 z1)
    (he : Ty E.P e td sz by_ z) (hb : 0 <= n /\ n <= 9223372036854775807 /\ by_ * n <= 281474976710656) (hd : Nat.blt d E.n = true)
    (g : ∀ v, G E (.ops .seq all rest :: k) ((d, v) :: f) h (.row v e sz [] :: H)) :
    G E (.ops .seq all (⟨some d, .makeSlice t x y, ty, pos, aft, none⟩ :: rest) :: k) f h H := by
  have f1 := ht.fits
  simp only [TD.fits] at f1
  obtain ⟨i, hi, hi1, hi2, hi3⟩ := he.info
  refine G.opGen fun a w ha hw => ⟨.value (.slice (some ⟨w.heap.size, 0, none⟩) 0 n.toNat), w.alloc (.cells (madeCells z.cells (n.toNat * i.size)) e), _, h, _, ?_, .inl ⟨_, rfl, ha.put d _ hd⟩, ?_, g _⟩
  . have := run_make (P := E.P) w t e i z f1 hi hi3 kx ky 0 n (Int.le_refl _) hb.1 (by rw [hi2]; exact hb.2.2) (by omega)
    simp [execOp, ev_eq ha hx, ev_eq ha hy, this]
  . refine hw.alloc _ _ ⟨fun r hr => absurd hr (by simp), .inr ⟨w.heap.size, n.toNat, _, (0, 0), by simp, heap_alloc_new w _, fun i _ => by simp, by simp, by simp only [maxLen]; omega, ?_, ?_⟩⟩ rfl
    . simp [madeCells, hi1]
    . simp
end
end Go.Proofs.Ytieibicgankemaa
namespace Go.Proofs.Ytieibicgankemaa
set_option linter.all false
set_option maxRecDepth 4000
open Go.RowKit

def LC {α : Type} (R : Heap -> α -> List Value -> Prop) (h : Heap) : List α -> List (List Value) -> Prop
  | [], rows => rows = []
  | a :: l, rows => ∃ r rest, rows = r :: rest /\ R h a r /\ LC R h l rest
theorem LC.mono {α : Type} {R : Heap -> α -> List Value -> Prop} {h h' : Heap} (hR : ∀ {a r}, R h a r -> R h' a r) : ∀ {l : List α} {rows : List (List Value)}, LC R h l rows -> LC R h' l rows
  | [], _, e => e
  | _ :: _, _, ⟨v, rest, e, h1, h2⟩ => ⟨v, rest, e, hR h1, h2.mono hR⟩
theorem LC.len {α : Type} {R : Heap -> α -> List Value -> Prop} {h : Heap} : ∀ {l : List α} {rows : List (List Value)}, LC R h l rows -> rows.length = l.length
  | [], _, e => by simp only [LC] at e; subst e; rfl
  | _ :: _, _, ⟨v, rest, e, h1, h2⟩ => by subst e; simp [h2.len]
theorem LC.append {α : Type} {R : Heap -> α -> List Value -> Prop} {h : Heap} : ∀ {a b : List α} {ra rb : List (List Value)}, LC R h a ra -> LC R h b rb -> LC R h (a ++ b) (ra ++ rb)
  | [], b, ra, rb, ha, hb => by simp only [LC] at ha; subst ha; exact hb
  | _ :: _, b, ra, rb, ⟨v, rest, e, h1, h2⟩, hb => by subst e; exact ⟨v, rest ++ rb, rfl, h1, h2.append hb⟩
theorem LC.one {α : Type} {R : Heap -> α -> List Value -> Prop} {h : Heap} {a : α} {r : List Value} (hv : R h a r) : LC R h [a] [r] := ⟨r, [], rfl, hv, rfl⟩
theorem LC.get {α : Type} {R : Heap -> α -> List Value -> Prop} {h : Heap} : ∀ {l : List α} {rows : List (List Value)} {i : Nat} {a : α}, LC R h l rows -> l[i]? = some a -> ∃ r, rows[i]? = some r /\ R h a r
  | [], _, i, r, _, hi => by simp at hi
  | _ :: _, _, 0, r, ⟨v, rest, e, h1, h2⟩, hi => by simp at hi; subst hi; subst e; exact ⟨v, rfl, h1⟩
  | _ :: _, _, i + 1, r, ⟨v, rest, e, h1, h2⟩, hi => by
    subst e
    simp at hi
    obtain ⟨v', h3, h4⟩ := h2.get hi
    exact ⟨v', by simpa using h3, h4⟩
theorem LC.drop {α : Type} {R : Heap -> α -> List Value -> Prop} {h : Heap} : ∀ {l : List α} {rows : List (List Value)} (i : Nat), LC R h l rows -> LC R h (l.drop i) (rows.drop i)
  | _, _, 0, e => by simpa using e
  | [], _, i + 1, e => by simp only [LC] at e; subst e; simp [LC]
  | _ :: _, _, i + 1, ⟨v, rest, e, h1, h2⟩ => by subst e; simpa using h2.drop i
theorem LC.take {α : Type} {R : Heap -> α -> List Value -> Prop} {h : Heap} : ∀ {l : List α} {rows : List (List Value)} (i : Nat), LC R h l rows -> LC R h (l.take i) (rows.take i)
  | _, _, 0, e => by simp [LC]
  | [], _, i + 1, e => by simp only [LC] at e; subst e; simp [LC]
  | _ :: _, _, i + 1, ⟨v, rest, e, h1, h2⟩ => by subst e; exact ⟨v, rest.take i, by simp, h1, h2.take i⟩
theorem LC.rowed {α : Type} {R : Heap -> α -> List Value -> Prop} {h : Heap} {n : Nat} (hR : ∀ {a r}, R h a r -> r.length = n) : ∀ {l : List α} {rows : List (List Value)}, LC R h l rows -> Rowed n rows
  | [], _, e => by simp only [LC] at e; subst e; intro r hr; simp at hr
  | _ :: _, _, ⟨v, rest, e, h1, h2⟩ => by
    subst e
    intro r hr
    rcases List.mem_cons.1 hr with rfl | hr
    . exact hR h1
    . exact h2.rowed hR r hr
theorem LC.all {α : Type} {R : Heap -> α -> List Value -> Prop} {h : Heap} {p : List Value -> Prop} (hR : ∀ {a r}, R h a r -> p r) : ∀ {l : List α} {rows : List (List Value)}, LC R h l rows -> ∀ r ∈ rows, p r
  | [], _, e => by simp only [LC] at e; subst e; intro r hr; simp at hr
  | _ :: _, _, ⟨v, rest, e, h1, h2⟩ => by
    subst e
    intro r hr
    rcases List.mem_cons.1 hr with rfl | hr
    . exact hR h1
    . exact h2.all hR r hr
theorem LC.of {α : Type} {R : Heap -> α -> List Value -> Prop} {h : Heap} : ∀ (l : List α) (rows : List (List Value)), l.length = rows.length -> (∀ (i : Nat) b, l[i]? = some b -> ∃ r, rows[i]? = some r /\ R h b r) -> LC R h l rows
  | [], [], _, _ => rfl
  | [], _ :: _, h, _ => by simp at h
  | _ :: _, [], h, _ => by simp at h
  | b :: l, r :: rows, h, hr => by
    obtain ⟨r0, h0, h1⟩ := hr 0 b rfl
    simp only [List.getElem?_cons_zero, Option.some.injEq] at h0
    have ih := LC.of l rows (by simpa using h) (fun i b' hb => by simpa using hr (i + 1) b' (by simpa using hb))
    exact ⟨r, rows, rfl, h0 ▸ h1, ih⟩
def SC {α : Type} (R : Heap -> α -> List Value -> Prop) (n : Nat) (h : Heap) (l : List α) (v : Value) : Prop := ∃ rows, HSl h v n rows /\ LC R h l rows
theorem SC.mono {α : Type} {R : Heap -> α -> List Value -> Prop} {n : Nat} {h h' : Heap} (hR : ∀ {a r}, R h a r -> R h' a r) (hl : Heap.le h h') {l : List α} {v : Value} : SC R n h l v -> SC R n h' l v
  | ⟨rows, h1, h2⟩ => ⟨rows, h1.mono hl, h2.mono hR⟩
theorem SC.nil {α : Type} (R : Heap -> α -> List Value -> Prop) (n : Nat) (h : Heap) : SC R n h [] (.slice none 0 0) := ⟨[], HSl.nil h n, rfl⟩
theorem SC.form {α : Type} {R : Heap -> α -> List Value -> Prop} {n : Nat} {h : Heap} {l : List α} {v : Value} : SC R n h l v -> ∃ A c, v = .slice A l.length c /\ l.length <= c /\ l.length <= 9223372036854775807
  | ⟨rows, h1, h2⟩ => by
    obtain ⟨A, c, e, h3, h4, _⟩ := h1.form
    rw [h2.len] at e h3
    simp only [maxLen] at h4
    exact ⟨A, c, e, h3, by omega⟩
end Go.Proofs.Ytieibicgankemaa
namespace Go.Proofs.Ytieibicgankemaa
set_option linter.all false
set_option maxRecDepth 4000
open Go.RowKit
section
variable {E : Env} {k : List It} {f : Fr} {h : Heap} {H Hr : List Chunk} {all : Array Oper} {rest : List Oper} {d : Nat} {ty : TypeId} {pos : String} {aft : Array Edge}
theorem G.cutRow {t e : TypeId} {x y : Operand} {kd : IntKind} {b : Int} {b' : Nat} {td : TD} {sz by_ sz1 by1 : Nat} {z z1 v : Value} {rows : List (List Value)} (hx : ev f x = some v) (hy : ev f y = some (.int kd b))
    (ht : Ty E.P t (.slice e) sz1 by1 z1) (he : Ty E.P e td sz by_ z) (hH : Take (.row v e sz rows) H Hr) (hb' : b.toNat = b') (hb : 0 <= b /\ b <= rows.length) (hd : Nat.blt d E.n = true)
    (n : ∀ v', G E (.ops .seq all rest :: k) ((d, v') :: f) h (.row v' e sz (rows.take b') :: Hr)) :
    G E (.ops .seq all (⟨some d, .slice t x none (some y) none, ty, pos, aft, none⟩ :: rest) :: k) f h H := by
  have hbl : b' <= rows.length := by omega
  refine ⟨fun a w ha hw => ?_⟩
  rcases (hw.own _ hH.mem).2 with ⟨rfl, h0⟩ | ⟨g, cap, cur, fz, rfl, _, _, hnc, _, _, _⟩
  . subst h0
    have : b' = 0 := by simpa using hbl
    subst this
    refine (G.slicePre (b' := 0) hx hy ht he hd hb' ⟨hb.1, by simpa using hb.2⟩ ?_).run a w ha hw
    have hn := n (.slice none 0 0)
    refine ⟨fun a w ha hw => hn.run a w ha (hw.sub ?_)⟩
    exact ⟨[], by simpa using hH.perm⟩
  . refine (G.slicePre (b' := b') hx hy ht he hd hb' ⟨hb.1, by omega⟩ ?_).run a w ha hw
    refine ⟨fun a w ha hw => (n _).run a w ha (hw.set (g := g) hH rfl rfl (row_cut (hw.own _ hH.mem) hbl) rfl rfl rfl rfl (fun _ _ => rfl))⟩
end
end Go.Proofs.Ytieibicgankemaa
namespace Go.Proofs.Ytieibicgankemaa
set_option linter.all false
set_option maxRecDepth 4000
open Go.RowKit

abbrev Atr := List UInt8 × List (List UInt8)
def AtrC (h : Heap) (a : Atr) (r : List Value) : Prop := ∃ v, r = [str a.1, v] /\ HSl h v 1 (strsR a.2)
theorem AtrC.mono {h h' : Heap} (hl : Heap.le h h') {a : Atr} {r : List Value} : AtrC h a r -> AtrC h' a r
  | ⟨v, e, h1⟩ => ⟨v, e, h1.mono hl⟩
abbrev AtrsC (h : Heap) (l : List Atr) (v : Value) : Prop := SC AtrC 2 h l v
theorem AtrsC.mono {h h' : Heap} (hl : Heap.le h h') {l : List Atr} {v : Value} (s : AtrsC h l v) : AtrsC h' l v := SC.mono (fun x => x.mono hl) hl s
end Go.Proofs.Ytieibicgankemaa
