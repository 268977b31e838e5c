/- Rules of the light walk: a range over a map, delete. -/
import Derived.Test.YtahpemfnhepgoaaLtQ
import Derived.Maps.RangeRun
import Derived.Lib.OthersKept
import Derived.Lib.DecodeN
namespace Go.Proofs.Ytahpemfnhepgoaa
set_option linter.all false
set_option maxRecDepth 4000
open Go.RowKit

section
variable {E : Env} {k : List It} {f : Fr} {h : Heap} {H Hr Hr2 : List Chunk} {all : Array Oper} {rest : List Oper} {d : Nat} {ty : TypeId} {pos : String} {aft : Array Edge}
theorem St.setObj {c : Ctx} {w : World} {r : Nat} {o o' : Obj} (s : St c h H w) (t : Take (.obj r o) H Hr) : St c h (.obj r o' :: Hr) { w with heap := w.heap.setIfInBounds r o' } := by
  have ho : w.heap[r]? = some o := s.own _ t.mem
  have hlt : r < w.heap.size := lt_of_get ho
  refine s.set (g := r) t rfl rfl ?_ rfl rfl rfl (by simp) (fun b hb => ?_)
  . show (w.heap.setIfInBounds r o')[r]? = some o'
    simp [hlt]
  . simp [Array.getElem?_setIfInBounds, Ne.symm hb]
end
end Go.Proofs.Ytahpemfnhepgoaa
namespace Go.Proofs.Ytahpemfnhepgoaa
set_option linter.all false
set_option maxRecDepth 4000
open Go.RowKit

abbrev bA (s : List UInt8) : ByteArray := ⟨s.toArray⟩
def runeAt (s : List UInt8) (i : Nat) : Nat × Nat := Utf8.decode (bA s) i
theorem bA_size (s : List UInt8) : (bA s).size = s.length := by simp [bA, ByteArray.size]
theorem bA_get {s : List UInt8} {i : Nat} (h : i < s.length) : (bA s).get! i = s[i] := by
  show (bA s).data[i]! = _
  simp [bA, h]
theorem runeAt_low {s : List UInt8} {i : Nat} (h : i < s.length) (hb : (s[i]'h).toNat < 128) : runeAt s i = ((s[i]'h).toNat, 1) := by
  have hz : i < (bA s).size := by rw [bA_size]; exact h
  have e : (bA s)[i]'hz = s[i] := by simp [bA, ByteArray.getElem_eq_getElem_data]
  unfold runeAt
  rw [decode_ascii (bA s) i hz (by rw [e]; exact hb), e]
theorem runeAt_high {s : List UInt8} {i : Nat} (h : i < s.length) (hb : ¬ (s[i]'h).toNat < 128) : 128 <= (runeAt s i).1 /\ (runeAt s i).1 <= 1114111 /\ 1 <= (runeAt s i).2 := by
  have e0 := bA_get h
  have l1 := ((bA s).get! (i + 1)).toNat_lt
  have l2 := ((bA s).get! (i + 2)).toNat_lt
  have l3 := ((bA s).get! (i + 3)).toNat_lt
  have l0 := (s[i]'h).toNat_lt
  unfold runeAt
  rw [Lib.decode_at, e0]
  generalize (s[i]'h).toNat = b0 at *
  generalize ((bA s).get! (i + 1)).toNat = b1 at *
  generalize ((bA s).get! (i + 2)).toNat = b2 at *
  generalize ((bA s).get! (i + 3)).toNat = b3 at *
  unfold Lib.decodeN
  repeat' split
  all_goals first | (exfalso; omega) | (simp only; omega)
section
variable {E : Env} {k : List It} {f : Fr} {h : Heap} {H Hr : List Chunk} {all : Array Oper} {rest : List Oper} {d : Nat} {ty : TypeId} {pos : String} {aft : Array Edge}
theorem G.rangeStr {t : TypeId} {x : Operand} {s : List UInt8} {sz1 by1 : Nat} {z1 : Value} (hx : ev f x = some (str s)) (ht : Ty E.P t .str sz1 by1 z1) (hd : Nat.blt d E.n = true)
    (n : ∀ r, G E (.ops .seq all rest :: k) ((d, .pointer (some ⟨r, 0, none⟩)) :: f) h (.obj r (.stringIter (bA s) 0) :: H)) :
    G E (.ops .seq all (⟨some d, .range t x, ty, pos, aft, none⟩ :: rest) :: k) f h H := by
  refine G.opGen fun a w ha hw => ?_
  have hu := ht.fits
  simp only [TD.fits] at hu
  refine ⟨.value (.pointer (some ⟨w.heap.size, 0, none⟩)), w.iter (bA s) 0, _, h, _, ?_, .inl ⟨_, rfl, ha.put d _ hd⟩, hw.alloc _ (.obj w.heap.size (.stringIter (bA s) 0)) ?_ rfl, n _⟩
  . simp [execOp, ev_eq ha hx, str, run_range_string w t _ hu, bA]
  . exact heap_alloc_new w _
theorem G.nextStr {x : Operand} {r p : Nat} {s : List UInt8} (hx : ev f x = some (.pointer (some ⟨r, 0, none⟩))) (hI : Take (.obj r (.stringIter (bA s) p)) H Hr) (hd : Nat.blt d E.n = true)
    (over : s.length <= p -> G E (.ops .seq all rest :: k) ((d, .tuple #[.bool false]) :: f) h H)
    (step : p < s.length -> G E (.ops .seq all rest :: k) ((d, .tuple #[.bool true, .int .i64 p, .int .i32 (runeAt s p).1]) :: f) h (.obj r (.stringIter (bA s) (p + (runeAt s p).2)) :: Hr)) :
    G E (.ops .seq all (⟨some d, .next x true, ty, pos, aft, none⟩ :: rest) :: k) f h H := by
  refine G.opGen fun a w ha hw => ?_
  have hr : w.heap[r]? = some (.stringIter (bA s) p) := hw.own _ hI.mem
  by_cases hp : p < s.length
  . have hp' : p < (bA s).size := by rw [bA_size]; exact hp
    refine ⟨.value (.tuple #[.bool true, .int .i64 p, .int .i32 (runeAt s p).1]), { w with heap := w.heap.setIfInBounds r (.stringIter (bA s) (p + (runeAt s p).2)) }, _, h, _, ?_, .inl ⟨_, rfl, ha.put d _ hd⟩, hw.setObj hI, step hp⟩
    simp [execOp, ev_eq ha hx, Lib.run_next_any_at w r (bA s) p ty hr hp', runeAt, World.iterAt]
  . have hp' : ¬ p < (bA s).size := by rw [bA_size]; exact hp
    refine ⟨.value (.tuple #[.bool false]), w, _, h, H, ?_, .inl ⟨_, rfl, ha.put d _ hd⟩, hw, over (by omega)⟩
    simp [execOp, ev_eq ha hx, Lib.run_next_end_at w r (bA s) p ty hr hp']
theorem G.makeSlice0 {t e : TypeId} {x y : Operand} {td : TD} {kx ky : IntKind} {n : Int} {sz by_ sz1 by1 : Nat} {z z1 : Value} (hx : ev f x = some (.int kx 0)) (hy : ev f y = some (.int ky n)) (ht : Ty E.P t (.slice e) sz1 by1 z1)
    (he : Ty E.P e td sz by_ z) (hb : 0 <= n /\ n <= 9223372036854775807 /\ by_ * n <= 281474976710656) (hd : Nat.blt d E.n = true)
    (g : ∀ v, G E (.ops .seq all rest :: k) ((d, v) :: f) h (.row v e sz [] :: H)) :
    G E (.ops .seq all (⟨some d, .makeSlice t x y, ty, pos, aft, none⟩ :: rest) :: k) f h H := by
  have f1 := ht.fits
  simp only [TD.fits] at f1
  obtain ⟨i, hi, hi1, hi2, hi3⟩ := he.info
  refine G.opGen fun a w ha hw => ⟨.value (.slice (some ⟨w.heap.size, 0, none⟩) 0 n.toNat), w.alloc (.cells (madeCells z.cells (n.toNat * i.size)) e), _, h, _, ?_, .inl ⟨_, rfl, ha.put d _ hd⟩, ?_, g _⟩
  . have := run_make (P := E.P) w t e i z f1 hi hi3 kx ky 0 n (Int.le_refl _) hb.1 (by rw [hi2]; exact hb.2.2) (by omega)
    simp [execOp, ev_eq ha hx, ev_eq ha hy, this]
  . refine hw.alloc _ _ ⟨fun r hr => absurd hr (by simp), .inr ⟨w.heap.size, n.toNat, _, (0, 0), by simp, heap_alloc_new w _, fun i _ => by simp, by simp, by simp only [maxLen]; omega, ?_, ?_⟩⟩ rfl
    . simp [madeCells, hi1]
    . simp
end
end Go.Proofs.Ytahpemfnhepgoaa
namespace Go.Proofs.Ytahpemfnhepgoaa
set_option linter.all false
set_option maxRecDepth 4000
open Go.RowKit
section
variable {E : Env} {k : List It} {f : Fr} {h : Heap} {H Hr : List Chunk} {all : Array Oper} {rest : List Oper} {d : Nat} {ty : TypeId} {pos : String} {aft : Array Edge}
theorem G.cutRow {t e : TypeId} {x y : Operand} {kd : IntKind} {b : Int} {b' : Nat} {td : TD} {sz by_ sz1 by1 : Nat} {z z1 v : Value} {rows : List (List Value)} (hx : ev f x = some v) (hy : ev f y = some (.int kd b))
    (ht : Ty E.P t (.slice e) sz1 by1 z1) (he : Ty E.P e td sz by_ z) (hH : Take (.row v e sz rows) H Hr) (hb' : b.toNat = b') (hb : 0 <= b /\ b <= rows.length) (hd : Nat.blt d E.n = true)
    (n : ∀ v', G E (.ops .seq all rest :: k) ((d, v') :: f) h (.row v' e sz (rows.take b') :: Hr)) :
    G E (.ops .seq all (⟨some d, .slice t x none (some y) none, ty, pos, aft, none⟩ :: rest) :: k) f h H := by
  have hbl : b' <= rows.length := by omega
  refine ⟨fun a w ha hw => ?_⟩
  rcases (hw.own _ hH.mem).2 with ⟨rfl, h0⟩ | ⟨g, cap, cur, fz, rfl, _, _, hnc, _, _, _⟩
  . subst h0
    have : b' = 0 := by simpa using hbl
    subst this
    refine (G.slicePre (b' := 0) hx hy ht he hd hb' ⟨hb.1, by simpa using hb.2⟩ ?_).run a w ha hw
    have hn := n (.slice none 0 0)
    refine ⟨fun a w ha hw => hn.run a w ha (hw.sub ?_)⟩
    exact ⟨[], by simpa using hH.perm⟩
  . refine (G.slicePre (b' := b') hx hy ht he hd hb' ⟨hb.1, by omega⟩ ?_).run a w ha hw
    refine ⟨fun a w ha hw => (n _).run a w ha (hw.set (g := g) hH rfl rfl (row_cut (hw.own _ hH.mem) hbl) rfl rfl rfl rfl (fun _ _ => rfl))⟩
end
end Go.Proofs.Ytahpemfnhepgoaa
