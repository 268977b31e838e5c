/- Rules of the light walk: a range over a map, delete. -/
import Derived.Test.YtfmekdmpghhegaaDoorLtQ
import Derived.Maps.RangeRun
import Derived.Lib.OthersKept
import Derived.Lib.DecodeN
import Derived.Test.YtfmekdmpghhegaaDoorLtP
namespace Go.Proofs.YtfmekdmpghhegaaDoor
set_option linter.all false
set_option maxRecDepth 4000
open Go.RowKit

theorem map_erase {α β : Type} (f : α -> β) : ∀ (l : List α) (i : Nat), (l.map f).eraseIdx i = (l.eraseIdx i).map f
  | [], _ => by simp
  | _ :: _, 0 => by simp
  | x :: l, i + 1 => by simp [map_erase f l i]
section
variable {E : Env} {k : List It} {f : Fr} {h : Heap} {H Hr Hr2 : List Chunk} {all : Array Oper} {rest : List Oper} {d : Nat} {ty : TypeId} {pos : String} {aft : Array Edge}
theorem St.setObj {c : Ctx} {w : World} {r : Nat} {o o' : Obj} (s : St c h H w) (t : Take (.obj r o) H Hr) : St c h (.obj r o' :: Hr) { w with heap := w.heap.setIfInBounds r o' } := by
  have ho : w.heap[r]? = some o := s.own _ t.mem
  have hlt : r < w.heap.size := lt_of_get ho
  refine s.set (g := r) t rfl rfl ?_ rfl rfl rfl (by simp) (fun b hb => ?_)
  . show (w.heap.setIfInBounds r o')[r]? = some o'
    simp [hlt]
  . simp [Array.getElem?_setIfInBounds, Ne.symm hb]
end
end Go.Proofs.YtfmekdmpghhegaaDoor
namespace Go.Proofs.YtfmekdmpghhegaaDoor
set_option linter.all false
set_option maxRecDepth 4000
open Go.RowKit

abbrev bA (s : List UInt8) : ByteArray := ⟨s.toArray⟩
def runeAt (s : List UInt8) (i : Nat) : Nat × Nat := Utf8.decode (bA s) i
theorem bA_size (s : List UInt8) : (bA s).size = s.length := by simp [bA, ByteArray.size]
theorem bA_get {s : List UInt8} {i : Nat} (h : i < s.length) : (bA s).get! i = s[i] := by
  show (bA s).data[i]! = _
  simp [bA, h]
theorem runeAt_low {s : List UInt8} {i : Nat} (h : i < s.length) (hb : (s[i]'h).toNat < 128) : runeAt s i = ((s[i]'h).toNat, 1) := by
  have hz : i < (bA s).size := by rw [bA_size]; exact h
  have e : (bA s)[i]'hz = s[i] := by simp [bA, ByteArray.getElem_eq_getElem_data]
  unfold runeAt
  rw [decode_ascii (bA s) i hz (by rw [e]; exact hb), e]
theorem runeAt_high {s : List UInt8} {i : Nat} (h : i < s.length) (hb : ¬ (s[i]'h).toNat < 128) : 128 <= (runeAt s i).1 /\ (runeAt s i).1 <= 1114111 /\ 1 <= (runeAt s i).2 := by
  have e0 := bA_get h
  have l1 := ((bA s).get! (i + 1)).toNat_lt
  have l2 := ((bA s).get! (i + 2)).toNat_lt
  have l3 := ((bA s).get! (i + 3)).toNat_lt
  have l0 := (s[i]'h).toNat_lt
  unfold runeAt
  rw [Lib.decode_at, e0]
  generalize (s[i]'h).toNat = b0 at *
  generalize ((bA s).get! (i + 1)).toNat = b1 at *
  generalize ((bA s).get! (i + 2)).toNat = b2 at *
  generalize ((bA s).get! (i + 3)).toNat = b3 at *
  unfold Lib.decodeN
  repeat' split
  all_goals first | (exfalso; omega) | (simp only; omega)
section
variable {E : Env} {k : List It} {f : Fr} {h : Heap} {H Hr : List Chunk} {all : Array Oper} {rest : List Oper} {d : Nat} {ty : TypeId} {pos : String} {aft : Array Edge}
theorem G.rangeStr {t : TypeId} {x : Operand} {s : List UInt8} {sz1 by1 : Nat} {z1 : Value} (hx : ev f x = some (str s)) (ht : Ty E.P t .str sz1 by1 z1) (hd : Nat.blt d E.n = true)
    (n : ∀ r, G E (.ops .seq all rest :: k) ((d, .pointer (some ⟨r, 0, none⟩)) :: f) h (.obj r (.stringIter (bA s) 0) :: H)) :
    G E (.ops .seq all (⟨some d, .range t x, ty, pos, aft, none⟩ :: rest) :: k) f h H := by
  refine G.opGen fun a w ha hw => ?_
  have hu := ht.fits
  simp only [TD.fits] at hu
  refine ⟨.value (.pointer (some ⟨w.heap.size, 0, none⟩)), w.iter (bA s) 0, _, h, _, ?_, .inl ⟨_, rfl, ha.put d _ hd⟩, hw.alloc _ (.obj w.heap.size (.stringIter (bA s) 0)) ?_ rfl, n _⟩
  . simp [execOp, ev_eq ha hx, str, run_range_string w t _ hu, bA]
  . exact heap_alloc_new w _
theorem G.nextStr {x : Operand} {r p : Nat} {s : List UInt8} (hx : ev f x = some (.pointer (some ⟨r, 0, none⟩))) (hI : Take (.obj r (.stringIter (bA s) p)) H Hr) (hd : Nat.blt d E.n = true)
    (over : s.length <= p -> G E (.ops .seq all rest :: k) ((d, .tuple #[.bool false]) :: f) h H)
    (step : p < s.length -> G E (.ops .seq all rest :: k) ((d, .tuple #[.bool true, .int .i64 p, .int .i32 (runeAt s p).1]) :: f) h (.obj r (.stringIter (bA s) (p + (runeAt s p).2)) :: Hr)) :
    G E (.ops .seq all (⟨some d, .next x true, ty, pos, aft, none⟩ :: rest) :: k) f h H := by
  refine G.opGen fun a w ha hw => ?_
  have hr : w.heap[r]? = some (.stringIter (bA s) p) := hw.own _ hI.mem
  by_cases hp : p < s.length
  . have hp' : p < (bA s).size := by rw [bA_size]; exact hp
    refine ⟨.value (.tuple #[.bool true, .int .i64 p, .int .i32 (runeAt s p).1]), { w with heap := w.heap.setIfInBounds r (.stringIter (bA s) (p + (runeAt s p).2)) }, _, h, _, ?_, .inl ⟨_, rfl, ha.put d _ hd⟩, hw.setObj hI, step hp⟩
    simp [execOp, ev_eq ha hx, Lib.run_next_any_at w r (bA s) p ty hr hp', runeAt, World.iterAt]
  . have hp' : ¬ p < (bA s).size := by rw [bA_size]; exact hp
    refine ⟨.value (.tuple #[.bool false]), w, _, h, H, ?_, .inl ⟨_, rfl, ha.put d _ hd⟩, hw, over (by omega)⟩
    simp [execOp, ev_eq ha hx, Lib.run_next_end_at w r (bA s) p ty hr hp']
end
end Go.Proofs.YtfmekdmpghhegaaDoor
namespace Go.Proofs.YtfmekdmpghhegaaDoor
set_option linter.all false
set_option maxRecDepth 4000
open Go.RowKit

theorem G.anyKeep {E : Env} {k : List It} {f : Fr} {h : Heap} {H : List Chunk} (sl : Nat -> Bool) {l0 : List Oper} {h0 : Heap} {H0 : List Chunk} {done done' idx : List Nat} {o : Oper} {l : List Oper} (hx : autoGo sl l0 0 done = some (o :: l, idx, done'))
    (hs : (Region.noSelect l0.toArray && takeOkC l0.toArray (l0.length - done.length) done idx) = true) (hh : Heap.le h0 h) (hs1 : SubH H0 H)
    (g : G E (.ops (.held h H0) l0.toArray (o :: l) :: .back h H :: .any h H0 l0.toArray done' :: k) f h H0) : G E (.any h0 H0 l0.toArray done :: k) f h H := by
  obtain ⟨p1, p2⟩ := autoGo_spec (l0 := l0) l0 0 done _ _ _ hx (fun j => by simp)
  exact G.anyTake p1 p2 hs hh (SubH.rfl_ _) hs1 g

end Go.Proofs.YtfmekdmpghhegaaDoor
namespace Go.Proofs.YtfmekdmpghhegaaDoor
set_option linter.all false
set_option maxRecDepth 4000
open Go.RowKit
section
variable {E : Env} {k : List It} {f : Fr} {h : Heap} {H : List Chunk} {st : Md} [hmd : OkMd st h H] {all : Array Oper} {rest : List Oper} {d : Nat} {ty : TypeId} {pos : String} {aft : Array Edge}
end
structure Hold (p : Prop) : Prop where
  out : p
end Go.Proofs.YtfmekdmpghhegaaDoor
