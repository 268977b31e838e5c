/- Rows whose elements are told by a relation, one by one. -/
import Derived.Test.YtibkffoeioidlaaDoorNd
import Derived.Test.YtibkffoeioidlaaDoorLtQ
import Derived.Maps.RangeRun
import Derived.Lib.OthersKept
import Derived.Lib.DecodeN
import Derived.Test.YtibkffoeioidlaaDoorTy
namespace Go.Proofs.YtibkffoeioidlaaDoor
set_option linter.all false
set_option maxRecDepth 4000
open Go.RowKit

def LC {α : Type} (R : Heap -> α -> List Value -> Prop) (h : Heap) : List α -> List (List Value) -> Prop
  | [], rows => rows = []
  | a :: l, rows => ∃ r rest, rows = r :: rest /\ R h a r /\ LC R h l rest
theorem LC.mono {α : Type} {R : Heap -> α -> List Value -> Prop} {h h' : Heap} (hR : ∀ {a r}, R h a r -> R h' a r) : ∀ {l : List α} {rows : List (List Value)}, LC R h l rows -> LC R h' l rows
  | [], _, e => e
  | _ :: _, _, ⟨v, rest, e, h1, h2⟩ => ⟨v, rest, e, hR h1, h2.mono hR⟩
theorem LC.len {α : Type} {R : Heap -> α -> List Value -> Prop} {h : Heap} : ∀ {l : List α} {rows : List (List Value)}, LC R h l rows -> rows.length = l.length
  | [], _, e => by simp only [LC] at e; subst e; rfl
  | _ :: _, _, ⟨v, rest, e, h1, h2⟩ => by subst e; simp [h2.len]
theorem LC.append {α : Type} {R : Heap -> α -> List Value -> Prop} {h : Heap} : ∀ {a b : List α} {ra rb : List (List Value)}, LC R h a ra -> LC R h b rb -> LC R h (a ++ b) (ra ++ rb)
  | [], b, ra, rb, ha, hb => by simp only [LC] at ha; subst ha; exact hb
  | _ :: _, b, ra, rb, ⟨v, rest, e, h1, h2⟩, hb => by subst e; exact ⟨v, rest ++ rb, rfl, h1, h2.append hb⟩
theorem LC.one {α : Type} {R : Heap -> α -> List Value -> Prop} {h : Heap} {a : α} {r : List Value} (hv : R h a r) : LC R h [a] [r] := ⟨r, [], rfl, hv, rfl⟩
theorem LC.get {α : Type} {R : Heap -> α -> List Value -> Prop} {h : Heap} : ∀ {l : List α} {rows : List (List Value)} {i : Nat} {a : α}, LC R h l rows -> l[i]? = some a -> ∃ r, rows[i]? = some r /\ R h a r
  | [], _, i, r, _, hi => by simp at hi
  | _ :: _, _, 0, r, ⟨v, rest, e, h1, h2⟩, hi => by simp at hi; subst hi; subst e; exact ⟨v, rfl, h1⟩
  | _ :: _, _, i + 1, r, ⟨v, rest, e, h1, h2⟩, hi => by
    subst e
    simp at hi
    obtain ⟨v', h3, h4⟩ := h2.get hi
    exact ⟨v', by simpa using h3, h4⟩
theorem LC.drop {α : Type} {R : Heap -> α -> List Value -> Prop} {h : Heap} : ∀ {l : List α} {rows : List (List Value)} (i : Nat), LC R h l rows -> LC R h (l.drop i) (rows.drop i)
  | _, _, 0, e => by simpa using e
  | [], _, i + 1, e => by simp only [LC] at e; subst e; simp [LC]
  | _ :: _, _, i + 1, ⟨v, rest, e, h1, h2⟩ => by subst e; simpa using h2.drop i
theorem LC.take {α : Type} {R : Heap -> α -> List Value -> Prop} {h : Heap} : ∀ {l : List α} {rows : List (List Value)} (i : Nat), LC R h l rows -> LC R h (l.take i) (rows.take i)
  | _, _, 0, e => by simp [LC]
  | [], _, i + 1, e => by simp only [LC] at e; subst e; simp [LC]
  | _ :: _, _, i + 1, ⟨v, rest, e, h1, h2⟩ => by subst e; exact ⟨v, rest.take i, by simp, h1, h2.take i⟩
theorem LC.rowed {α : Type} {R : Heap -> α -> List Value -> Prop} {h : Heap} {n : Nat} (hR : ∀ {a r}, R h a r -> r.length = n) : ∀ {l : List α} {rows : List (List Value)}, LC R h l rows -> Rowed n rows
  | [], _, e => by simp only [LC] at e; subst e; intro r hr; simp at hr
  | _ :: _, _, ⟨v, rest, e, h1, h2⟩ => by
    subst e
    intro r hr
    rcases List.mem_cons.1 hr with rfl | hr
    . exact hR h1
    . exact h2.rowed hR r hr
theorem LC.all {α : Type} {R : Heap -> α -> List Value -> Prop} {h : Heap} {p : List Value -> Prop} (hR : ∀ {a r}, R h a r -> p r) : ∀ {l : List α} {rows : List (List Value)}, LC R h l rows -> ∀ r ∈ rows, p r
  | [], _, e => by simp only [LC] at e; subst e; intro r hr; simp at hr
  | _ :: _, _, ⟨v, rest, e, h1, h2⟩ => by
    subst e
    intro r hr
    rcases List.mem_cons.1 hr with rfl | hr
    . exact hR h1
    . exact h2.all hR r hr
theorem LC.of {α : Type} {R : Heap -> α -> List Value -> Prop} {h : Heap} : ∀ (l : List α) (rows : List (List Value)), l.length = rows.length -> (∀ (i : Nat) b, l[i]? = some b -> ∃ r, rows[i]? = some r /\ R h b r) -> LC R h l rows
  | [], [], _, _ => rfl
  | [], _ :: _, h, _ => by simp at h
  | _ :: _, [], h, _ => by simp at h
  | b :: l, r :: rows, h, hr => by
    obtain ⟨r0, h0, h1⟩ := hr 0 b rfl
    simp only [List.getElem?_cons_zero, Option.some.injEq] at h0
    have ih := LC.of l rows (by simpa using h) (fun i b' hb => by simpa using hr (i + 1) b' (by simpa using hb))
    exact ⟨r, rows, rfl, h0 ▸ h1, ih⟩
def SC {α : Type} (R : Heap -> α -> List Value -> Prop) (n : Nat) (h : Heap) (l : List α) (v : Value) : Prop := ∃ rows, HSl h v n rows /\ LC R h l rows
theorem SC.mono {α : Type} {R : Heap -> α -> List Value -> Prop} {n : Nat} {h h' : Heap} (hR : ∀ {a r}, R h a r -> R h' a r) (hl : Heap.le h h') {l : List α} {v : Value} : SC R n h l v -> SC R n h' l v
  | ⟨rows, h1, h2⟩ => ⟨rows, h1.mono hl, h2.mono hR⟩
theorem SC.nil {α : Type} (R : Heap -> α -> List Value -> Prop) (n : Nat) (h : Heap) : SC R n h [] (.slice none 0 0) := ⟨[], HSl.nil h n, rfl⟩
theorem SC.form {α : Type} {R : Heap -> α -> List Value -> Prop} {n : Nat} {h : Heap} {l : List α} {v : Value} : SC R n h l v -> ∃ A c, v = .slice A l.length c /\ l.length <= c /\ l.length <= 9223372036854775807
  | ⟨rows, h1, h2⟩ => by
    obtain ⟨A, c, e, h3, h4, _⟩ := h1.form
    rw [h2.len] at e h3
    simp only [maxLen] at h4
    exact ⟨A, c, e, h3, by omega⟩
theorem G.blkNil {E : Env} {k : List It} {f : Fr} {h : Heap} {H Hr : List Chunk} {g : Nat} {e : TypeId} (sz : Nat) (t : Take (.blk g [] e) H Hr) (n : G E k f h (.row (.slice (some ⟨g, 0, none⟩) 0 0) e sz [] :: Hr)) : G E k f h H :=
  ⟨fun ac w hac hw => n.run ac w hac (hw.swapRow t rfl (fun r hr => absurd hr (by simp)) rfl (by decide))⟩
theorem take_get {α : Type} {l : List α} {i : Nat} {x : α} (h : l[i]? = some x) : l.take (i + 1) = l.take i ++ [x] := by
  have hi := (List.getElem?_eq_some_iff.1 h).1
  have e := (List.getElem?_eq_some_iff.1 h).2
  rw [List.take_succ_eq_append_getElem hi, e]
end Go.Proofs.YtibkffoeioidlaaDoor
namespace Go.Proofs.YtibkffoeioidlaaDoor
set_option linter.all false
set_option maxRecDepth 4000
open Go.RowKit

section
variable {E : Env} {k : List It} {f : Fr} {h : Heap} {H Hr Hr2 : List Chunk} {all : Array Oper} {rest : List Oper} {d : Nat} {ty : TypeId} {pos : String} {aft : Array Edge}
theorem St.setObj {c : Ctx} {w : World} {r : Nat} {o o' : Obj} (s : St c h H w) (t : Take (.obj r o) H Hr) : St c h (.obj r o' :: Hr) { w with heap := w.heap.setIfInBounds r o' } := by
  have ho : w.heap[r]? = some o := s.own _ t.mem
  have hlt : r < w.heap.size := lt_of_get ho
  refine s.set (g := r) t rfl rfl ?_ rfl rfl rfl (by simp) (fun b hb => ?_)
  . show (w.heap.setIfInBounds r o')[r]? = some o'
    simp [hlt]
  . simp [Array.getElem?_setIfInBounds, Ne.symm hb]
end
end Go.Proofs.YtibkffoeioidlaaDoor
namespace Go.Proofs.YtibkffoeioidlaaDoor
set_option linter.all false
set_option maxRecDepth 4000
open Go.RowKit

abbrev bA (s : List UInt8) : ByteArray := ⟨s.toArray⟩
def runeAt (s : List UInt8) (i : Nat) : Nat × Nat := Utf8.decode (bA s) i
theorem bA_size (s : List UInt8) : (bA s).size = s.length := by simp [bA, ByteArray.size]
theorem bA_get {s : List UInt8} {i : Nat} (h : i < s.length) : (bA s).get! i = s[i] := by
  show (bA s).data[i]! = _
  simp [bA, h]
theorem runeAt_low {s : List UInt8} {i : Nat} (h : i < s.length) (hb : (s[i]'h).toNat < 128) : runeAt s i = ((s[i]'h).toNat, 1) := by
  have hz : i < (bA s).size := by rw [bA_size]; exact h
  have e : (bA s)[i]'hz = s[i] := by simp [bA, ByteArray.getElem_eq_getElem_data]
  unfold runeAt
  rw [decode_ascii (bA s) i hz (by rw [e]; exact hb), e]
theorem runeAt_high {s : List UInt8} {i : Nat} (h : i < s.length) (hb : ¬ (s[i]'h).toNat < 128) : 128 <= (runeAt s i).1 /\ (runeAt s i).1 <= 1114111 /\ 1 <= (runeAt s i).2 := by
  have e0 := bA_get h
  have l1 := ((bA s).get! (i + 1)).toNat_lt
  have l2 := ((bA s).get! (i + 2)).toNat_lt
  have l3 := ((bA s).get! (i + 3)).toNat_lt
  have l0 := (s[i]'h).toNat_lt
  unfold runeAt
  rw [Lib.decode_at, e0]
  generalize (s[i]'h).toNat = b0 at *
  generalize ((bA s).get! (i + 1)).toNat = b1 at *
  generalize ((bA s).get! (i + 2)).toNat = b2 at *
  generalize ((bA s).get! (i + 3)).toNat = b3 at *
  unfold Lib.decodeN
  repeat' split
  all_goals first | (exfalso; omega) | (simp only; omega)
section
variable {E : Env} {k : List It} {f : Fr} {h : Heap} {H Hr : List Chunk} {all : Array Oper} {rest : List Oper} {d : Nat} {ty : TypeId} {pos : String} {aft : Array Edge}
theorem G.rangeStr {t : TypeId} {x : Operand} {s : List UInt8} {sz1 by1 : Nat} {z1 : Value} (hx : ev f x = some (str s)) (ht : Ty E.P t .str sz1 by1 z1) (hd : Nat.blt d E.n = true)
    (n : ∀ r, G E (.ops .seq all rest :: k) ((d, .pointer (some ⟨r, 0, none⟩)) :: f) h (.obj r (.stringIter (bA s) 0) :: H)) :
    G E (.ops .seq all (⟨some d, .range t x, ty, pos, aft, none⟩ :: rest) :: k) f h H := by
  refine G.opGen fun a w ha hw => ?_
  have hu := ht.fits
  simp only [TD.fits] at hu
  refine ⟨.value (.pointer (some ⟨w.heap.size, 0, none⟩)), w.iter (bA s) 0, _, h, _, ?_, .inl ⟨_, rfl, ha.put d _ hd⟩, hw.alloc _ (.obj w.heap.size (.stringIter (bA s) 0)) ?_ rfl, n _⟩
  . simp [execOp, ev_eq ha hx, str, run_range_string w t _ hu, bA]
  . exact heap_alloc_new w _
theorem G.nextStr {x : Operand} {r p : Nat} {s : List UInt8} (hx : ev f x = some (.pointer (some ⟨r, 0, none⟩))) (hI : Take (.obj r (.stringIter (bA s) p)) H Hr) (hd : Nat.blt d E.n = true)
    (over : s.length <= p -> G E (.ops .seq all rest :: k) ((d, .tuple #[.bool false]) :: f) h H)
    (step : p < s.length -> G E (.ops .seq all rest :: k) ((d, .tuple #[.bool true, .int .i64 p, .int .i32 (runeAt s p).1]) :: f) h (.obj r (.stringIter (bA s) (p + (runeAt s p).2)) :: Hr)) :
    G E (.ops .seq all (⟨some d, .next x true, ty, pos, aft, none⟩ :: rest) :: k) f h H := by
  refine G.opGen fun a w ha hw => ?_
  have hr : w.heap[r]? = some (.stringIter (bA s) p) := hw.own _ hI.mem
  by_cases hp : p < s.length
  . have hp' : p < (bA s).size := by rw [bA_size]; exact hp
    refine ⟨.value (.tuple #[.bool true, .int .i64 p, .int .i32 (runeAt s p).1]), { w with heap := w.heap.setIfInBounds r (.stringIter (bA s) (p + (runeAt s p).2)) }, _, h, _, ?_, .inl ⟨_, rfl, ha.put d _ hd⟩, hw.setObj hI, step hp⟩
    simp [execOp, ev_eq ha hx, Lib.run_next_any_at w r (bA s) p ty hr hp', runeAt, World.iterAt]
  . have hp' : ¬ p < (bA s).size := by rw [bA_size]; exact hp
    refine ⟨.value (.tuple #[.bool false]), w, _, h, H, ?_, .inl ⟨_, rfl, ha.put d _ hd⟩, hw, over (by omega)⟩
    simp [execOp, ev_eq ha hx, Lib.run_next_end_at w r (bA s) p ty hr hp']
end
end Go.Proofs.YtibkffoeioidlaaDoor
namespace Go.Proofs.YtibkffoeioidlaaDoor
set_option linter.all false
set_option maxRecDepth 4000
open Go.RowKit

abbrev Atr := List UInt8 × List (List UInt8)
def AtrC (h : Heap) (a : Atr) (r : List Value) : Prop := ∃ v, r = [str a.1, v] /\ HSl h v 1 (strsR a.2)
theorem AtrC.mono {h h' : Heap} (hl : Heap.le h h') {a : Atr} {r : List Value} : AtrC h a r -> AtrC h' a r
  | ⟨v, e, h1⟩ => ⟨v, e, h1.mono hl⟩
abbrev AtrsC (h : Heap) (l : List Atr) (v : Value) : Prop := SC AtrC 2 h l v
theorem AtrsC.mono {h h' : Heap} (hl : Heap.le h h') {l : List Atr} {v : Value} (s : AtrsC h l v) : AtrsC h' l v := SC.mono (fun x => x.mono hl) hl s
end Go.Proofs.YtibkffoeioidlaaDoor
namespace Go.Proofs.YtibkffoeioidlaaDoor
set_option linter.all false
set_option maxRecDepth 4000
open Go.RowKit

def lowB (b : UInt8) : UInt8 := if 65 <= b.toNat /\ b.toNat <= 90 then UInt8.ofNat (b.toNat + 32) else b
def foldM (s : List UInt8) : List UInt8 := s.map lowB
theorem foldM_len (s : List UInt8) : (foldM s).length = s.length := by simp [foldM]
theorem byteAt_eq {s : List UInt8} {i : Nat} (h : i < s.length) : byteAt s i = (s[i]'h).toNat := by unfold byteAt; simp [h]
theorem ofNat_byteAt {s : List UInt8} {i : Nat} (h : i < s.length) : UInt8.ofNat (byteAt s i) = s[i]'h := by rw [byteAt_eq h]; simp
theorem lowB_up {s : List UInt8} {i : Nat} (h : i < s.length) (hc : 65 <= byteAt s i /\ byteAt s i <= 90) : lowB (s[i]'h) = UInt8.ofNat (byteAt s i + 32) := by
  rw [byteAt_eq h] at hc ⊢; unfold lowB; rw [if_pos hc]
theorem lowB_no {s : List UInt8} {i : Nat} (h : i < s.length) (hc : ¬ (65 <= byteAt s i /\ byteAt s i <= 90)) : lowB (s[i]'h) = s[i]'h := by
  rw [byteAt_eq h] at hc; unfold lowB; rw [if_neg hc]
theorem callRFold : Callable Tryd.prog 120 := ⟨_, Tryd.func120, by kernel_rfl, rfl⟩
theorem callLetter : Callable Tryd.prog 119 := ⟨_, Tryd.func119, by kernel_rfl, rfl⟩
theorem callType9 : Callable Tryd.prog 116 := ⟨_, Tryd.func116, by kernel_rfl, rfl⟩
theorem callRType9 : Callable Tryd.prog 118 := ⟨_, Tryd.func118, by kernel_rfl, rfl⟩
theorem callIn9 : Callable Tryd.prog 121 := ⟨_, Tryd.func121, by kernel_rfl, rfl⟩
theorem ref01_Fold (s : List UInt8) (hs : s.length <= 100000000) (h : Heap) : Spec Tryd.prog 120 [str s] h [] (fun u _ H' => u = str (foldM s) /\ H' = []) := by
  refine Spec.enter Tryd.func120 rfl rfl ?_; intro w0
  repeat' (first | (refine G.atCode ?_; refine G.stopLoop ?_) | (refine G.atCode ?_; first | refine G.seq ?_ | refine G.region ?_ | refine G.block ?_) | refine G.endOps ?_ | refine G.op rfl rfl ?_)
  refine G.nilRowB 5 ?_
  refine G.go ?_
  refine G.loop (σ := Nat × Value) (fun x => [(4, .int .i64 x.1), (3, x.2), (0, str s)])
    (fun x => [.row x.2 5 1 (bytesR (foldM (s.take x.1)))])
    (fun x _ => x.1 <= s.length) (fun x => s.length - x.1) ⟨0, .slice none 0 0⟩ ⟨rfl, rfl, rfl, trivial⟩ Zu (Nat.zero_le _) ?_
  rintro ⟨i, v⟩ h1 hle1 hi
  simp only at hi
  refine G.norm (by (try dsimp only) <;> exact rfl) (by (try dsimp only) <;> exact rfl) ?_
  have hfl : (foldM (s.take i)).length = i := by rw [foldM_len, List.length_take]; omega
  by_cases hlt : i < s.length
  . have hnext : foldM (s.take (i + 1)) = foldM (s.take i) ++ [lowB (s[i]'hlt)] := by rw [List.take_succ_eq_append_getElem hlt]; simp only [foldM, List.map_append, List.map_cons, List.map_nil]
    have hup := fun hc => lowB_up hlt hc
    have hno := fun hc => lowB_no hlt hc
    have hof := ofNat_byteAt hlt
    generalize foldM (s.take i) = B at *
    repeat' (first | (refine G.atCode ?_; first | refine G.seq ?_ | refine G.region ?_ | refine G.block ?_ | refine G.skip ?_ | (refine G.cond rfl ?_ ?_ <;> intro hc <;> (try simp only [tests, reduceCtorEq] at hc) <;> (try exact Zf))) | refine G.endOps ?_ | refine G.endBlk ?_ | (refine G.atGd ?_; first | refine G.guardYes rfl rfl ?_ | refine G.guardNoS rfl rfl rfl ?_ | (refine G.guardS rfl rfl rfl ?_ ?_ <;> intro hc <;> (try simp only [tests, reduceCtorEq] at hc) <;> (try exact Zf))) | (refine G.atBin ?_; first | (refine G.atAdd ?_; first | refine G.arith rfl rfl rfl rfl rfl Zi ?_) | (refine G.atSub ?_; first | refine G.arith rfl rfl rfl rfl rfl Zi ?_) | refine G.op rfl rfl ?_) | refine G.op rfl rfl ?_ | (refine G.atLen ?_; first | refine G.lenStr rfl (tyy rfl) rfl ?_) | (refine G.atBsl ?_; refine G.buildSlice (tyy rfl) (tyy rfl) rfl rfl rfl rfl ?_; intro _) | (refine G.atApp ?_; first | (refine G.append1B rfl rfl (tyy rfl) (tyy rfl) rfl rfl Za Za rfl Zo Zo ?_; intro _)) | (refine G.atInd ?_; refine G.idxStr rfl rfl (tyy rfl) rfl Zj Zo ?_; intro _))
    . have e : UInt8.ofNat ((byteAt s i : Int) - 65 + 97).toNat = lowB (s[i]'hlt) := by rw [hup (by omega), show ((byteAt s i : Int) - 65 + 97).toNat = byteAt s i + 32 by omega]
      rw [e, ← hnext]
      exact G.again ⟨i + 1, _⟩ ⟨sint (by simp), rfl, rfl, trivial⟩ Zu (by simp only; omega) (Heap.le_refl _) (by simp only; omega)
    all_goals (
      have e : UInt8.ofNat ((byteAt s i : Nat) : Int).toNat = lowB (s[i]'hlt) := by rw [hno (by omega), Int.toNat_natCast, hof]
      rw [e, ← hnext]
      exact G.again ⟨i + 1, _⟩ ⟨sint (by simp), rfl, rfl, trivial⟩ Zu (by simp only; omega) (Heap.le_refl _) (by simp only; omega))
  . obtain rfl : i = s.length := by omega
    rw [List.take_length]
    repeat' (first | (refine G.atCode ?_; first | refine G.seq ?_ | refine G.region ?_ | refine G.exit rfl ?_ | refine G.ret ?_ | (refine G.cond rfl ?_ ?_ <;> intro hc <;> (try simp only [tests, reduceCtorEq] at hc) <;> (try exact Zf))) | refine G.endOps ?_ | (refine G.atBin ?_; first | refine G.op rfl rfl ?_) | refine G.op rfl rfl ?_ | (refine G.atLen ?_; first | refine G.lenStr rfl (tyy rfl) rfl ?_) | (refine G.atConv ?_; first | refine G.convStr rfl (tyy rfl) (tyy rfl) (tyy rfl) Za rfl ?_))
    all_goals exact G.done1 rfl rfl _ (SubH.nil _) ⟨rfl, rfl⟩
end Go.Proofs.YtibkffoeioidlaaDoor
