/- Rows whose elements are told by a relation, one by one. -/
import Derived.Test.YtibkffoeioidlaaDoorNd
import Derived.Test.YtibkffoeioidlaaDoorLtQ
import Derived.Maps.RangeRun
import Derived.Lib.OthersKept
import Derived.Lib.DecodeN
import Derived.Test.YtibkffoeioidlaaDoorTy
import Derived.Test.YtibkffoeioidlaaDoorLtA
import Derived.Test.YtibkffoeioidlaaDoorProg
import Derived.Ground.NamesProg
import Derived.Shelf.Sort.Plain
import Derived.Shelf.Strings.OnBuilder
import Derived.Shelf.Slices.In.SortNone
namespace Go.Proofs.YtibkffoeioidlaaDoor
set_option linter.all false
set_option maxRecDepth 4000
open Go.RowKit

def LC {α : Type} (R : Heap -> α -> List Value -> Prop) (h : Heap) : List α -> List (List Value) -> Prop
  | [], rows => rows = []
  | a :: l, rows => ∃ r rest, rows = r :: rest /\ R h a r /\ LC R h l rest
theorem LC.mono {α : Type} {R : Heap -> α -> List Value -> Prop} {h h' : Heap} (hR : ∀ {a r}, R h a r -> R h' a r) : ∀ {l : List α} {rows : List (List Value)}, LC R h l rows -> LC R h' l rows
  | [], _, e => e
  | _ :: _, _, ⟨v, rest, e, h1, h2⟩ => ⟨v, rest, e, hR h1, h2.mono hR⟩
theorem LC.len {α : Type} {R : Heap -> α -> List Value -> Prop} {h : Heap} : ∀ {l : List α} {rows : List (List Value)}, LC R h l rows -> rows.length = l.length
  | [], _, e => by simp only [LC] at e; subst e; rfl
  | _ :: _, _, ⟨v, rest, e, h1, h2⟩ => by subst e; simp [h2.len]
theorem LC.append {α : Type} {R : Heap -> α -> List Value -> Prop} {h : Heap} : ∀ {a b : List α} {ra rb : List (List Value)}, LC R h a ra -> LC R h b rb -> LC R h (a ++ b) (ra ++ rb)
  | [], b, ra, rb, ha, hb => by simp only [LC] at ha; subst ha; exact hb
  | _ :: _, b, ra, rb, ⟨v, rest, e, h1, h2⟩, hb => by subst e; exact ⟨v, rest ++ rb, rfl, h1, h2.append hb⟩
theorem LC.one {α : Type} {R : Heap -> α -> List Value -> Prop} {h : Heap} {a : α} {r : List Value} (hv : R h a r) : LC R h [a] [r] := ⟨r, [], rfl, hv, rfl⟩
theorem LC.get {α : Type} {R : Heap -> α -> List Value -> Prop} {h : Heap} : ∀ {l : List α} {rows : List (List Value)} {i : Nat} {a : α}, LC R h l rows -> l[i]? = some a -> ∃ r, rows[i]? = some r /\ R h a r
  | [], _, i, r, _, hi => by simp at hi
  | _ :: _, _, 0, r, ⟨v, rest, e, h1, h2⟩, hi => by simp at hi; subst hi; subst e; exact ⟨v, rfl, h1⟩
  | _ :: _, _, i + 1, r, ⟨v, rest, e, h1, h2⟩, hi => by
    subst e
    simp at hi
    obtain ⟨v', h3, h4⟩ := h2.get hi
    exact ⟨v', by simpa using h3, h4⟩
theorem LC.drop {α : Type} {R : Heap -> α -> List Value -> Prop} {h : Heap} : ∀ {l : List α} {rows : List (List Value)} (i : Nat), LC R h l rows -> LC R h (l.drop i) (rows.drop i)
  | _, _, 0, e => by simpa using e
  | [], _, i + 1, e => by simp only [LC] at e; subst e; simp [LC]
  | _ :: _, _, i + 1, ⟨v, rest, e, h1, h2⟩ => by subst e; simpa using h2.drop i
theorem LC.take {α : Type} {R : Heap -> α -> List Value -> Prop} {h : Heap} : ∀ {l : List α} {rows : List (List Value)} (i : Nat), LC R h l rows -> LC R h (l.take i) (rows.take i)
  | _, _, 0, e => by simp [LC]
  | [], _, i + 1, e => by simp only [LC] at e; subst e; simp [LC]
  | _ :: _, _, i + 1, ⟨v, rest, e, h1, h2⟩ => by subst e; exact ⟨v, rest.take i, by simp, h1, h2.take i⟩
theorem LC.rowed {α : Type} {R : Heap -> α -> List Value -> Prop} {h : Heap} {n : Nat} (hR : ∀ {a r}, R h a r -> r.length = n) : ∀ {l : List α} {rows : List (List Value)}, LC R h l rows -> Rowed n rows
  | [], _, e => by simp only [LC] at e; subst e; intro r hr; simp at hr
  | _ :: _, _, ⟨v, rest, e, h1, h2⟩ => by
    subst e
    intro r hr
    rcases List.mem_cons.1 hr with rfl | hr
    . exact hR h1
    . exact h2.rowed hR r hr
theorem LC.all {α : Type} {R : Heap -> α -> List Value -> Prop} {h : Heap} {p : List Value -> Prop} (hR : ∀ {a r}, R h a r -> p r) : ∀ {l : List α} {rows : List (List Value)}, LC R h l rows -> ∀ r ∈ rows, p r
  | [], _, e => by simp only [LC] at e; subst e; intro r hr; simp at hr
  | _ :: _, _, ⟨v, rest, e, h1, h2⟩ => by
    subst e
    intro r hr
    rcases List.mem_cons.1 hr with rfl | hr
    . exact hR h1
    . exact h2.all hR r hr
theorem LC.of {α : Type} {R : Heap -> α -> List Value -> Prop} {h : Heap} : ∀ (l : List α) (rows : List (List Value)), l.length = rows.length -> (∀ (i : Nat) b, l[i]? = some b -> ∃ r, rows[i]? = some r /\ R h b r) -> LC R h l rows
  | [], [], _, _ => rfl
  | [], _ :: _, h, _ => by simp at h
  | _ :: _, [], h, _ => by simp at h
  | b :: l, r :: rows, h, hr => by
    obtain ⟨r0, h0, h1⟩ := hr 0 b rfl
    simp only [List.getElem?_cons_zero, Option.some.injEq] at h0
    have ih := LC.of l rows (by simpa using h) (fun i b' hb => by simpa using hr (i + 1) b' (by simpa using hb))
    exact ⟨r, rows, rfl, h0 ▸ h1, ih⟩
def SC {α : Type} (R : Heap -> α -> List Value -> Prop) (n : Nat) (h : Heap) (l : List α) (v : Value) : Prop := ∃ rows, HSl h v n rows /\ LC R h l rows
theorem SC.mono {α : Type} {R : Heap -> α -> List Value -> Prop} {n : Nat} {h h' : Heap} (hR : ∀ {a r}, R h a r -> R h' a r) (hl : Heap.le h h') {l : List α} {v : Value} : SC R n h l v -> SC R n h' l v
  | ⟨rows, h1, h2⟩ => ⟨rows, h1.mono hl, h2.mono hR⟩
theorem SC.nil {α : Type} (R : Heap -> α -> List Value -> Prop) (n : Nat) (h : Heap) : SC R n h [] (.slice none 0 0) := ⟨[], HSl.nil h n, rfl⟩
theorem SC.form {α : Type} {R : Heap -> α -> List Value -> Prop} {n : Nat} {h : Heap} {l : List α} {v : Value} : SC R n h l v -> ∃ A c, v = .slice A l.length c /\ l.length <= c /\ l.length <= 9223372036854775807
  | ⟨rows, h1, h2⟩ => by
    obtain ⟨A, c, e, h3, h4, _⟩ := h1.form
    rw [h2.len] at e h3
    simp only [maxLen] at h4
    exact ⟨A, c, e, h3, by omega⟩
theorem take_get {α : Type} {l : List α} {i : Nat} {x : α} (h : l[i]? = some x) : l.take (i + 1) = l.take i ++ [x] := by
  have hi := (List.getElem?_eq_some_iff.1 h).1
  have e := (List.getElem?_eq_some_iff.1 h).2
  rw [List.take_succ_eq_append_getElem hi, e]
end Go.Proofs.YtibkffoeioidlaaDoor
namespace Go.Proofs.YtibkffoeioidlaaDoor
set_option linter.all false
set_option maxRecDepth 4000
open Go.RowKit

section
variable {E : Env} {k : List It} {f : Fr} {h : Heap} {H Hr Hr2 : List Chunk} {all : Array Oper} {rest : List Oper} {d : Nat} {ty : TypeId} {pos : String} {aft : Array Edge}
theorem St.setObj {c : Ctx} {w : World} {r : Nat} {o o' : Obj} (s : St c h H w) (t : Take (.obj r o) H Hr) : St c h (.obj r o' :: Hr) { w with heap := w.heap.setIfInBounds r o' } := by
  have ho : w.heap[r]? = some o := s.own _ t.mem
  have hlt : r < w.heap.size := lt_of_get ho
  refine s.set (g := r) t rfl rfl ?_ rfl rfl rfl (by simp) (fun b hb => ?_)
  . show (w.heap.setIfInBounds r o')[r]? = some o'
    simp [hlt]
  . simp [Array.getElem?_setIfInBounds, Ne.symm hb]
end
end Go.Proofs.YtibkffoeioidlaaDoor
namespace Go.Proofs.YtibkffoeioidlaaDoor
set_option linter.all false
set_option maxRecDepth 4000
open Go.RowKit

abbrev bA (s : List UInt8) : ByteArray := ⟨s.toArray⟩
def runeAt (s : List UInt8) (i : Nat) : Nat × Nat := Utf8.decode (bA s) i
theorem bA_size (s : List UInt8) : (bA s).size = s.length := by simp [bA, ByteArray.size]
theorem bA_get {s : List UInt8} {i : Nat} (h : i < s.length) : (bA s).get! i = s[i] := by
  show (bA s).data[i]! = _
  simp [bA, h]
theorem runeAt_low {s : List UInt8} {i : Nat} (h : i < s.length) (hb : (s[i]'h).toNat < 128) : runeAt s i = ((s[i]'h).toNat, 1) := by
  have hz : i < (bA s).size := by rw [bA_size]; exact h
  have e : (bA s)[i]'hz = s[i] := by simp [bA, ByteArray.getElem_eq_getElem_data]
  unfold runeAt
  rw [decode_ascii (bA s) i hz (by rw [e]; exact hb), e]
theorem runeAt_high {s : List UInt8} {i : Nat} (h : i < s.length) (hb : ¬ (s[i]'h).toNat < 128) : 128 <= (runeAt s i).1 /\ (runeAt s i).1 <= 1114111 /\ 1 <= (runeAt s i).2 := by
  have e0 := bA_get h
  have l1 := ((bA s).get! (i + 1)).toNat_lt
  have l2 := ((bA s).get! (i + 2)).toNat_lt
  have l3 := ((bA s).get! (i + 3)).toNat_lt
  have l0 := (s[i]'h).toNat_lt
  unfold runeAt
  rw [Lib.decode_at, e0]
  generalize (s[i]'h).toNat = b0 at *
  generalize ((bA s).get! (i + 1)).toNat = b1 at *
  generalize ((bA s).get! (i + 2)).toNat = b2 at *
  generalize ((bA s).get! (i + 3)).toNat = b3 at *
  unfold Lib.decodeN
  repeat' split
  all_goals first | (exfalso; omega) | (simp only; omega)
section
variable {E : Env} {k : List It} {f : Fr} {h : Heap} {H Hr : List Chunk} {all : Array Oper} {rest : List Oper} {d : Nat} {ty : TypeId} {pos : String} {aft : Array Edge}
theorem G.rangeStr {t : TypeId} {x : Operand} {s : List UInt8} {sz1 by1 : Nat} {z1 : Value} (hx : ev f x = some (str s)) (ht : Ty E.P t .str sz1 by1 z1) (hd : Nat.blt d E.n = true)
    (n : ∀ r, G E (.ops .seq all rest :: k) ((d, .pointer (some ⟨r, 0, none⟩)) :: f) h (.obj r (.stringIter (bA s) 0) :: H)) :
    G E (.ops .seq all (⟨some d, .range t x, ty, pos, aft, none⟩ :: rest) :: k) f h H := by
  refine G.opGen fun a w ha hw => ?_
  have hu := ht.fits
  simp only [TD.fits] at hu
  refine ⟨.value (.pointer (some ⟨w.heap.size, 0, none⟩)), w.iter (bA s) 0, _, h, _, ?_, .inl ⟨_, rfl, ha.put d _ hd⟩, hw.alloc _ (.obj w.heap.size (.stringIter (bA s) 0)) ?_ rfl, n _⟩
  . simp [execOp, ev_eq ha hx, str, run_range_string w t _ hu, bA]
  . exact heap_alloc_new w _
theorem G.nextStr {x : Operand} {r p : Nat} {s : List UInt8} (hx : ev f x = some (.pointer (some ⟨r, 0, none⟩))) (hI : Take (.obj r (.stringIter (bA s) p)) H Hr) (hd : Nat.blt d E.n = true)
    (over : s.length <= p -> G E (.ops .seq all rest :: k) ((d, .tuple #[.bool false]) :: f) h H)
    (step : p < s.length -> G E (.ops .seq all rest :: k) ((d, .tuple #[.bool true, .int .i64 p, .int .i32 (runeAt s p).1]) :: f) h (.obj r (.stringIter (bA s) (p + (runeAt s p).2)) :: Hr)) :
    G E (.ops .seq all (⟨some d, .next x true, ty, pos, aft, none⟩ :: rest) :: k) f h H := by
  refine G.opGen fun a w ha hw => ?_
  have hr : w.heap[r]? = some (.stringIter (bA s) p) := hw.own _ hI.mem
  by_cases hp : p < s.length
  . have hp' : p < (bA s).size := by rw [bA_size]; exact hp
    refine ⟨.value (.tuple #[.bool true, .int .i64 p, .int .i32 (runeAt s p).1]), { w with heap := w.heap.setIfInBounds r (.stringIter (bA s) (p + (runeAt s p).2)) }, _, h, _, ?_, .inl ⟨_, rfl, ha.put d _ hd⟩, hw.setObj hI, step hp⟩
    simp [execOp, ev_eq ha hx, Lib.run_next_any_at w r (bA s) p ty hr hp', runeAt, World.iterAt]
  . have hp' : ¬ p < (bA s).size := by rw [bA_size]; exact hp
    refine ⟨.value (.tuple #[.bool false]), w, _, h, H, ?_, .inl ⟨_, rfl, ha.put d _ hd⟩, hw, over (by omega)⟩
    simp [execOp, ev_eq ha hx, Lib.run_next_end_at w r (bA s) p ty hr hp']
end
end Go.Proofs.YtibkffoeioidlaaDoor
namespace Go.Proofs.YtibkffoeioidlaaDoor
set_option linter.all false
set_option maxRecDepth 4000
open Go.RowKit

theorem byteAt_eq {s : List UInt8} {i : Nat} (h : i < s.length) : byteAt s i = (s[i]'h).toNat := by unfold byteAt; simp [h]
theorem callLetter : Callable Tryd.prog 119 := ⟨_, Tryd.func119, by kernel_rfl, rfl⟩
theorem callType9 : Callable Tryd.prog 116 := ⟨_, Tryd.func116, by kernel_rfl, rfl⟩
end Go.Proofs.YtibkffoeioidlaaDoor
namespace Go.Proofs.YtibkffoeioidlaaDoor
set_option linter.all false
set_option maxRecDepth 4000
open Go.RowKit

abbrev Atr := List UInt8 × List (List UInt8)
def AtrC (h : Heap) (a : Atr) (r : List Value) : Prop := ∃ v, r = [str a.1, v] /\ HSl h v 1 (strsR a.2)
theorem AtrC.mono {h h' : Heap} (hl : Heap.le h h') {a : Atr} {r : List Value} : AtrC h a r -> AtrC h' a r
  | ⟨v, e, h1⟩ => ⟨v, e, h1.mono hl⟩
abbrev AtrsC (h : Heap) (l : List Atr) (v : Value) : Prop := SC AtrC 2 h l v
theorem AtrsC.mono {h h' : Heap} (hl : Heap.le h h') {l : List Atr} {v : Value} (s : AtrsC h l v) : AtrsC h' l v := SC.mono (fun x => x.mono hl) hl s
end Go.Proofs.YtibkffoeioidlaaDoor
namespace Go.Proofs.YtibkffoeioidlaaDoor
set_option linter.all false
set_option maxRecDepth 4000
open Go.RowKit

theorem St.grow {c : Ctx} {h : Heap} {H : List Chunk} {w w' : World} (s : St c h H w) {os : Array Obj} (hh : w'.heap = w.heap ++ os) (ho : w'.os = w.os) (ht : w'.tape = w.tape) (hp : w'.output = w.output) : St c h H w' := by
  have hk : ∀ b, b < w.heap.size -> w'.heap[b]? = w.heap[b]? := fun b hb => by rw [hh, Array.getElem?_append_left hb]
  refine ⟨ho.trans s.os, ht.trans s.tape, hp.trans s.output, by rw [hh, Array.size_append]; have := s.size; omega, fun b hb hK => ?_, s.mono, fun b o hb => ?_, fun x hx => ?_, s.nodup, s.sep, s.ksub, s.isub⟩
  . rw [hk b (Nat.lt_of_lt_of_le hb s.size)]; exact s.fr b hb hK
  . rw [hk b (lt_of_get (s.imm b o hb))]; exact s.imm b o hb
  . exact Chunk.holds_congr (fun g hg => hk g (Chunk.holds_lt (s.own x hx) g hg)) (s.own x hx)
theorem St.below {h : Heap} {H : List Chunk} {w w' : World} (s : StI h H w) (b : Below w.heap.size w w') : St ⟨w, keys H, h⟩ h H w' := by
  have hk : ∀ x ∈ H, ∀ g, x.key = some g -> w'.heap[g]? = w.heap[g]? := fun x hx g hg => b.block g (Chunk.holds_lt (s.own x hx) g hg)
  exact ⟨b.os, b.tape, b.output, b.size, fun q hq _ => b.block q hq, Heap.le_refl h, fun q o ho => by
      have h1 := s.imm q o ho
      rw [b.block q (lt_of_get h1)]; exact h1, fun x hx => Chunk.holds_congr (hk x hx) (s.own x hx), s.nodup, s.sep, fun g hg => .inl hg, fun q o ho => .inl ⟨o, ho⟩⟩
end Go.Proofs.YtibkffoeioidlaaDoor
namespace Go.Proofs.YtibkffoeioidlaaDoor
set_option linter.all false
set_option maxRecDepth 4000
open Go.RowKit

def isLet (c : Int) : Bool := decide (97 <= c /\ c <= 122 \/ 65 <= c /\ c <= 90)
def isTc (c : Int) : Bool := decide ((97 <= c /\ c <= 122 \/ 65 <= c /\ c <= 90) \/ (48 <= c /\ c <= 57) \/ c = 45)
def typeM (s : List UInt8) : Bool := decide (1 <= s.length /\ s.length <= 32) && isLet (byteAt s 0) && s.all fun b => isTc b.toNat
theorem dn_letter (c : Int) (h : Heap) : Spec Tryd.prog 119 [.int .i32 c] h [] (fun u _ H' => u = .bool (isLet c) /\ H' = []) := by
  refine Spec.enter Tryd.func119 rfl rfl ?_; intro w0
  repeat' (first | (refine G.atCode ?_; first | refine G.seq ?_ | refine G.region ?_ | refine G.ret ?_) | refine G.endOps ?_ | (refine G.atGd ?_; first | refine G.guardYes rfl rfl ?_ | refine G.guardNoS rfl rfl rfl ?_ | refine G.guardU rfl rfl rfl ?_ | (refine G.guardS rfl rfl rfl ?_ ?_ <;> intro hc <;> (try simp only [tests, reduceCtorEq] at hc) <;> (try exact Zf))) | (refine G.atBin ?_; first | refine G.op rfl rfl ?_) | refine G.op rfl rfl ?_)
  all_goals exact G.done1 rfl rfl _ (SubH.nil _) ⟨(by first | exact congrArg Value.bool (decide_eq_decide.2 (by omega)) | exact congrArg Value.bool (decide_eq_true (by omega)).symm | exact congrArg Value.bool (decide_eq_false (by omega)).symm), rfl⟩
theorem typeM_no {s : List UInt8} {i : Nat} (hi : i < s.length) (hc : isTc (byteAt s i) = false) : typeM s = false := by
  have : s.all (fun b => isTc b.toNat) = false := by
    rw [List.all_eq_false]
    exact ⟨s[i], List.getElem_mem hi, by rw [byteAt_eq hi] at hc; simp [hc]⟩
  unfold typeM
  rw [this]; simp
theorem typeM_yes {s : List UInt8} (h1 : 1 <= s.length) (h2 : s.length <= 32) (h3 : isLet (byteAt s 0) = true) (h4 : ∀ i, i < s.length -> isTc (byteAt s i) = true) : typeM s = true := by
  have : s.all (fun b => isTc b.toNat) = true := by
    rw [List.all_eq_true]
    intro b hb
    obtain ⟨i, hi, rfl⟩ := List.getElem_of_mem hb
    have := h4 i hi
    rw [byteAt_eq hi] at this; exact this
  unfold typeM
  rw [this, h3, decide_eq_true ⟨h1, h2⟩]; rfl
set_option maxRecDepth 8000 in
theorem dn_Type (s : List UInt8) (h : Heap) : Spec Tryd.prog 116 [str s] h [] (fun u _ H' => u = .bool (typeM s) /\ H' = []) := by
  by_cases h1 : 1 <= s.length /\ s.length <= 32
  . cases h2 : isLet (byteAt s 0) with
    | false =>
      have e : typeM s = false := by unfold typeM; rw [h2]; simp
      rw [e]
      refine Spec.enter Tryd.func116 rfl rfl ?_; intro w0
      repeat' (first | (show G _ (.ops .seq _ (⟨some _, .call { callee := .value (.func 119), args := _, argTypes := _ }, _, _, _, none⟩ :: _) :: _) _ _ _; refine G.call callLetter rfl rfl (dn_letter _ _) Ze ?_; rintro _ h3 H3 ⟨rfl, rfl⟩ hle3; rw [h2]) | (refine G.atCode ?_; first | refine G.seq ?_ | refine G.region ?_ | refine G.ret ?_ | (refine G.cond rfl ?_ ?_ <;> intro hc <;> (try simp only [tests, reduceCtorEq] at hc) <;> (try exact Zf))) | refine G.endOps ?_ | (refine G.atGd ?_; first | refine G.guardYes rfl rfl ?_ | (refine G.guardS rfl rfl rfl ?_ ?_ <;> intro hc <;> (try simp only [tests, reduceCtorEq] at hc) <;> (try exact Zf))) | (refine G.atBin ?_; first | (refine G.atEql ?_; first | refine G.eqStr0 rfl rfl rfl ?_) | refine G.op rfl rfl ?_) | refine G.op rfl rfl ?_ | (refine G.atLen ?_; first | refine G.lenStr rfl (tyy rfl) rfl ?_) | (refine G.atInd ?_; refine G.idxStr rfl rfl (tyy rfl) rfl Zj Zo ?_; intro _) | (refine G.atConv ?_; first | refine G.conv rfl (tyy rfl) (tyy rfl) rfl Zi ?_))
      all_goals exact G.done1 rfl rfl _ (SubH.nil _) ⟨rfl, rfl⟩
    | true =>
      refine Spec.enter Tryd.func116 rfl rfl ?_; intro w0
      repeat' (first | (show G _ (.ops .seq _ (⟨some _, .call { callee := .value (.func 119), args := _, argTypes := _ }, _, _, _, none⟩ :: _) :: _) _ _ _; refine G.call callLetter rfl rfl (dn_letter _ _) Ze ?_; rintro _ h3 H3 ⟨rfl, rfl⟩ hle3; rw [h2]) | (refine G.rangeStr rfl (tyy rfl) rfl ?_; intro _) | (refine G.atCode ?_; refine G.stopLoop ?_) | (refine G.atCode ?_; first | refine G.seq ?_ | refine G.region ?_ | refine G.block ?_ | refine G.skip ?_ | (refine G.cond rfl ?_ ?_ <;> intro hc <;> (try simp only [tests, reduceCtorEq] at hc) <;> (try exact Zf))) | refine G.endOps ?_ | (refine G.atGd ?_; first | refine G.guardYes rfl rfl ?_ | (refine G.guardS rfl rfl rfl ?_ ?_ <;> intro hc <;> (try simp only [tests, reduceCtorEq] at hc) <;> (try exact Zf))) | (refine G.atBin ?_; first | (refine G.atEql ?_; first | refine G.eqStr0 rfl rfl rfl ?_) | refine G.op rfl rfl ?_) | refine G.op rfl rfl ?_ | (refine G.atLen ?_; first | refine G.lenStr rfl (tyy rfl) rfl ?_) | (refine G.atInd ?_; refine G.idxStr rfl rfl (tyy rfl) rfl Zj Zo ?_; intro _) | (refine G.atConv ?_; first | refine G.conv rfl (tyy rfl) (tyy rfl) rfl Zi ?_))
      rename_i r
      refine G.go ?_
      refine G.loop (σ := Nat) (fun _ => [(20, .pointer (some ⟨r, 0, none⟩))]) (fun p => [.obj r (.stringIter (bA s) p)])
        (fun p _ => p <= s.length /\ ∀ i, i < p -> isTc (byteAt s i) = true) (fun p => s.length - p) 0 ⟨rfl, trivial⟩ Zu ⟨Nat.zero_le _, fun i hi => absurd hi (by omega)⟩ ?_
      rintro p h5 hle5 ⟨hp, hall⟩
      by_cases hlt : p < s.length
      . by_cases hb : byteAt s p < 128
        . have hru : runeAt s p = (byteAt s p, 1) := by rw [byteAt_eq hlt] at hb ⊢; exact runeAt_low hlt hb
          cases hit : isTc (byteAt s p) with
          | true =>
            have hit' := hit
            simp only [isTc, decide_eq_true_eq] at hit'
            repeat' (first | (refine G.nextStr rfl Za rfl (fun hnx => absurd hnx (by omega)) ?_; intro hnx; rw [hru]) | (show G _ (.ops .seq _ (⟨some _, .call { callee := .value (.func 119), args := _, argTypes := _ }, _, _, _, none⟩ :: _) :: _) _ _ _; refine G.call callLetter rfl rfl (dn_letter _ _) Ze ?_; rintro _ h3 H3 ⟨rfl, rfl⟩ hle3; simp only [isLet]) | (refine G.atCode ?_; first | refine G.seq ?_ | refine G.region ?_ | refine G.block ?_ | refine G.skip ?_ | (refine G.cond rfl ?_ ?_ <;> intro hc <;> (try simp only [tests, reduceCtorEq] at hc) <;> (try exact Zf))) | refine G.endOps ?_ | refine G.endBlk ?_ | (refine G.atGd ?_; first | refine G.guardYes rfl rfl ?_ | refine G.guardNoS rfl rfl rfl ?_ | refine G.guardU rfl rfl rfl ?_ | (refine G.guardS rfl rfl rfl ?_ ?_ <;> intro hc <;> (try simp only [tests, reduceCtorEq] at hc) <;> (try exact Zf))) | (refine G.atBin ?_; first | (refine G.atNeq ?_; first | refine G.op rfl rfl ?_) | refine G.op rfl rfl ?_) | refine G.op rfl rfl ?_)
            all_goals exact G.again (p + 1) ⟨rfl, trivial⟩ Zu ⟨by omega, fun i hi => if hip : i < p then hall i hip else (show i = p by omega) ▸ hit⟩ (by solve | repeat first | assumption | exact Zr _ | refine Zq ?_ Zp) (by omega)
          | false =>
            have e := typeM_no hlt hit
            rw [e]
            simp only [isTc, decide_eq_false_iff_not] at hit
            repeat' (first | (refine G.nextStr rfl Za rfl (fun hnx => absurd hnx (by omega)) ?_; intro hnx; rw [hru]) | (show G _ (.ops .seq _ (⟨some _, .call { callee := .value (.func 119), args := _, argTypes := _ }, _, _, _, none⟩ :: _) :: _) _ _ _; refine G.call callLetter rfl rfl (dn_letter _ _) Ze ?_; rintro _ h3 H3 ⟨rfl, rfl⟩ hle3; simp only [isLet]) | (refine G.atCode ?_; first | refine G.seq ?_ | refine G.region ?_ | refine G.block ?_ | refine G.skip ?_ | refine G.ret ?_ | (refine G.cond rfl ?_ ?_ <;> intro hc <;> (try simp only [tests, reduceCtorEq] at hc) <;> (try exact Zf))) | refine G.endOps ?_ | (refine G.atGd ?_; first | refine G.guardYes rfl rfl ?_ | refine G.guardNoS rfl rfl rfl ?_ | (refine G.guardS rfl rfl rfl ?_ ?_ <;> intro hc <;> (try simp only [tests, reduceCtorEq] at hc) <;> (try exact Zf))) | (refine G.atBin ?_; first | (refine G.atNeq ?_; first | refine G.op rfl rfl ?_) | refine G.op rfl rfl ?_) | refine G.op rfl rfl ?_)
            all_goals first | (exfalso; omega) | exact G.done1 rfl rfl _ (SubH.nil _) ⟨rfl, rfl⟩
        . obtain ⟨g1, g2, g3⟩ := runeAt_high hlt (by rw [byteAt_eq hlt] at hb; exact hb)
          have e := typeM_no hlt (by unfold isTc; rw [decide_eq_false_iff_not]; omega)
          rw [e]
          rcases hru : runeAt s p with ⟨rn, wd⟩
          rw [hru] at g1 g2 g3
          simp only at g1 g2 g3
          repeat' (first | (refine G.nextStr rfl Za rfl (fun hnx => absurd hnx (by omega)) ?_; intro hnx; rw [hru]) | (show G _ (.ops .seq _ (⟨some _, .call { callee := .value (.func 119), args := _, argTypes := _ }, _, _, _, none⟩ :: _) :: _) _ _ _; refine G.call callLetter rfl rfl (dn_letter _ _) Ze ?_; rintro _ h3 H3 ⟨rfl, rfl⟩ hle3; simp only [isLet]) | (refine G.atCode ?_; first | refine G.seq ?_ | refine G.region ?_ | refine G.block ?_ | refine G.skip ?_ | refine G.ret ?_ | (refine G.cond rfl ?_ ?_ <;> intro hc <;> (try simp only [tests, reduceCtorEq] at hc) <;> (try exact Zf))) | refine G.endOps ?_ | (refine G.atGd ?_; first | refine G.guardYes rfl rfl ?_ | (refine G.guardS rfl rfl rfl ?_ ?_ <;> intro hc <;> (try simp only [tests, reduceCtorEq] at hc) <;> (try exact Zf))) | (refine G.atBin ?_; first | (refine G.atNeq ?_; first | refine G.op rfl rfl ?_) | refine G.op rfl rfl ?_) | refine G.op rfl rfl ?_)
          all_goals first | (exfalso; omega) | exact G.done1 rfl rfl _ (SubH.nil _) ⟨rfl, rfl⟩
      . obtain rfl : p = s.length := by omega
        have e := typeM_yes h1.1 h1.2 h2 hall
        rw [e]
        repeat' (first | (refine G.nextStr rfl Za rfl ?_ (fun hnx => absurd hnx (by omega)); intro hnx) | (refine G.atCode ?_; first | refine G.seq ?_ | refine G.region ?_ | refine G.exit rfl ?_ | refine G.ret ?_ | (refine G.cond rfl ?_ ?_ <;> intro hc <;> (try simp only [tests, reduceCtorEq] at hc) <;> (try exact Zf))) | refine G.endOps ?_ | refine G.op rfl rfl ?_)
        all_goals exact G.done1 rfl rfl _ (SubH.nil _) ⟨rfl, rfl⟩
  . have e : typeM s = false := by unfold typeM; rw [decide_eq_false h1]; simp
    rw [e]
    refine Spec.enter Tryd.func116 rfl rfl ?_; intro w0
    repeat' (first | (refine G.atCode ?_; first | refine G.seq ?_ | refine G.region ?_ | refine G.ret ?_ | (refine G.cond rfl ?_ ?_ <;> intro hc <;> (try simp only [tests, reduceCtorEq] at hc) <;> (try exact Zf))) | refine G.endOps ?_ | (refine G.atGd ?_; first | refine G.guardYes rfl rfl ?_ | refine G.guardNoS rfl rfl rfl ?_ | (refine G.guardS rfl rfl rfl ?_ ?_ <;> intro hc <;> (try simp only [tests, reduceCtorEq] at hc) <;> (try exact Zf))) | (refine G.atBin ?_; first | (refine G.atEql ?_; first | refine G.eqStr0 rfl rfl rfl ?_) | refine G.op rfl rfl ?_) | refine G.op rfl rfl ?_ | (refine G.atLen ?_; first | refine G.lenStr rfl (tyy rfl) rfl ?_))
    all_goals first | (exfalso; omega) | exact G.done1 rfl rfl _ (SubH.nil _) ⟨rfl, rfl⟩
end Go.Proofs.YtibkffoeioidlaaDoor
