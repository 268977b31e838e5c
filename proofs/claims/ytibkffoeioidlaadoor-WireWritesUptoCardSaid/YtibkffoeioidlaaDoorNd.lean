/- Rules of the light walk: rows of numbers that are only read; what is told of slices that are shut again. -/
import Derived.Test.YtibkffoeioidlaaDoorLtL
import Derived.Test.YtibkffoeioidlaaDoorTy
namespace Go.Proofs.YtibkffoeioidlaaDoor
set_option linter.all false
set_option maxRecDepth 4000
open Go.RowKit

theorem lens : (∀ (α : Type) (i : Nat) (l : List α), (l.take i).length = min i l.length) /\ (∀ (α : Type) (i : Nat) (l : List α), (l.drop i).length = l.length - i) /\ (∀ (α : Type) (a b : List α), (a ++ b).length = a.length + b.length) ∧
    (∀ (α : Type) (a : α) (l : List α), (a :: l).length = l.length + 1) /\ (∀ (α : Type), ([] : List α).length = 0) /\ (∀ (α : Type) (l : List α), l.reverse.length = l.length) /\ (∀ (α β : Type) (f : α -> β) (l : List α), (l.map f).length = l.length) ∧
    (∀ (α : Type) (n : Nat) (a : α), (List.replicate n a).length = n) /\ (∀ l : List UInt8, (bytesR l).length = l.length) /\ (∀ l : List (List UInt8), (strsR l).length = l.length) :=
  ⟨fun _ _ _ => List.length_take, fun _ _ _ => List.length_drop, fun _ _ _ => List.length_append, fun _ _ _ => rfl, fun _ => rfl, fun _ _ => List.length_reverse, fun _ _ _ _ => List.length_map _, fun _ _ _ => List.length_replicate, bytesR_length, strsR_length⟩
theorem tests : (∀ (p : Prop) [Decidable p], (decide p = true) = p) /\ (∀ (p : Prop) [Decidable p], (decide p = false) = ¬ p) /\ (∀ b : Bool, ((!b) = true) = (b = false)) /\ (∀ b : Bool, ((!b) = false) = (b = true)) ∧
    (∀ a b : Bool, ((a || b) = true) = (a = true \/ b = true)) /\ (∀ a b : Bool, ((a && b) = true) = (a = true /\ b = true)) /\ (∀ a b : Bool, ((a || b) = false) = (a = false /\ b = false)) /\ (∀ a b : Bool, ((a && b) = false) = (a = false \/ b = false)) ∧
    (∀ (α : Type), (none : Option α).isNone = true) /\ (∀ (α : Type) (a : α), (some a).isNone = false) /\ ((!true) = false) /\ ((!false) = true) /\ (∀ a b : Bool, ((a == b) = true) = (a = b)) /\ (∀ a b : Bool, ((a == b) = false) = (a ≠ b)) /\ (∀ (α : Type) (a b : α), (a ≠ b) = ¬ a = b) :=
  ⟨fun p _ => by simp, fun p _ => by simp, fun b => by simp, fun b => by simp, fun a b => by simp, fun a b => by simp, fun a b => by simp, fun a b => by cases a <;> cases b <;> simp, fun _ => rfl, fun _ _ => rfl, rfl, rfl, fun a b => by simp, fun a b => by simp, fun _ _ _ => rfl⟩
theorem HSl.ofBlk1 {h : Heap} {g n : Nat} {rows : List (List Value)} {sz : Nat} (hp : HCells h ⟨g, 0, none⟩ rows.flatten) (hw : Rowed sz rows) (hn : n = rows.length) (hl : n <= maxLen) : HSl h (.slice (some ⟨g, 0, none⟩) n n) sz rows :=
  ⟨hw, some ⟨g, 0, none⟩, n, by rw [hn], by omega, hl, fun _ => ⟨_, rfl, fun j u hj => hp j u hj⟩⟩

def intsR (k : IntKind) (l : List Int) : List (List Value) := l.map fun c => [.int k c]
@[simp] theorem intsR_length (k : IntKind) (l : List Int) : (intsR k l).length = l.length := by simp [intsR]
section
variable {E : Env} {k : List It} {f : Fr} {h : Heap} {H Hr : List Chunk} {st : Md} [hmd : OkMd st h H] {all : Array Oper} {rest : List Oper} {d : Nat} {ty : TypeId} {pos : String} {aft : Array Edge}
theorem G.norm {f' : Fr} {H' : List Chunk} {ks : List It} (hf : f = f') (hH : H = H') (g : G E ks f' h H') : G E ks f h H := by subst hf hH; exact g
theorem G.lenImmI {t e : TypeId} {x : Operand} {v : Value} {sz1 by_ : Nat} {z : Value} {ki : IntKind} {l : List Int} (hx : ev f x = some v) (ht : Ty E.P t (.slice e) sz1 by_ z) (hv : HSl h v 1 (intsR ki l)) (hd : Nat.blt d E.n = true)
    (g : G E (.ops st all rest :: k) ((d, .int .i64 l.length) :: f) h H) :
    G E (.ops st all (⟨some d, .call { callee := .builtin .len, args := #[x], argTypes := #[t] }, ty, pos, aft, none⟩ :: rest) :: k) f h H :=
  G.lenImm hx ht hv hd (by rw [intsR_length]; exact g)
theorem G.convStrBlk {s t e e' : TypeId} {x : Operand} {g c : Nat} {l : List UInt8} {cs : List Value} {sz1 by1 sz2 by2 sz3 by3 : Nat} {z1 z2 z3 : Value} (hx : ev f x = some (.slice (some ⟨g, 0, none⟩) l.length c)) (hs : Ty E.P s (.slice e) sz1 by1 z1) (ht : Ty E.P t .str sz2 by2 z2)
    (he : Ty E.P e (.int .u8) sz3 by3 z3) (hH : Take (.blk g cs e') H Hr) (hc : cs = l.map fun b => Value.int .u8 b.toNat) (hd : Nat.blt d E.n = true) (n : G E (.ops st all rest :: k) ((d, str l) :: f) h H) :
    G E (.ops st all (⟨some d, .convert s t x, ty, pos, aft, none⟩ :: rest) :: k) f h H := by
  refine G.opVal hd (fun _ a w ha hw => ?_) n
  have hb := hw.own _ hH.mem
  have := run_bytesToString' (P := E.P) (w := w) (a := ⟨g, 0, none⟩) (len := l.length) (cap := c) (l := l) rfl (fun j u hj => by
    rw [Addr.add_lit, Nat.zero_add, blk_cell hb, hc, ← bytesR_flatten]; exact hj)
  simp [execOp, ev_eq ha hx, run_convStr hs ht he, this]
theorem byte_back {a : Int} (h : 0 <= a /\ a < 256) : ((UInt8.ofNat a.toNat).toNat : Int) = a := by rw [UInt8.toNat_ofNat']; omega
theorem G.convStrBlk1 {s t e e' : TypeId} {x : Operand} {g c : Nat} {a : Int} {sz1 by1 sz2 by2 sz3 by3 : Nat} {z1 z2 z3 : Value} (hx : ev f x = some (.slice (some ⟨g, 0, none⟩) 1 c)) (hs : Ty E.P s (.slice e) sz1 by1 z1) (ht : Ty E.P t .str sz2 by2 z2)
    (he : Ty E.P e (.int .u8) sz3 by3 z3) (hH : Take (.blk g [.int .u8 a] e') H Hr) (ha : 0 <= a /\ a < 256) (hd : Nat.blt d E.n = true) (n : G E (.ops st all rest :: k) ((d, str [UInt8.ofNat a.toNat]) :: f) h H) :
    G E (.ops st all (⟨some d, .convert s t x, ty, pos, aft, none⟩ :: rest) :: k) f h H :=
  G.convStrBlk (l := [UInt8.ofNat a.toNat]) hx hs ht he hH (by simp only [List.map_cons, List.map_nil, byte_back ha]) hd n
theorem G.convStrBlk2 {s t e e' : TypeId} {x : Operand} {g c : Nat} {a b : Int} {sz1 by1 sz2 by2 sz3 by3 : Nat} {z1 z2 z3 : Value} (hx : ev f x = some (.slice (some ⟨g, 0, none⟩) 2 c)) (hs : Ty E.P s (.slice e) sz1 by1 z1) (ht : Ty E.P t .str sz2 by2 z2)
    (he : Ty E.P e (.int .u8) sz3 by3 z3) (hH : Take (.blk g [.int .u8 a, .int .u8 b] e') H Hr) (ha : 0 <= a /\ a < 256) (hb : 0 <= b /\ b < 256) (hd : Nat.blt d E.n = true) (n : G E (.ops st all rest :: k) ((d, str [UInt8.ofNat a.toNat, UInt8.ofNat b.toNat]) :: f) h H) :
    G E (.ops st all (⟨some d, .convert s t x, ty, pos, aft, none⟩ :: rest) :: k) f h H :=
  G.convStrBlk (l := [UInt8.ofNat a.toNat, UInt8.ofNat b.toNat]) hx hs ht he hH (by simp only [List.map_cons, List.map_nil, byte_back ha, byte_back hb]) hd n
theorem St.swapRow {c : Ctx} {h : Heap} {H Hr : List Chunk} {w : World} {g n : Nat} {cs : List Value} {e sz : Nat} {rows : List (List Value)} (s : St c h H w) (t : Take (.blk g cs e) H Hr) (hr : rows.flatten = cs) (hw : Rowed sz rows) (hn : n = rows.length) (hm : n <= maxLen) :
    St c h (.row (.slice (some ⟨g, 0, none⟩) n n) e sz rows :: Hr) w := by
  have s' : St c h (.blk g cs e :: Hr) w := s.sub ⟨[], by simpa using t.perm⟩
  obtain ⟨fz, hg, hu⟩ := s'.own (.blk g cs e) (by simp)
  have hcl : cs.length = n * sz := by rw [<- hr, flatten_length hw, hn]
  refine ⟨s'.os, s'.tape, s'.output, s'.size, s'.fr, s'.mono, s'.imm, fun x hx => ?_, ?_, fun g' hg' => s'.sep g' ?_, fun g' hg' => s'.ksub g' ?_, s'.isub⟩
  . rcases List.mem_cons.1 hx with rfl | hx
    . exact ⟨hw, .inr ⟨g, n, cs.toArray, fz, by rw [hn], hg, by simpa using hu, by omega, hm, by simpa using hcl, by rw [hr]; simp [List.take_of_length_le, hcl, hn]⟩⟩
    . exact s'.own x (by simp [hx])
  . have := s'.nodup; simpa [keys, Chunk.key, Value.ownBlock] using this
  . simpa [keys, Chunk.key, Value.ownBlock] using hg'
  . simpa [keys, Chunk.key, Value.ownBlock] using hg'
theorem G.blkRowB1 {ks : List It} {g : Nat} {a : Int} {e : TypeId} (t : Take (.blk g [.int .u8 a] e) H Hr) (ha : 0 <= a /\ a < 256) (n : G E ks f h (.row (.slice (some ⟨g, 0, none⟩) 1 1) e 1 (bytesR [UInt8.ofNat a.toNat]) :: Hr)) : G E ks f h H :=
  ⟨fun ac w hac hw => n.run ac w hac (hw.swapRow t (by rw [bytesR_flatten]; simp only [List.map_cons, List.map_nil, byte_back ha]) (rowed_bytes _) rfl (by decide))⟩
theorem G.nilRowB {ks : List It} (e : TypeId) (n : G E ks f h (.row (.slice none 0 0) e 1 (bytesR []) :: H)) : G E ks f h H := G.nilRow e 1 n
theorem G.atCode {ks : List It} {c : Code} (g : G E (.code c :: ks) f h H) : G E (.code c :: ks) f h H := g
theorem G.atGd {op : Op} {dd : Option Nat} {gd : Nat × Bool} (g : G E (.ops st all (⟨dd, op, ty, pos, aft, some gd⟩ :: rest) :: k) f h H) : G E (.ops st all (⟨dd, op, ty, pos, aft, some gd⟩ :: rest) :: k) f h H := g
theorem G.atSto {t : TypeId} {x y : Operand} {dd : Option Nat} (g : G E (.ops st all (⟨dd, .store t x y, ty, pos, aft, none⟩ :: rest) :: k) f h H) : G E (.ops st all (⟨dd, .store t x y, ty, pos, aft, none⟩ :: rest) :: k) f h H := g
theorem G.atAdd {t : TypeId} {t2 : TypeId} {x : Operand} {y : Operand} (g : G E (.ops st all (⟨some d, .binOp .add t x y t2, ty, pos, aft, none⟩ :: rest) :: k) f h H) : G E (.ops st all (⟨some d, .binOp .add t x y t2, ty, pos, aft, none⟩ :: rest) :: k) f h H := g
theorem G.atSub {t : TypeId} {t2 : TypeId} {x : Operand} {y : Operand} (g : G E (.ops st all (⟨some d, .binOp .sub t x y t2, ty, pos, aft, none⟩ :: rest) :: k) f h H) : G E (.ops st all (⟨some d, .binOp .sub t x y t2, ty, pos, aft, none⟩ :: rest) :: k) f h H := g
theorem G.atMul {t : TypeId} {t2 : TypeId} {x : Operand} {y : Operand} (g : G E (.ops st all (⟨some d, .binOp .mul t x y t2, ty, pos, aft, none⟩ :: rest) :: k) f h H) : G E (.ops st all (⟨some d, .binOp .mul t x y t2, ty, pos, aft, none⟩ :: rest) :: k) f h H := g
theorem G.atEql {t : TypeId} {t2 : TypeId} {x : Operand} {y : Operand} (g : G E (.ops st all (⟨some d, .binOp .eql t x y t2, ty, pos, aft, none⟩ :: rest) :: k) f h H) : G E (.ops st all (⟨some d, .binOp .eql t x y t2, ty, pos, aft, none⟩ :: rest) :: k) f h H := g
theorem G.atNeq {t : TypeId} {t2 : TypeId} {x : Operand} {y : Operand} (g : G E (.ops st all (⟨some d, .binOp .neq t x y t2, ty, pos, aft, none⟩ :: rest) :: k) f h H) : G E (.ops st all (⟨some d, .binOp .neq t x y t2, ty, pos, aft, none⟩ :: rest) :: k) f h H := g
theorem G.atShl {t : TypeId} {t2 : TypeId} {x : Operand} {y : Operand} (g : G E (.ops st all (⟨some d, .binOp .shl t x y t2, ty, pos, aft, none⟩ :: rest) :: k) f h H) : G E (.ops st all (⟨some d, .binOp .shl t x y t2, ty, pos, aft, none⟩ :: rest) :: k) f h H := g
theorem G.atShr {t : TypeId} {t2 : TypeId} {x : Operand} {y : Operand} (g : G E (.ops st all (⟨some d, .binOp .shr t x y t2, ty, pos, aft, none⟩ :: rest) :: k) f h H) : G E (.ops st all (⟨some d, .binOp .shr t x y t2, ty, pos, aft, none⟩ :: rest) :: k) f h H := g
theorem G.atQuo {t : TypeId} {t2 : TypeId} {x : Operand} {y : Operand} (g : G E (.ops st all (⟨some d, .binOp .quo t x y t2, ty, pos, aft, none⟩ :: rest) :: k) f h H) : G E (.ops st all (⟨some d, .binOp .quo t x y t2, ty, pos, aft, none⟩ :: rest) :: k) f h H := g
theorem G.atRem {t : TypeId} {t2 : TypeId} {x : Operand} {y : Operand} (g : G E (.ops st all (⟨some d, .binOp .rem t x y t2, ty, pos, aft, none⟩ :: rest) :: k) f h H) : G E (.ops st all (⟨some d, .binOp .rem t x y t2, ty, pos, aft, none⟩ :: rest) :: k) f h H := g
theorem G.atBin {t : TypeId} {t2 : TypeId} {x : Operand} {y : Operand} {o : BinOp} (g : G E (.ops st all (⟨some d, .binOp o t x y t2, ty, pos, aft, none⟩ :: rest) :: k) f h H) : G E (.ops st all (⟨some d, .binOp o t x y t2, ty, pos, aft, none⟩ :: rest) :: k) f h H := g
theorem G.atLen {xs : Array Operand} {ts : Array TypeId} (g : G E (.ops st all (⟨some d, .call { callee := .builtin .len, args := xs, argTypes := ts }, ty, pos, aft, none⟩ :: rest) :: k) f h H) : G E (.ops st all (⟨some d, .call { callee := .builtin .len, args := xs, argTypes := ts }, ty, pos, aft, none⟩ :: rest) :: k) f h H := g
theorem G.atApp {xs : Array Operand} {ts : Array TypeId} (g : G E (.ops st all (⟨some d, .call { callee := .builtin .append, args := xs, argTypes := ts }, ty, pos, aft, none⟩ :: rest) :: k) f h H) : G E (.ops st all (⟨some d, .call { callee := .builtin .append, args := xs, argTypes := ts }, ty, pos, aft, none⟩ :: rest) :: k) f h H := g
theorem G.atIdx {t : TypeId} {x : Operand} {y : Operand} (g : G E (.ops st all (⟨some d, .indexAddr t x y, ty, pos, aft, none⟩ :: rest) :: k) f h H) : G E (.ops st all (⟨some d, .indexAddr t x y, ty, pos, aft, none⟩ :: rest) :: k) f h H := g
theorem G.atInd {t : TypeId} {x : Operand} {y : Operand} (g : G E (.ops st all (⟨some d, .index t x y, ty, pos, aft, none⟩ :: rest) :: k) f h H) : G E (.ops st all (⟨some d, .index t x y, ty, pos, aft, none⟩ :: rest) :: k) f h H := g
theorem G.atLoad {t : TypeId} {x : Operand} (g : G E (.ops st all (⟨some d, .load t x, ty, pos, aft, none⟩ :: rest) :: k) f h H) : G E (.ops st all (⟨some d, .load t x, ty, pos, aft, none⟩ :: rest) :: k) f h H := g
theorem G.atConv {t : TypeId} {t2 : TypeId} {x : Operand} (g : G E (.ops st all (⟨some d, .convert t t2 x, ty, pos, aft, none⟩ :: rest) :: k) f h H) : G E (.ops st all (⟨some d, .convert t t2 x, ty, pos, aft, none⟩ :: rest) :: k) f h H := g
theorem G.atSlc {t : TypeId} {x : Operand} {lo hi mx : Option Operand} (g : G E (.ops st all (⟨some d, .slice t x lo hi mx, ty, pos, aft, none⟩ :: rest) :: k) f h H) : G E (.ops st all (⟨some d, .slice t x lo hi mx, ty, pos, aft, none⟩ :: rest) :: k) f h H := g
theorem G.atFld {t : TypeId} {x : Operand} {n : Nat} (g : G E (.ops st all (⟨some d, .fieldAddr t x n, ty, pos, aft, none⟩ :: rest) :: k) f h H) : G E (.ops st all (⟨some d, .fieldAddr t x n, ty, pos, aft, none⟩ :: rest) :: k) f h H := g
theorem G.atAlc {t : TypeId} (g : G E (.ops st all (⟨some d, .alloc t, ty, pos, aft, none⟩ :: rest) :: k) f h H) : G E (.ops st all (⟨some d, .alloc t, ty, pos, aft, none⟩ :: rest) :: k) f h H := g
theorem G.atBox {t : TypeId} {x : Operand} (g : G E (.ops st all (⟨some d, .box t x, ty, pos, aft, none⟩ :: rest) :: k) f h H) : G E (.ops st all (⟨some d, .box t x, ty, pos, aft, none⟩ :: rest) :: k) f h H := g
theorem G.atBld {t : TypeId} {ps : Array (Nat × Operand)} (g : G E (.ops st all (⟨some d, .build t ps, ty, pos, aft, none⟩ :: rest) :: k) f h H) : G E (.ops st all (⟨some d, .build t ps, ty, pos, aft, none⟩ :: rest) :: k) f h H := g
theorem G.atBsl {t : TypeId} {n : Nat} {ps : Array (Nat × Operand)} (g : G E (.ops st all (⟨some d, .buildSlice t n ps, ty, pos, aft, none⟩ :: rest) :: k) f h H) : G E (.ops st all (⟨some d, .buildSlice t n ps, ty, pos, aft, none⟩ :: rest) :: k) f h H := g
end
end Go.Proofs.YtibkffoeioidlaaDoor
namespace Go.Proofs.YtibkffoeioidlaaDoor
set_option linter.all false
set_option maxRecDepth 4000
open Go.RowKit

inductive Nd where
  | mk (tag : Int) (data : List UInt8) (kids : List Nd)

mutual
def NodeC (h : Heap) : Nd -> List Value -> Prop
  | .mk t d ks, r => ∃ v rows, r = [.int .i64 t, str d, v] /\ HSl h v 3 rows /\ KidsC h ks rows
def KidsC (h : Heap) : List Nd -> List (List Value) -> Prop
  | [], rows => rows = []
  | k :: ks, rows => ∃ r rs, rows = r :: rs /\ NodeC h k r /\ KidsC h ks rs
end
mutual
theorem NodeC.mono {h h' : Heap} (hl : Heap.le h h') : ∀ (n : Nd) (r : List Value), NodeC h n r -> NodeC h' n r
  | .mk t d ks, r, hn => by
    simp only [NodeC] at hn ⊢
    obtain ⟨v, rows, e, hs, hk⟩ := hn
    exact ⟨v, rows, e, hs.mono hl, KidsC.mono hl ks rows hk⟩
theorem KidsC.mono {h h' : Heap} (hl : Heap.le h h') : ∀ (l : List Nd) (rows : List (List Value)), KidsC h l rows -> KidsC h' l rows
  | [], rows, hk => by simpa only [KidsC] using hk
  | k :: ks, rows, hk => by
    simp only [KidsC] at hk ⊢
    obtain ⟨r, rs, e, h1, h2⟩ := hk
    exact ⟨r, rs, e, NodeC.mono hl k r h1, KidsC.mono hl ks rs h2⟩
end
theorem KidsC.append {h : Heap} : ∀ {a b : List Nd} {ra rb : List (List Value)}, KidsC h a ra -> KidsC h b rb -> KidsC h (a ++ b) (ra ++ rb)
  | [], b, ra, rb, ha, hb => by simp only [KidsC] at ha; subst ha; exact hb
  | k :: ks, b, ra, rb, ha, hb => by
    simp only [KidsC] at ha
    obtain ⟨r, rs, rfl, h1, h2⟩ := ha
    simp only [List.cons_append, KidsC]
    exact ⟨r, rs ++ rb, rfl, h1, KidsC.append h2 hb⟩
theorem KidsC.one {h : Heap} {n : Nd} {r : List Value} (hn : NodeC h n r) : KidsC h [n] [r] := by
  simp only [KidsC]
  exact ⟨r, [], rfl, hn, rfl⟩
theorem KidsC.len {h : Heap} : ∀ {a : List Nd} {ra : List (List Value)}, KidsC h a ra -> ra.length = a.length
  | [], ra, ha => by simp only [KidsC] at ha; subst ha; rfl
  | k :: ks, ra, ha => by
    simp only [KidsC] at ha
    obtain ⟨r, rs, rfl, _, h2⟩ := ha
    simp [KidsC.len h2]
theorem KidsC.get {h : Heap} : ∀ {a : List Nd} {ra : List (List Value)} {i : Nat} {n : Nd}, KidsC h a ra -> a[i]? = some n -> ∃ r, ra[i]? = some r /\ NodeC h n r
  | [], ra, i, n, _, hi => by simp at hi
  | k :: ks, ra, i, n, ha, hi => by
    simp only [KidsC] at ha
    obtain ⟨r, rs, rfl, h1, h2⟩ := ha
    cases i with
    | zero => simp at hi; subst hi; exact ⟨r, rfl, h1⟩
    | succ i => simp at hi; obtain ⟨r', h3, h4⟩ := KidsC.get h2 hi; exact ⟨r', by simpa using h3, h4⟩
theorem NodeC.mk_ {h : Heap} {t : Int} {d : List UInt8} {ks : List Nd} {v : Value} {rows : List (List Value)} (hs : HSl h v 3 rows) (hk : KidsC h ks rows) : NodeC h (.mk t d ks) [.int .i64 t, str d, v] := by
  simp only [NodeC]
  exact ⟨v, rows, rfl, hs, hk⟩
theorem NodeC.open_ {h : Heap} {t : Int} {d : List UInt8} {ks : List Nd} {r : List Value} (hn : NodeC h (.mk t d ks) r) : ∃ v rows, r = [.int .i64 t, str d, v] /\ HSl h v 3 rows /\ KidsC h ks rows := by
  simpa only [NodeC] using hn
def zN : Nd := .mk 0 [] []
theorem zN_C (h : Heap) : NodeC h zN [.int .i64 0, str [], .slice none 0 0] := NodeC.mk_ (HSl.nil h 3) (by simp only [KidsC])
end Go.Proofs.YtibkffoeioidlaaDoor
