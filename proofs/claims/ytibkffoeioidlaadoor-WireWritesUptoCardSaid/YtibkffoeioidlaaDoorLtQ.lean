/- Functions as values: made, and called. -/
import Derived.Test.YtibkffoeioidlaaDoorNd
import Derived.Laws.StructEq
import Derived.KernelRfl
import Derived.MapKept
namespace Go.Proofs.YtibkffoeioidlaaDoor
set_option linter.all false
set_option maxRecDepth 4000
open Go.RowKit

section
variable {E : Env} {k : List It} {f : Fr} {h : Heap} {H : List Chunk} {st : Md} [hmd : OkMd st h H] {all : Array Oper} {rest : List Oper} {d : Nat} {ty : TypeId} {pos : String} {aft : Array Edge}

theorem G.makeFunc {g : FuncId} {fs cs : List Operand} {fv cv : List Value} (hf : evs f fs = some fv) (hc : evs f cs = some cv) (hd : Nat.blt d E.n = true)
    (next : G E (.ops st all rest :: k) ((d, .func (.func g) fv.toArray cv.toArray) :: f) h H) :
    G E (.ops st all (⟨some d, .makeFunc (.func g) fs.toArray cs.toArray, ty, pos, aft, none⟩ :: rest) :: k) f h H := by
  refine G.opVal hd (fun _ a w ha _ => ?_) next
  have h1 := evs_eq ha hf
  have h2 := evs_eq ha hc
  simp [execOp, Instr.makeFunc, h1, h2]
end
section
variable {E : Env} {k : List It} {f : Fr} {h : Heap} {H : List Chunk} {all : Array Oper} {rest : List Oper} {d : Nat} {ty : TypeId} {pos : String} {aft : Array Edge}

end
end Go.Proofs.YtibkffoeioidlaaDoor
namespace Go.Proofs.YtibkffoeioidlaaDoor
set_option linter.all false
set_option maxRecDepth 4000
open Go.RowKit

section
variable {E : Env} {k : List It} {f : Fr} {h : Heap} {H Hr : List Chunk} {st : Md} [hmd : OkMd st h H] {all : Array Oper} {rest : List Oper} {d : Nat} {ty : TypeId} {pos : String} {aft : Array Edge}

theorem G.sliceSl {t e : TypeId} {x : Operand} {lo hi : Option Operand} {A : Option Addr} {n cap : Nat} {a b : Int} {td : TD} {sz by_ sz1 by1 : Nat} {z z1 : Value} (hx : ev f x = some (.slice A n cap)) (hlo : optI f lo 0 = some a) (hhi : optI f hi n = some b)
    (ht : Ty E.P t (.slice e) sz1 by1 z1) (he : Ty E.P e td sz by_ z) (hd : Nat.blt d E.n = true) {a' b' : Nat} (ha' : a.toNat = a') (hb' : b.toNat = b') (hb : 0 <= a /\ a <= b /\ b <= cap)
    (g : G E (.ops st all rest :: k) ((d, .slice (if cap = a' then A else A.map (·.add (a' * sz))) (b' - a') (cap - a')) :: f) h H) :
    G E (.ops st all (⟨some d, .slice t x lo hi none, ty, pos, aft, none⟩ :: rest) :: k) f h H := by
  subst ha' hb'
  refine G.opVal hd (fun _ ac w ha _ => ?_) g
  have hu := ht.fits
  simp only [TD.fits] at hu
  obtain ⟨i, hi1, hi2, hi3, hi4⟩ := he.info
  subst hi2
  have hs : ∀ {kd : IntKind} {q : Int} {y : Nat} {c : BoundsCode}, 0 <= q /\ q <= y -> (Instr.sliceBound (.int kd q) y c).run E.P w = .ok q.toNat w := fun hq => sliceBound_ok hq
  cases lo with
  | none =>
    simp only [optI, Option.some.injEq] at hlo
    subst hlo
    cases hi with
    | none =>
      simp only [optI, Option.some.injEq] at hhi
      subst hhi
      simp [execOp, Instr.sliceAt, Instr.slice, Instr.sliceBounds, ev_eq ha hx, run_underlying hu, sizeOf, typeInfo, hi1]
    | some y =>
      simp only [optI] at hhi
      split at hhi
      . rename_i kd q hy
        simp at hhi
        subst hhi
        have h1 := hs (kd := kd) (q := q) (y := cap) (c := .sliceAcap) (by omega)
        simp [execOp, Instr.sliceAt, Instr.slice, Instr.sliceBounds, ev_eq ha hx, ev_eq ha hy, run_underlying hu, sizeOf, typeInfo, hi1, h1]
      . cases hhi
  | some u =>
    simp only [optI] at hlo
    split at hlo
    . rename_i kl ql hl
      simp at hlo
      subst hlo
      cases hi with
      | none =>
        simp only [optI, Option.some.injEq] at hhi
        subst hhi
        have h1 := hs (kd := kl) (q := ql) (y := n) (c := .sliceB) (by omega)
        simp [execOp, Instr.sliceAt, Instr.slice, Instr.sliceBounds, ev_eq ha hx, ev_eq ha hl, run_underlying hu, sizeOf, typeInfo, hi1, h1]
      | some y =>
        simp only [optI] at hhi
        split at hhi
        . rename_i kd q hy
          simp at hhi
          subst hhi
          have h1 := hs (kd := kd) (q := q) (y := cap) (c := .sliceAcap) (by omega)
          have h2 := hs (kd := kl) (q := ql) (y := q.toNat) (c := .sliceB) (by omega)
          simp [execOp, Instr.sliceAt, Instr.slice, Instr.sliceBounds, ev_eq ha hx, ev_eq ha hy, ev_eq ha hl, run_underlying hu, sizeOf, typeInfo, hi1, h1, h2]
        . cases hhi
    . cases hlo
end

section
variable {E : Env} {k : List It} {f : Fr} {h : Heap} {H Hr : List Chunk} {all : Array Oper} {rest : List Oper} {d : Nat} {ty : TypeId} {pos : String} {aft : Array Edge}

end
theorem HSl.cut {h : Heap} {A : Option Addr} {n c sz : Nat} {rows : List (List Value)} (s : HSl h (.slice A n c) sz rows) (i : Nat) (hi : i <= rows.length) : HSl h (.slice A i c) sz (rows.take i) := by
  obtain ⟨A', c', e, h2, h3, h4⟩ := s.form
  simp only [Value.slice.injEq] at e
  obtain ⟨rfl, rfl, rfl⟩ := e
  have hl : (rows.take i).length = i := by rw [List.length_take]; omega
  refine ⟨fun r hr => s.rowed r (List.mem_of_mem_take hr), A, c, by rw [hl], by omega, h3, fun hne => ?_⟩
  obtain ⟨ad, h5, h6⟩ := h4 (fun e => hne (by rw [e]; simp))
  refine ⟨ad, h5, fun j u hj => h6 j u ?_⟩
  have e1 : rows.flatten = (rows.take i).flatten ++ (rows.drop i).flatten := by rw [<- List.flatten_append, List.take_append_drop]
  rw [e1, List.getElem?_append_left (List.getElem?_eq_some_iff.1 hj).1]
  exact hj
theorem HSl.tail {h : Heap} {A : Option Addr} {n c sz : Nat} {rows : List (List Value)} (s : HSl h (.slice A n c) sz rows) (i : Nat) (hi : i <= rows.length) : HSl h (.slice (if c = i then A else A.map (·.add (i * sz))) (n - i) (c - i)) sz (rows.drop i) := by
  obtain ⟨A', c', e, h2, h3, h4⟩ := s.form
  simp only [Value.slice.injEq] at e
  obtain ⟨rfl, rfl, rfl⟩ := e
  have hl : (rows.drop i).length = rows.length - i := List.length_drop
  have hrw : Rowed sz (rows.drop i) := fun r hr => s.rowed r (List.mem_of_mem_drop hr)
  refine ⟨hrw, _, c - i, by rw [hl], by omega, by omega, fun hne => ?_⟩
  have hil : i < rows.length := by
    rcases Nat.lt_or_ge i rows.length with h7 | h7
    . exact h7
    . exact absurd (List.drop_eq_nil_of_le h7) hne
  obtain ⟨ad, rfl, h6⟩ := h4 (fun e => by subst e; simp at hil)
  rw [if_neg (by omega)]
  refine ⟨ad.add (i * sz), rfl, fun j u hj => ?_⟩
  rw [add_add_]
  refine h6 _ u ?_
  have e1 : rows.flatten = (rows.take i).flatten ++ (rows.drop i).flatten := by rw [<- List.flatten_append, List.take_append_drop]
  have hf : (rows.take i).flatten.length = i * sz := by
    rw [flatten_length (fun r hr => s.rowed r (List.mem_of_mem_take hr)), List.length_take, Nat.min_eq_left hi]
  rw [e1, List.getElem?_append_right (by omega), hf, Nat.add_sub_cancel_left]
  exact hj
end Go.Proofs.YtibkffoeioidlaaDoor
namespace Go.Proofs.YtibkffoeioidlaaDoor
set_option linter.all false
set_option maxRecDepth 4000
open Go.RowKit

inductive EqC : TD -> Value -> Value -> Bool -> Prop
  | str {a b : List UInt8} : EqC .str (str a) (str b) (decide (a = b))
  | int {k : IntKind} {a b : Int} : EqC (.int k) (.int k a) (.int k b) (decide (a = b))
  | bool {a b : Bool} : EqC .bool (.bool a) (.bool b) (a == b)
inductive EqF (P : Program) : List TypeId -> List Value -> List Value -> Bool -> Prop
  | nil : EqF P [] [] [] true
  | cons {t : TypeId} {td : TD} {by_ : Nat} {z x y : Value} {b r : Bool} {ts : List TypeId} {xs ys : List Value} : Ty P t td 1 by_ z -> EqC td x y b -> EqF P ts xs ys r -> EqF P (t :: ts) (x :: xs) (y :: ys) (b && r)
def flatB : List Field -> Nat -> List TypeId -> Bool
  | [], _, [] => true
  | f :: fl, i, t :: ts => Nat.beq f.offset i && Nat.beq f.type t && (f.name != "_") && flatB fl (i + 1) ts
  | _, _, _ => false
structure FlatOk (P : Program) (t : TypeId) (ts : List TypeId) : Prop where
  s : P.underlying t = some (.struct (P.fieldsOf t))
  fl : flatB (P.fieldsOf t).toList 0 ts = true
  st : P.stoodInHeld t = false
  gd : P.eqGuardType P.depth t = false

theorem eqC_run {P : Program} {t : TypeId} {td : TD} {by_ : Nat} {z x y : Value} {b : Bool} (ht : Ty P t td 1 by_ z) (hc : EqC td x y b) (d : Nat) (w : World) : (Op.equalIn (d + 1) t x y).run P w = .ok b w := by
  have hu := ht.fits
  cases hc with
  | str =>
    rename_i a b
    rw [show str a = Value.string ⟨a.toArray⟩ from rfl, show str b = Value.string ⟨b.toArray⟩ from rfl, run_equalIn_string w d t _ _ hu, ba_toList, ba_toList]
    by_cases h : a = b <;> simp [h]
  | int =>
    rename_i k a b
    rw [run_equalIn_int w d t _ k a b hu]
    by_cases h : a = b <;> simp [h]
  | bool => rename_i a b; exact run_equalIn_bool w d t a b hu
theorem eqC_flat {td : TD} {x y : Value} {b : Bool} (hc : EqC td x y b) : td.isAgg = false /\ td.known = true := by cases hc <;> exact ⟨rfl, rfl⟩
theorem part_flat {P : Program} {t : TypeId} {td : TD} {by_ : Nat} {z x : Value} (ht : Ty P t td 1 by_ z) (ha : td.isAgg = false) (hk : td.known = true) {cs : List Value} {i : Nat} (hx : cs[i]? = some x) (w : World) : (part t cs.toArray i).run P w = .ok x w := by
  simp [part, run_isAgg' ht hk, ha, hx]
theorem eqFields_flat {P : Program} (d : Nat) (w : World) : ∀ (fl : List Field) (ts : List TypeId) (pre pre' xs ys : List Value) (r : Bool), EqF P ts xs ys r -> flatB fl pre.length ts = true -> pre.length = pre'.length →
    (Op.eqFields (d + 1) (pre ++ xs).toArray (pre' ++ ys).toArray fl).run P w = .ok r w
  | [], _, _, _, _, _, r, hr, hf, _ => by
    cases hr with
    | nil => simp [Op.eqFields]
    | cons => simp [flatB] at hf
  | f :: fl, _, pre, pre', _, _, r, hr, hf, hl => by
    cases hr with
    | nil => simp [flatB] at hf
    | cons ht hc hr =>
      rename_i t td by_ z x y b r ts xs ys
      simp only [flatB, Bool.and_eq_true, bne_iff_ne, ne_eq] at hf
      obtain ⟨⟨⟨h1, h2⟩, h3⟩, h4⟩ := hf
      have e1 := Nat.eq_of_beq_eq_true h1
      have e2 := Nat.eq_of_beq_eq_true h2
      obtain ⟨ha, hk⟩ := eqC_flat hc
      have p1 : (part f.type (pre ++ x :: xs).toArray f.offset).run P w = .ok x w := by rw [e1, e2]; exact part_flat ht ha hk (by simp) w
      have p2 : (part f.type (pre' ++ y :: ys).toArray f.offset).run P w = .ok y w := by rw [e1, e2]; exact part_flat ht ha hk (by rw [hl]; simp) w
      have p3 : (Op.equalIn (d + 1) f.type x y).run P w = .ok b w := by rw [e2]; exact eqC_run ht hc d w
      have ih := eqFields_flat d w fl ts (pre ++ [x]) (pre' ++ [y]) xs ys r hr (by simpa using h4) (by simp [hl])
      simp only [List.append_assoc, List.cons_append, List.nil_append] at ih
      simp only [Op.eqFields, h3, ne_eq, not_false_eq_true, if_true, Sem.run_bind, p1, p2, p3, Result.andThen_ok]
      cases b with
      | true => simpa using ih
      | false => simp
section
variable {E : Env} {k : List It} {f : Fr} {h : Heap} {H Hr : List Chunk} {st : Md} [hmd : OkMd st h H] {all : Array Oper} {rest : List Oper} {d : Nat} {ty : TypeId} {pos : String} {aft : Array Edge}
theorem equal_flat {P : Program} {t : TypeId} {ts : List TypeId} {xs ys : List Value} {r : Bool} (hk : FlatOk P t ts) (hr : EqF P ts xs ys r) (w : World) : (Op.equalIn 10000 t (.agg xs.toArray) (.agg ys.toArray)).run P w = .ok r w := by
  rw [show (10000 : Nat) = 9999 + 1 from rfl, run_equalIn_agg w 9999 t _ _ hk.s hk.st]
  exact eqFields_flat 9998 w _ ts [] [] xs ys r hr hk.fl rfl
theorem G.neAgg {t t' : TypeId} {x y : Operand} {xs ys : List Value} {ts : List TypeId} {r : Bool} (hx : ev f x = some (.agg xs.toArray)) (hy : ev f y = some (.agg ys.toArray)) (hk : FlatOk E.P t ts) (hr : EqF E.P ts xs ys r) (hd : Nat.blt d E.n = true)
    (g : G E (.ops st all rest :: k) ((d, .bool (!r)) :: f) h H) :
    G E (.ops st all (⟨some d, .binOp .neq t x y t', ty, pos, aft, none⟩ :: rest) :: k) f h H := by
  refine G.opVal hd (fun _ a w ha _ => ?_) g
  have h1 := equal_flat hk hr w
  have h2 := fun o1 o2 => run_eqGuard_agg (P := E.P) w .neq t o1 o2 xs.toArray ys.toArray hk.gd
  have h3 := run_neq_struct (P := E.P) w t xs.toArray ys.toArray
  simp only [execOp, ev_eq ha hx, ev_eq ha hy, Sem.run_bind, h2, h3, h1, Result.andThen_ok, Sem.run_pure]
theorem G.eqAgg {t t' : TypeId} {x y : Operand} {xs ys : List Value} {ts : List TypeId} {r : Bool} (hx : ev f x = some (.agg xs.toArray)) (hy : ev f y = some (.agg ys.toArray)) (hk : FlatOk E.P t ts) (hr : EqF E.P ts xs ys r) (hd : Nat.blt d E.n = true)
    (g : G E (.ops st all rest :: k) ((d, .bool r) :: f) h H) :
    G E (.ops st all (⟨some d, .binOp .eql t x y t', ty, pos, aft, none⟩ :: rest) :: k) f h H := by
  refine G.opVal hd (fun _ a w ha _ => ?_) g
  have h1 := equal_flat hk hr w
  have h2 := fun o1 o2 => run_eqGuard_agg (P := E.P) w .eql t o1 o2 xs.toArray ys.toArray hk.gd
  have h3 := run_eql_struct (P := E.P) w t xs.toArray ys.toArray
  simp only [execOp, ev_eq ha hx, ev_eq ha hy, Sem.run_bind, h2, h3, h1, Result.andThen_ok, Sem.run_pure]
end
section
variable {E : Env} {k : List It} {f : Fr} {h : Heap} {H Hr : List Chunk}
end
end Go.Proofs.YtibkffoeioidlaaDoor
namespace Go.Proofs.YtibkffoeioidlaaDoor
set_option linter.all false
set_option maxRecDepth 4000
open Go.RowKit

section
variable {E : Env} {k : List It} {f : Fr} {h : Heap} {H Hr : List Chunk} {st : Md} [hmd : OkMd st h H] {all : Array Oper} {rest : List Oper} {d : Nat} {ty : TypeId} {pos : String} {aft : Array Edge}
theorem G.minI {x y : Operand} {t t' : TypeId} {ki kj : IntKind} {a b : Int} (hx : ev f x = some (.int ki a)) (hy : ev f y = some (.int kj b)) (hd : Nat.blt d E.n = true)
    (g : G E (.ops st all rest :: k) ((d, .int ki (min a b)) :: f) h H) :
    G E (.ops st all (⟨some d, .call { callee := .builtin .min, args := #[x, y], argTypes := #[t, t'] }, ty, pos, aft, none⟩ :: rest) :: k) f h H := by
  refine G.opVal hd (fun _ q w ha _ => ?_) g
  have e : (if b < a then b else a) = min a b := by omega
  simp [execOp, resolve, invoke, builtin, ev_eq ha hx, ev_eq ha hy, Builtin.min_, Builtin.min2, e]
theorem G.maxI {x y : Operand} {t t' : TypeId} {ki kj : IntKind} {a b : Int} (hx : ev f x = some (.int ki a)) (hy : ev f y = some (.int kj b)) (hd : Nat.blt d E.n = true)
    (g : G E (.ops st all rest :: k) ((d, .int ki (max a b)) :: f) h H) :
    G E (.ops st all (⟨some d, .call { callee := .builtin .max, args := #[x, y], argTypes := #[t, t'] }, ty, pos, aft, none⟩ :: rest) :: k) f h H := by
  refine G.opVal hd (fun _ q w ha _ => ?_) g
  have e : (if a < b then b else a) = max a b := by omega
  simp [execOp, resolve, invoke, builtin, ev_eq ha hx, ev_eq ha hy, Builtin.max_, Builtin.max2, e]

def ents (es : List (Int × Value × Nat)) : List MapEntry := es.map fun x => ⟨.int .i64 x.1, x.2.1, x.2.2⟩
def mapO (es : List (Int × Value × Nat)) (c : Nat) : Obj := .map (ents es).toArray c
def mFind (q : Int) : List (Int × Value × Nat) -> Nat -> Option (Nat × Value)
  | [], _ => none
  | (j, v, _) :: es, i => if q = j then some (i, v) else mFind q es (i + 1)
def mGet (z : Value) (q : Int) : List (Int × Value × Nat) -> Value
  | [] => z
  | (j, v, _) :: es => if q = j then v else mGet z q es
def mHas (q : Int) : List (Int × Value × Nat) -> Bool
  | [] => false
  | (j, _, _) :: es => if q = j then true else mHas q es
theorem mFind_get (z : Value) (q : Int) : ∀ (es : List (Int × Value × Nat)) (i : Nat), (mFind q es i = none /\ mGet z q es = z /\ mHas q es = false) \/ ∃ j v, mFind q es i = some (j, v) /\ mGet z q es = v /\ mHas q es = true
  | [], _ => .inl ⟨rfl, rfl, rfl⟩
  | (j, v, _) :: es, i => by
    by_cases h : q = j
    . exact .inr ⟨i, v, by simp [mFind, h], by simp [mGet, h], by simp [mHas, h]⟩
    . rcases mFind_get z q es (i + 1) with ⟨h1, h2, h3⟩ | ⟨j', v', h1, h2, h3⟩
      . exact .inl ⟨by simp [mFind, h, h1], by simp [mGet, h, h2], by simp [mHas, h, h3]⟩
      . exact .inr ⟨j', v', by simp [mFind, h, h1], by simp [mGet, h, h2], by simp [mHas, h, h3]⟩
theorem findNow_int (q : Int) : ∀ (es : List (Int × Value × Nat)) (i : Nat), Instr.findNow (.int .i64) (.int .i64 q) (ents es) i = some (mFind q es i)
  | [], _ => rfl
  | (j, v, b) :: es, i => by
    have ih := findNow_int q es (i + 1)
    simp only [ents] at ih
    by_cases h : q = j
    . simp [ents, Instr.findNow, Instr.sameNow, mFind, h]
    . have hb : (q == j) = false := by simpa using h
      simp [ents, Instr.findNow, Instr.sameNow, mFind, h, hb, ih]
theorem run_findKey_int {P : Program} {w : World} {kt : TypeId} (hk : P.underlying kt = some (.int .i64)) (q : Int) (es : List (Int × Value × Nat)) : (Instr.findKey kt (.int .i64 q) (ents es)).run P w = .ok (mFind q es 0) w := by
  simp [Instr.findKey, run_underlying hk, findNow_int, Result.andThen]
theorem run_checkKey_int {P : Program} {w : World} {kt : TypeId} (hk : P.underlying kt = some (.int .i64)) (q : Int) (b : Bool) : (Instr.checkKey b 10000 kt (.int .i64 q)).run P w = .ok () w := by
  rw [show (10000 : Nat) = 9999 + 1 from rfl]
  unfold Instr.checkKey
  simp [run_underlying hk, Result.andThen]

end
section
variable {E : Env} {k : List It} {f : Fr} {h : Heap} {H Hr : List Chunk} {all : Array Oper} {rest : List Oper} {d : Nat} {ty : TypeId} {pos : String} {aft : Array Edge}
theorem G.makeMap {t : TypeId} (hd : Nat.blt d E.n = true) (n : ∀ g, G E (.ops .seq all rest :: k) ((d, .map (some g)) :: f) h (.obj g (mapO [] 0) :: H)) :
    G E (.ops .seq all (⟨some d, .makeMap t none, ty, pos, aft, none⟩ :: rest) :: k) f h H := by
  refine G.opGen fun a w ha hw => ?_
  refine ⟨.value (.map (some w.heap.size)), w.alloc (mapO [] 0), _, h, _, ?_, .inl ⟨_, rfl, ha.put d _ hd⟩, hw.alloc _ (.obj w.heap.size (mapO [] 0)) ?_ rfl, n _⟩
  . have hn : ∀ o, (newObj o).run E.P w = .ok w.heap.size (w.alloc o) := fun o => rfl
    simp [execOp, Instr.makeMap, hn, mapO, ents, Result.andThen]
  . exact heap_alloc_new w _
def mPut (q : Int) (v : Value) (es : List (Int × Value × Nat)) (c : Nat) : List (Int × Value × Nat) := match mFind q es 0 with
  | some (i, _) => es.modify i fun x => (x.1, v, x.2.2)
  | none => es ++ [(q, v, c)]
def mTick (q : Int) (es : List (Int × Value × Nat)) (c : Nat) : Nat := if mHas q es then c else c + 1
theorem mFind_key (q : Int) : ∀ (es : List (Int × Value × Nat)) (i j : Nat) (v : Value), mFind q es i = some (j, v) -> i <= j /\ ∃ b, es[j - i]? = some (q, v, b)
  | (q', v', b') :: es, i, j, v, h => by
    simp only [mFind] at h
    split at h
    . rename_i hq
      simp only [Option.some.injEq, Prod.mk.injEq] at h
      obtain ⟨rfl, rfl⟩ := h
      exact ⟨Nat.le_refl _, b', by simp [hq]⟩
    . obtain ⟨h1, b, h2⟩ := mFind_key q es (i + 1) j v h
      refine ⟨by omega, b, ?_⟩
      rw [show j - i = (j - (i + 1)) + 1 by omega]
      simpa using h2
theorem ents_modify (v : Value) : ∀ (es : List (Int × Value × Nat)) (i : Nat) (key : Value) (q : Int) (u : Value) (b : Nat), key = .int .i64 q -> es[i]? = some (q, u, b) →
    (ents es).modify i (fun e => { e with key := key, val := v }) = ents (es.modify i fun x => (x.1, v, x.2.2))
  | [], i, _, _, _, _, _, h => by simp at h
  | x :: es, 0, key, q, u, b, hk, h => by
    simp at h
    subst h hk
    simp [ents]
  | x :: es, i + 1, key, q, u, b, hk, h => by
    have := ents_modify v es i key q u b hk (by simpa using h)
    simp only [ents] at this
    simp [ents, this]
theorem G.mapUpdate {t kt et : TypeId} {x y y2 : Operand} {g : Nat} {q : Int} {v : Value} {sz1 by1 sz2 by2 : Nat} {z1 z2 : Value} {es : List (Int × Value × Nat)} {c : Nat} (hx : ev f x = some (.map (some g))) (hy : ev f y = some (.int .i64 q)) (hv : ev f y2 = some v)
    (ht : Ty E.P t (.map kt et) sz1 by1 z1) (hk : Ty E.P kt (.int .i64) sz2 by2 z2) (hH : Take (.obj g (mapO es c)) H Hr)
    (n : G E (.ops .seq all rest :: k) f h (.obj g (mapO (mPut q v es c) (mTick q es c)) :: Hr)) :
    G E (.ops .seq all (⟨none, .mapUpdate t x y y2, ty, pos, aft, none⟩ :: rest) :: k) f h H := by
  refine G.opGen fun a w ha hw => ?_
  have hu := ht.fits
  have hk' := hk.fits
  simp only [TD.fits] at hu hk'
  have ho : w.heap[g]? = some (.map (ents es).toArray c) := hw.own _ hH.mem
  have hlt : g < w.heap.size := lt_of_get ho
  have hck := fun b => run_checkKey_int (w := w) hk' q b
  have hset : ∀ o : Obj, St E.c h (.obj g o :: Hr) { w with heap := w.heap.setIfInBounds g o } := fun o => by
    refine hw.set (g := g) hH rfl rfl ?_ rfl rfl rfl (by simp) (fun b hb => ?_)
    . show (w.heap.setIfInBounds g o)[g]? = some o
      simp [hlt]
    . simp [Array.getElem?_setIfInBounds, Ne.symm hb]
  rcases mFind_get v q es 0 with ⟨h1, h2, h3⟩ | ⟨j, u, h1, h2, h3⟩
  . have e1 : mapO (mPut q v es c) (mTick q es c) = .map ((ents es).toArray.push ⟨.int .i64 q, v, c⟩) (c + 1) := by
      simp [mapO, mPut, mTick, h1, h3, ents]
    rw [e1] at n
    refine ⟨.skip, _, f, h, _, ?_, .inr ⟨rfl, ha⟩, hset _, n⟩
    simp [execOp, Instr.mapUpdate, ev_eq ha hx, ev_eq ha hy, ev_eq ha hv, run_underlying hu, MapKept.run_getObj_map ho, hck, run_findKey_int hk', h1, MapKept.run_setObj_map _ ho, Result.andThen]
  . obtain ⟨_, b, h4⟩ := mFind_key q es 0 j u h1
    rw [Nat.sub_zero] at h4
    have hkey : ((ents es)[j]?.map (·.key)).getD (.int .i64 q) = .int .i64 q := by
      simp [ents, h4]
    have hst : (Instr.keyThatStays (.int .i64 q) (.int .i64 q)).run E.P w = .ok (.int .i64 q) w := by
      have : Instr.sameBits 10000 (.int .i64 q) (.int .i64 q) = true := by
        rw [show (10000 : Nat) = 9999 + 1 from rfl]
        simp [Instr.sameBits]
      simp [Instr.keyThatStays, this]
    have e1 : mapO (mPut q v es c) (mTick q es c) = .map ((ents es).toArray.modify j fun e => { e with key := .int .i64 q, val := v }) c := by
      have := ents_modify v es j (.int .i64 q) q u b rfl h4
      simp only [mapO, mPut, mTick, h1, h3, if_true]
      rw [<- this]
      simp
    rw [e1] at n
    refine ⟨.skip, _, f, h, _, ?_, .inr ⟨rfl, ha⟩, hset _, n⟩
    have hkey' : ((ents es).toArray[j]?.map (·.key)).getD (.int .i64 q) = .int .i64 q := by simpa using hkey
    simp [execOp, Instr.mapUpdate, ev_eq ha hx, ev_eq ha hy, ev_eq ha hv, run_underlying hu, MapKept.run_getObj_map ho, hck, run_findKey_int hk', h1, hkey', hst, MapKept.run_setObj_map _ ho, Result.andThen]
    try simp [hkey, hst, MapKept.run_setObj_map _ ho]
theorem G.anyHold (n : Nat) (sl : Nat -> Bool) {l0 : List Oper} (hn : Nat.beq l0.length n = true) {h0 : Heap} {H1 : List Chunk} {done done' idx : List Nat} {o : Oper} {l : List Oper} (hx : autoGo sl l0 0 done = some (o :: l, idx, done'))
    (hs : (Region.noSelect l0.toArray && takeOkC l0.toArray (l0.length - done.length) done idx) = true) (hh : Heap.le h0 h) (hd : SubH H1 H)
    (g : G E (.ops (.held h H1) l0.toArray (o :: l) :: .back h H :: .any h H1 l0.toArray done' :: k) f h H1) : G E (.any h0 [] l0.toArray done :: k) f h H := by
  obtain ⟨p1, p2⟩ := autoGo_spec (l0 := l0) l0 0 done _ _ _ hx (fun j => by simp)
  exact G.anyTake p1 p2 hs hh (SubH.nil _) hd g
end
end Go.Proofs.YtibkffoeioidlaaDoor
