/- Rules of the light walk: a row that is cut, and grows within its room. -/
import Derived.Test.YtfmekdmpghhegaaDoorLtN
import Derived.Laws.StructEq
import Derived.KernelRfl
namespace Go.Proofs.YtfmekdmpghhegaaDoor
set_option linter.all false
set_option maxRecDepth 4000
open Go.RowKit

section
variable {E : Env} {k : List It} {f : Fr} {h : Heap} {H Hr : List Chunk} {st : Md} [hmd : OkMd st h H] {all : Array Oper} {rest : List Oper} {d : Nat} {ty : TypeId} {pos : String} {aft : Array Edge}

theorem G.sliceSl {t e : TypeId} {x : Operand} {lo hi : Option Operand} {A : Option Addr} {n cap : Nat} {a b : Int} {td : TD} {sz by_ sz1 by1 : Nat} {z z1 : Value} (hx : ev f x = some (.slice A n cap)) (hlo : optI f lo 0 = some a) (hhi : optI f hi n = some b)
    (ht : Ty E.P t (.slice e) sz1 by1 z1) (he : Ty E.P e td sz by_ z) (hd : Nat.blt d E.n = true) {a' b' : Nat} (ha' : a.toNat = a') (hb' : b.toNat = b') (hb : 0 <= a /\ a <= b /\ b <= cap)
    (g : G E (.ops st all rest :: k) ((d, .slice (if cap = a' then A else A.map (·.add (a' * sz))) (b' - a') (cap - a')) :: f) h H) :
    G E (.ops st all (⟨some d, .slice t x lo hi none, ty, pos, aft, none⟩ :: rest) :: k) f h H := by
  subst ha' hb'
  refine G.opVal hd (fun _ ac w ha _ => ?_) g
  have hu := ht.fits
  simp only [TD.fits] at hu
  obtain ⟨i, hi1, hi2, hi3, hi4⟩ := he.info
  subst hi2
  have hs : ∀ {kd : IntKind} {q : Int} {y : Nat} {c : BoundsCode}, 0 <= q /\ q <= y -> (Instr.sliceBound (.int kd q) y c).run E.P w = .ok q.toNat w := fun hq => sliceBound_ok hq
  cases lo with
  | none =>
    simp only [optI, Option.some.injEq] at hlo
    subst hlo
    cases hi with
    | none =>
      simp only [optI, Option.some.injEq] at hhi
      subst hhi
      simp [execOp, Instr.sliceAt, Instr.slice, Instr.sliceBounds, ev_eq ha hx, run_underlying hu, sizeOf, typeInfo, hi1]
    | some y =>
      simp only [optI] at hhi
      split at hhi
      . rename_i kd q hy
        simp at hhi
        subst hhi
        have h1 := hs (kd := kd) (q := q) (y := cap) (c := .sliceAcap) (by omega)
        simp [execOp, Instr.sliceAt, Instr.slice, Instr.sliceBounds, ev_eq ha hx, ev_eq ha hy, run_underlying hu, sizeOf, typeInfo, hi1, h1]
      . cases hhi
  | some u =>
    simp only [optI] at hlo
    split at hlo
    . rename_i kl ql hl
      simp at hlo
      subst hlo
      cases hi with
      | none =>
        simp only [optI, Option.some.injEq] at hhi
        subst hhi
        have h1 := hs (kd := kl) (q := ql) (y := n) (c := .sliceB) (by omega)
        simp [execOp, Instr.sliceAt, Instr.slice, Instr.sliceBounds, ev_eq ha hx, ev_eq ha hl, run_underlying hu, sizeOf, typeInfo, hi1, h1]
      | some y =>
        simp only [optI] at hhi
        split at hhi
        . rename_i kd q hy
          simp at hhi
          subst hhi
          have h1 := hs (kd := kd) (q := q) (y := cap) (c := .sliceAcap) (by omega)
          have h2 := hs (kd := kl) (q := ql) (y := q.toNat) (c := .sliceB) (by omega)
          simp [execOp, Instr.sliceAt, Instr.slice, Instr.sliceBounds, ev_eq ha hx, ev_eq ha hy, ev_eq ha hl, run_underlying hu, sizeOf, typeInfo, hi1, h1, h2]
        . cases hhi
    . cases hlo
theorem pre_eq (A : Option Addr) (cap sz : Nat) : (if cap = 0 then A else A.map (·.add (0 * sz))) = A := by
  split
  . rfl
  . cases A <;> simp [Addr.add]
theorem G.slicePre {t e : TypeId} {x y : Operand} {A : Option Addr} {n cap : Nat} {b : Int} {kd : IntKind} {td : TD} {sz by_ sz1 by1 : Nat} {z z1 : Value} (hx : ev f x = some (.slice A n cap)) (hy : ev f y = some (.int kd b))
    (ht : Ty E.P t (.slice e) sz1 by1 z1) (he : Ty E.P e td sz by_ z) (hd : Nat.blt d E.n = true) {b' : Nat} (hb' : b.toNat = b') (hb : 0 <= b /\ b <= cap)
    (g : G E (.ops st all rest :: k) ((d, .slice A b' cap) :: f) h H) :
    G E (.ops st all (⟨some d, .slice t x none (some y) none, ty, pos, aft, none⟩ :: rest) :: k) f h H := by
  refine G.sliceSl (a := 0) (a' := 0) hx rfl (b := b) (by simp [optI, hy]) ht he hd rfl hb' ⟨Int.le_refl _, hb.1, hb.2⟩ ?_
  rw [pre_eq, Nat.sub_zero, Nat.sub_zero]
  exact g
end

section
variable {E : Env} {k : List It} {f : Fr} {h : Heap} {H Hr : List Chunk} {all : Array Oper} {rest : List Oper} {d : Nat} {ty : TypeId} {pos : String} {aft : Array Edge}

end
theorem HSl.cut {h : Heap} {A : Option Addr} {n c sz : Nat} {rows : List (List Value)} (s : HSl h (.slice A n c) sz rows) (i : Nat) (hi : i <= rows.length) : HSl h (.slice A i c) sz (rows.take i) := by
  obtain ⟨A', c', e, h2, h3, h4⟩ := s.form
  simp only [Value.slice.injEq] at e
  obtain ⟨rfl, rfl, rfl⟩ := e
  have hl : (rows.take i).length = i := by rw [List.length_take]; omega
  refine ⟨fun r hr => s.rowed r (List.mem_of_mem_take hr), A, c, by rw [hl], by omega, h3, fun hne => ?_⟩
  obtain ⟨ad, h5, h6⟩ := h4 (fun e => hne (by rw [e]; simp))
  refine ⟨ad, h5, fun j u hj => h6 j u ?_⟩
  have e1 : rows.flatten = (rows.take i).flatten ++ (rows.drop i).flatten := by rw [<- List.flatten_append, List.take_append_drop]
  rw [e1, List.getElem?_append_left (List.getElem?_eq_some_iff.1 hj).1]
  exact hj
theorem HSl.tail {h : Heap} {A : Option Addr} {n c sz : Nat} {rows : List (List Value)} (s : HSl h (.slice A n c) sz rows) (i : Nat) (hi : i <= rows.length) : HSl h (.slice (if c = i then A else A.map (·.add (i * sz))) (n - i) (c - i)) sz (rows.drop i) := by
  obtain ⟨A', c', e, h2, h3, h4⟩ := s.form
  simp only [Value.slice.injEq] at e
  obtain ⟨rfl, rfl, rfl⟩ := e
  have hl : (rows.drop i).length = rows.length - i := List.length_drop
  have hrw : Rowed sz (rows.drop i) := fun r hr => s.rowed r (List.mem_of_mem_drop hr)
  refine ⟨hrw, _, c - i, by rw [hl], by omega, by omega, fun hne => ?_⟩
  have hil : i < rows.length := by
    rcases Nat.lt_or_ge i rows.length with h7 | h7
    . exact h7
    . exact absurd (List.drop_eq_nil_of_le h7) hne
  obtain ⟨ad, rfl, h6⟩ := h4 (fun e => by subst e; simp at hil)
  rw [if_neg (by omega)]
  refine ⟨ad.add (i * sz), rfl, fun j u hj => ?_⟩
  rw [add_add_]
  refine h6 _ u ?_
  have e1 : rows.flatten = (rows.take i).flatten ++ (rows.drop i).flatten := by rw [<- List.flatten_append, List.take_append_drop]
  have hf : (rows.take i).flatten.length = i * sz := by
    rw [flatten_length (fun r hr => s.rowed r (List.mem_of_mem_take hr)), List.length_take, Nat.min_eq_left hi]
  rw [e1, List.getElem?_append_right (by omega), hf, Nat.add_sub_cancel_left]
  exact hj
end Go.Proofs.YtfmekdmpghhegaaDoor
namespace Go.Proofs.YtfmekdmpghhegaaDoor
set_option linter.all false
set_option maxRecDepth 4000
open Go.RowKit

inductive EqC : TD -> Value -> Value -> Bool -> Prop
  | str {a b : List UInt8} : EqC .str (str a) (str b) (decide (a = b))
  | int {k : IntKind} {a b : Int} : EqC (.int k) (.int k a) (.int k b) (decide (a = b))
  | bool {a b : Bool} : EqC .bool (.bool a) (.bool b) (a == b)
inductive EqF (P : Program) : List TypeId -> List Value -> List Value -> Bool -> Prop
  | nil : EqF P [] [] [] true
  | cons {t : TypeId} {td : TD} {by_ : Nat} {z x y : Value} {b r : Bool} {ts : List TypeId} {xs ys : List Value} : Ty P t td 1 by_ z -> EqC td x y b -> EqF P ts xs ys r -> EqF P (t :: ts) (x :: xs) (y :: ys) (b && r)
def flatB : List Field -> Nat -> List TypeId -> Bool
  | [], _, [] => true
  | f :: fl, i, t :: ts => Nat.beq f.offset i && Nat.beq f.type t && (f.name != "_") && flatB fl (i + 1) ts
  | _, _, _ => false
structure FlatOk (P : Program) (t : TypeId) (ts : List TypeId) : Prop where
  s : P.underlying t = some (.struct (P.fieldsOf t))
  fl : flatB (P.fieldsOf t).toList 0 ts = true
  st : P.stoodInHeld t = false
  gd : P.eqGuardType P.depth t = false

section
variable {E : Env} {k : List It} {f : Fr} {h : Heap} {H Hr : List Chunk} {st : Md} [hmd : OkMd st h H] {all : Array Oper} {rest : List Oper} {d : Nat} {ty : TypeId} {pos : String} {aft : Array Edge}
end
section
variable {E : Env} {k : List It} {f : Fr} {h : Heap} {H Hr : List Chunk}
end
end Go.Proofs.YtfmekdmpghhegaaDoor
