/- Rules of the light walk: a row that is cut, and grows within its room. -/
import Derived.Test.YtahpemfnhepgoaaLtN
namespace Go.Proofs.Ytahpemfnhepgoaa
set_option linter.all false
set_option maxRecDepth 4000
open Go.RowKit

theorem row_cut {w : World} {g n cap e sz i : Nat} {rows : List (List Value)} (hr : (Chunk.row (.slice (some ⟨g, 0, none⟩) n cap) e sz rows).holds w) (hi : i <= rows.length) : (Chunk.row (.slice (some ⟨g, 0, none⟩) i cap) e sz (rows.take i)).holds w := by
  have hl : (rows.take i).length = i := by rw [List.length_take]; omega
  have hw : Rowed sz (rows.take i) := fun r hm => hr.1 r (List.mem_of_mem_take hm)
  rcases hr.2 with ⟨h0, _⟩ | ⟨g', cap', cur, fz, hv, hg, hu, hnc, hcm, hcs, htk⟩
  . simp at h0
  . simp only [Value.slice.injEq, Option.some.injEq, Addr.mk.injEq, and_true] at hv
    obtain ⟨rfl, rfl, rfl⟩ := hv
    refine ⟨hw, .inr ⟨g, cap, cur, fz, by rw [hl], hg, hu, by omega, hcm, hcs, ?_⟩⟩
    have hf := flatten_length hw
    have e1 : rows.flatten = (rows.take i).flatten ++ (rows.drop i).flatten := by rw [<- List.flatten_append, List.take_append_drop]
    rw [hl]
    rw [hl] at hf
    have h2 : cur.toList.take (i * sz) = (cur.toList.take (rows.length * sz)).take (i * sz) := by
      rw [List.take_take, Nat.min_eq_left (Nat.mul_le_mul_right _ hi)]
    rw [h2, htk, e1, List.take_left' hf]
section
variable {E : Env} {k : List It} {f : Fr} {h : Heap} {H Hr : List Chunk} {st : Md} [hmd : OkMd st h H] {all : Array Oper} {rest : List Oper} {d : Nat} {ty : TypeId} {pos : String} {aft : Array Edge}

theorem G.sliceSl {t e : TypeId} {x : Operand} {lo hi : Option Operand} {A : Option Addr} {n cap : Nat} {a b : Int} {td : TD} {sz by_ sz1 by1 : Nat} {z z1 : Value} (hx : ev f x = some (.slice A n cap)) (hlo : optI f lo 0 = some a) (hhi : optI f hi n = some b)
    (ht : Ty E.P t (.slice e) sz1 by1 z1) (he : Ty E.P e td sz by_ z) (hd : Nat.blt d E.n = true) {a' b' : Nat} (ha' : a.toNat = a') (hb' : b.toNat = b') (hb : 0 <= a /\ a <= b /\ b <= cap)
    (g : G E (.ops st all rest :: k) ((d, .slice (if cap = a' then A else A.map (·.add (a' * sz))) (b' - a') (cap - a')) :: f) h H) :
    G E (.ops st all (⟨some d, .slice t x lo hi none, ty, pos, aft, none⟩ :: rest) :: k) f h H := by
  subst ha' hb'
  refine G.opVal hd (fun _ ac w ha _ => ?_) g
  have hu := ht.fits
  simp only [TD.fits] at hu
  obtain ⟨i, hi1, hi2, hi3, hi4⟩ := he.info
  subst hi2
  have hs : ∀ {kd : IntKind} {q : Int} {y : Nat} {c : BoundsCode}, 0 <= q /\ q <= y -> (Instr.sliceBound (.int kd q) y c).run E.P w = .ok q.toNat w := fun hq => sliceBound_ok hq
  cases lo with
  | none =>
    simp only [optI, Option.some.injEq] at hlo
    subst hlo
    cases hi with
    | none =>
      simp only [optI, Option.some.injEq] at hhi
      subst hhi
      simp [execOp, Instr.sliceAt, Instr.slice, Instr.sliceBounds, ev_eq ha hx, run_underlying hu, sizeOf, typeInfo, hi1]
    | some y =>
      simp only [optI] at hhi
      split at hhi
      . rename_i kd q hy
        simp at hhi
        subst hhi
        have h1 := hs (kd := kd) (q := q) (y := cap) (c := .sliceAcap) (by omega)
        simp [execOp, Instr.sliceAt, Instr.slice, Instr.sliceBounds, ev_eq ha hx, ev_eq ha hy, run_underlying hu, sizeOf, typeInfo, hi1, h1]
      . cases hhi
  | some u =>
    simp only [optI] at hlo
    split at hlo
    . rename_i kl ql hl
      simp at hlo
      subst hlo
      cases hi with
      | none =>
        simp only [optI, Option.some.injEq] at hhi
        subst hhi
        have h1 := hs (kd := kl) (q := ql) (y := n) (c := .sliceB) (by omega)
        simp [execOp, Instr.sliceAt, Instr.slice, Instr.sliceBounds, ev_eq ha hx, ev_eq ha hl, run_underlying hu, sizeOf, typeInfo, hi1, h1]
      | some y =>
        simp only [optI] at hhi
        split at hhi
        . rename_i kd q hy
          simp at hhi
          subst hhi
          have h1 := hs (kd := kd) (q := q) (y := cap) (c := .sliceAcap) (by omega)
          have h2 := hs (kd := kl) (q := ql) (y := q.toNat) (c := .sliceB) (by omega)
          simp [execOp, Instr.sliceAt, Instr.slice, Instr.sliceBounds, ev_eq ha hx, ev_eq ha hy, ev_eq ha hl, run_underlying hu, sizeOf, typeInfo, hi1, h1, h2]
        . cases hhi
    . cases hlo
theorem pre_eq (A : Option Addr) (cap sz : Nat) : (if cap = 0 then A else A.map (·.add (0 * sz))) = A := by
  split
  . rfl
  . cases A <;> simp [Addr.add]
theorem G.slicePre {t e : TypeId} {x y : Operand} {A : Option Addr} {n cap : Nat} {b : Int} {kd : IntKind} {td : TD} {sz by_ sz1 by1 : Nat} {z z1 : Value} (hx : ev f x = some (.slice A n cap)) (hy : ev f y = some (.int kd b))
    (ht : Ty E.P t (.slice e) sz1 by1 z1) (he : Ty E.P e td sz by_ z) (hd : Nat.blt d E.n = true) {b' : Nat} (hb' : b.toNat = b') (hb : 0 <= b /\ b <= cap)
    (g : G E (.ops st all rest :: k) ((d, .slice A b' cap) :: f) h H) :
    G E (.ops st all (⟨some d, .slice t x none (some y) none, ty, pos, aft, none⟩ :: rest) :: k) f h H := by
  refine G.sliceSl (a := 0) (a' := 0) hx rfl (b := b) (by simp [optI, hy]) ht he hd rfl hb' ⟨Int.le_refl _, hb.1, hb.2⟩ ?_
  rw [pre_eq, Nat.sub_zero, Nat.sub_zero]
  exact g
end

theorem Src.cutRow {P : Program} {h : Heap} {H Hr : List Chunk} {sz e g n cap j : Nat} {rows : List (List Value)} (ht : Take (.row (.slice (some ⟨g, 0, none⟩) n cap) e sz rows) H Hr) (hj : j <= rows.length) :
    Src P h H sz (.slice (if cap = j then some ⟨g, 0, none⟩ else (some (⟨g, 0, none⟩ : Addr)).map (·.add (j * sz))) (n - j) (cap - j)) (rows.drop j) := by
  intro cx w s w' hh
  have hr := s.own _ ht.mem
  obtain ⟨A, c', hf, _, _⟩ := row_form hr
  injection hf with e1 e2 e3
  subst e2
  have hl : (rows.drop j).length = rows.length - j := List.length_drop
  have hw1 : Rowed sz (rows.take j) := fun r hm => hr.1 r (List.mem_of_mem_take hm)
  have hw2 : Rowed sz (rows.drop j) := fun r hm => hr.1 r (List.mem_of_mem_drop hm)
  have hl1 := flatten_length hw1
  rw [List.length_take, Nat.min_eq_left hj] at hl1
  have ef : rows.flatten = (rows.take j).flatten ++ (rows.drop j).flatten := by rw [<- List.flatten_append, List.take_append_drop]
  refine ⟨by simp [Builtin.lenOf, hl], ?_⟩
  rw [hl]
  by_cases hc : cap = j
  . rw [if_pos hc]
    have h0 : rows.drop j = [] := by
      rcases hr.2 with ⟨h0, _⟩ | ⟨g', cap', cur, fz, hv, hg, hu, hnc, _⟩
      . simp at h0
      . simp only [Value.slice.injEq, Option.some.injEq, Addr.mk.injEq, and_true, true_and] at hv
        obtain ⟨rfl, rfl⟩ := hv
        exact List.drop_eq_nil_of_le (by omega)
    refine run_firstCells_some w' sz (rows.length - j) ⟨g, 0, none⟩ (rows.length - j) (cap - j) (rows.drop j).flatten (by rw [flatten_length hw2, hl]) fun q v hq => ?_
    rw [h0] at hq; simp at hq
  . rw [if_neg hc, Option.map_some]
    refine run_firstCells_some w' sz (rows.length - j) _ (rows.length - j) (cap - j) (rows.drop j).flatten (by rw [flatten_length hw2, hl]) fun q v hq => ?_
    rw [add_add_, Addr.add_lit, Nat.zero_add, cell_heap hh]
    refine (row_cells hr).2 (j * sz + q) v ?_
    rw [ef, List.getElem?_append_right (by omega), hl1, Nat.add_sub_cancel_left]
    exact hq

section
variable {E : Env} {k : List It} {f : Fr} {h : Heap} {H Hr : List Chunk} {all : Array Oper} {rest : List Oper} {d : Nat} {ty : TypeId} {pos : String} {aft : Array Edge}

end
theorem HSl.cut {h : Heap} {A : Option Addr} {n c sz : Nat} {rows : List (List Value)} (s : HSl h (.slice A n c) sz rows) (i : Nat) (hi : i <= rows.length) : HSl h (.slice A i c) sz (rows.take i) := by
  obtain ⟨A', c', e, h2, h3, h4⟩ := s.form
  simp only [Value.slice.injEq] at e
  obtain ⟨rfl, rfl, rfl⟩ := e
  have hl : (rows.take i).length = i := by rw [List.length_take]; omega
  refine ⟨fun r hr => s.rowed r (List.mem_of_mem_take hr), A, c, by rw [hl], by omega, h3, fun hne => ?_⟩
  obtain ⟨ad, h5, h6⟩ := h4 (fun e => hne (by rw [e]; simp))
  refine ⟨ad, h5, fun j u hj => h6 j u ?_⟩
  have e1 : rows.flatten = (rows.take i).flatten ++ (rows.drop i).flatten := by rw [<- List.flatten_append, List.take_append_drop]
  rw [e1, List.getElem?_append_left (List.getElem?_eq_some_iff.1 hj).1]
  exact hj
theorem HSl.tail {h : Heap} {A : Option Addr} {n c sz : Nat} {rows : List (List Value)} (s : HSl h (.slice A n c) sz rows) (i : Nat) (hi : i <= rows.length) : HSl h (.slice (if c = i then A else A.map (·.add (i * sz))) (n - i) (c - i)) sz (rows.drop i) := by
  obtain ⟨A', c', e, h2, h3, h4⟩ := s.form
  simp only [Value.slice.injEq] at e
  obtain ⟨rfl, rfl, rfl⟩ := e
  have hl : (rows.drop i).length = rows.length - i := List.length_drop
  have hrw : Rowed sz (rows.drop i) := fun r hr => s.rowed r (List.mem_of_mem_drop hr)
  refine ⟨hrw, _, c - i, by rw [hl], by omega, by omega, fun hne => ?_⟩
  have hil : i < rows.length := by
    rcases Nat.lt_or_ge i rows.length with h7 | h7
    . exact h7
    . exact absurd (List.drop_eq_nil_of_le h7) hne
  obtain ⟨ad, rfl, h6⟩ := h4 (fun e => by subst e; simp at hil)
  rw [if_neg (by omega)]
  refine ⟨ad.add (i * sz), rfl, fun j u hj => ?_⟩
  rw [add_add_]
  refine h6 _ u ?_
  have e1 : rows.flatten = (rows.take i).flatten ++ (rows.drop i).flatten := by rw [<- List.flatten_append, List.take_append_drop]
  have hf : (rows.take i).flatten.length = i * sz := by
    rw [flatten_length (fun r hr => s.rowed r (List.mem_of_mem_take hr)), List.length_take, Nat.min_eq_left hi]
  rw [e1, List.getElem?_append_right (by omega), hf, Nat.add_sub_cancel_left]
  exact hj
end Go.Proofs.Ytahpemfnhepgoaa
