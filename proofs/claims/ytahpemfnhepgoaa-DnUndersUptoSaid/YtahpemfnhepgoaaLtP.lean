/- Rules of the light walk: == of structs whose fields are texts, numbers, truths; what an own row's value looks like. -/
import Derived.Test.YtahpemfnhepgoaaLtO
import Derived.Laws.StructEq
import Derived.KernelRfl
namespace Go.Proofs.Ytahpemfnhepgoaa
set_option linter.all false
set_option maxRecDepth 4000
open Go.RowKit

inductive EqC : TD -> Value -> Value -> Bool -> Prop
  | str {a b : List UInt8} : EqC .str (str a) (str b) (decide (a = b))
  | int {k : IntKind} {a b : Int} : EqC (.int k) (.int k a) (.int k b) (decide (a = b))
  | bool {a b : Bool} : EqC .bool (.bool a) (.bool b) (a == b)
inductive EqF (P : Program) : List TypeId -> List Value -> List Value -> Bool -> Prop
  | nil : EqF P [] [] [] true
  | cons {t : TypeId} {td : TD} {by_ : Nat} {z x y : Value} {b r : Bool} {ts : List TypeId} {xs ys : List Value} : Ty P t td 1 by_ z -> EqC td x y b -> EqF P ts xs ys r -> EqF P (t :: ts) (x :: xs) (y :: ys) (b && r)
def flatB : List Field -> Nat -> List TypeId -> Bool
  | [], _, [] => true
  | f :: fl, i, t :: ts => Nat.beq f.offset i && Nat.beq f.type t && (f.name != "_") && flatB fl (i + 1) ts
  | _, _, _ => false
structure FlatOk (P : Program) (t : TypeId) (ts : List TypeId) : Prop where
  s : P.underlying t = some (.struct (P.fieldsOf t))
  fl : flatB (P.fieldsOf t).toList 0 ts = true
  st : P.stoodInHeld t = false
  gd : P.eqGuardType P.depth t = false

theorem eqC_run {P : Program} {t : TypeId} {td : TD} {by_ : Nat} {z x y : Value} {b : Bool} (ht : Ty P t td 1 by_ z) (hc : EqC td x y b) (d : Nat) (w : World) : (Op.equalIn (d + 1) t x y).run P w = .ok b w := by
  have hu := ht.fits
  cases hc with
  | str =>
    rename_i a b
    rw [show str a = Value.string ⟨a.toArray⟩ from rfl, show str b = Value.string ⟨b.toArray⟩ from rfl, run_equalIn_string w d t _ _ hu, ba_toList, ba_toList]
    by_cases h : a = b <;> simp [h]
  | int =>
    rename_i k a b
    rw [run_equalIn_int w d t _ k a b hu]
    by_cases h : a = b <;> simp [h]
  | bool => rename_i a b; exact run_equalIn_bool w d t a b hu
theorem eqC_flat {td : TD} {x y : Value} {b : Bool} (hc : EqC td x y b) : td.isAgg = false /\ td.known = true := by cases hc <;> exact ⟨rfl, rfl⟩
theorem part_flat {P : Program} {t : TypeId} {td : TD} {by_ : Nat} {z x : Value} (ht : Ty P t td 1 by_ z) (ha : td.isAgg = false) (hk : td.known = true) {cs : List Value} {i : Nat} (hx : cs[i]? = some x) (w : World) : (part t cs.toArray i).run P w = .ok x w := by
  simp [part, run_isAgg' ht hk, ha, hx]
theorem eqFields_flat {P : Program} (d : Nat) (w : World) : ∀ (fl : List Field) (ts : List TypeId) (pre pre' xs ys : List Value) (r : Bool), EqF P ts xs ys r -> flatB fl pre.length ts = true -> pre.length = pre'.length →
    (Op.eqFields (d + 1) (pre ++ xs).toArray (pre' ++ ys).toArray fl).run P w = .ok r w
  | [], _, _, _, _, _, r, hr, hf, _ => by
    cases hr with
    | nil => simp [Op.eqFields]
    | cons => simp [flatB] at hf
  | f :: fl, _, pre, pre', _, _, r, hr, hf, hl => by
    cases hr with
    | nil => simp [flatB] at hf
    | cons ht hc hr =>
      rename_i t td by_ z x y b r ts xs ys
      simp only [flatB, Bool.and_eq_true, bne_iff_ne, ne_eq] at hf
      obtain ⟨⟨⟨h1, h2⟩, h3⟩, h4⟩ := hf
      have e1 := Nat.eq_of_beq_eq_true h1
      have e2 := Nat.eq_of_beq_eq_true h2
      obtain ⟨ha, hk⟩ := eqC_flat hc
      have p1 : (part f.type (pre ++ x :: xs).toArray f.offset).run P w = .ok x w := by rw [e1, e2]; exact part_flat ht ha hk (by simp) w
      have p2 : (part f.type (pre' ++ y :: ys).toArray f.offset).run P w = .ok y w := by rw [e1, e2]; exact part_flat ht ha hk (by rw [hl]; simp) w
      have p3 : (Op.equalIn (d + 1) f.type x y).run P w = .ok b w := by rw [e2]; exact eqC_run ht hc d w
      have ih := eqFields_flat d w fl ts (pre ++ [x]) (pre' ++ [y]) xs ys r hr (by simpa using h4) (by simp [hl])
      simp only [List.append_assoc, List.cons_append, List.nil_append] at ih
      simp only [Op.eqFields, h3, ne_eq, not_false_eq_true, if_true, Sem.run_bind, p1, p2, p3, Result.andThen_ok]
      cases b with
      | true => simpa using ih
      | false => simp
section
variable {E : Env} {k : List It} {f : Fr} {h : Heap} {H Hr : List Chunk} {st : Md} [hmd : OkMd st h H] {all : Array Oper} {rest : List Oper} {d : Nat} {ty : TypeId} {pos : String} {aft : Array Edge}
theorem equal_flat {P : Program} {t : TypeId} {ts : List TypeId} {xs ys : List Value} {r : Bool} (hk : FlatOk P t ts) (hr : EqF P ts xs ys r) (w : World) : (Op.equalIn 10000 t (.agg xs.toArray) (.agg ys.toArray)).run P w = .ok r w := by
  rw [show (10000 : Nat) = 9999 + 1 from rfl, run_equalIn_agg w 9999 t _ _ hk.s hk.st]
  exact eqFields_flat 9998 w _ ts [] [] xs ys r hr hk.fl rfl
theorem G.neAgg {t t' : TypeId} {x y : Operand} {xs ys : List Value} {ts : List TypeId} {r : Bool} (hx : ev f x = some (.agg xs.toArray)) (hy : ev f y = some (.agg ys.toArray)) (hk : FlatOk E.P t ts) (hr : EqF E.P ts xs ys r) (hd : Nat.blt d E.n = true)
    (g : G E (.ops st all rest :: k) ((d, .bool (!r)) :: f) h H) :
    G E (.ops st all (⟨some d, .binOp .neq t x y t', ty, pos, aft, none⟩ :: rest) :: k) f h H := by
  refine G.opVal hd (fun _ a w ha _ => ?_) g
  have h1 := equal_flat hk hr w
  have h2 := fun o1 o2 => run_eqGuard_agg (P := E.P) w .neq t o1 o2 xs.toArray ys.toArray hk.gd
  have h3 := run_neq_struct (P := E.P) w t xs.toArray ys.toArray
  simp only [execOp, ev_eq ha hx, ev_eq ha hy, Sem.run_bind, h2, h3, h1, Result.andThen_ok, Sem.run_pure]
end
section
variable {E : Env} {k : List It} {f : Fr} {h : Heap} {H Hr : List Chunk}
end
end Go.Proofs.Ytahpemfnhepgoaa
