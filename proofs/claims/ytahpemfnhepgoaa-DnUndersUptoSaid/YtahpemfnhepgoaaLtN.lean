/- Functions as values: made, and called. -/
import Derived.Test.YtahpemfnhepgoaaLtM
namespace Go.Proofs.Ytahpemfnhepgoaa
set_option linter.all false
set_option maxRecDepth 4000
open Go.RowKit

section
variable {E : Env} {k : List It} {f : Fr} {h : Heap} {H : List Chunk} {st : Md} [hmd : OkMd st h H] {all : Array Oper} {rest : List Oper} {d : Nat} {ty : TypeId} {pos : String} {aft : Array Edge}

theorem G.makeFunc {g : FuncId} {fs cs : List Operand} {fv cv : List Value} (hf : evs f fs = some fv) (hc : evs f cs = some cv) (hd : Nat.blt d E.n = true)
    (next : G E (.ops st all rest :: k) ((d, .func (.func g) fv.toArray cv.toArray) :: f) h H) :
    G E (.ops st all (⟨some d, .makeFunc (.func g) fs.toArray cs.toArray, ty, pos, aft, none⟩ :: rest) :: k) f h H := by
  refine G.opVal hd (fun _ a w ha _ => ?_) next
  have h1 := evs_eq ha hf
  have h2 := evs_eq ha hc
  simp [execOp, Instr.makeFunc, h1, h2]
end
section
variable {E : Env} {k : List It} {f : Fr} {h : Heap} {H : List Chunk} {all : Array Oper} {rest : List Oper} {d : Nat} {ty : TypeId} {pos : String} {aft : Array Edge}

theorem G.callClo {g : FuncId} {fo : Operand} {fv cv : List Value} {xs : List Operand} {ts : Array TypeId} {vs : List Value} {H1 H2 : List Chunk} {R : Value -> Heap -> List Chunk -> Prop}
    (hfo : ev f fo = some (.func (.func g) fv.toArray cv.toArray)) (hc : Callable E.P g) (hx : evs f xs = some vs) (hd : Nat.blt d E.n = true) (sp : Spec E.P g (fv ++ vs ++ cv) h H1 R) (hH : Takes H1 H H2)
    (next : ∀ v h' H', R v h' H' -> Heap.le h h' -> G E (.ops .seq all rest :: k) ((d, v) :: f) h' (H' ++ H2)) :
    G E (.ops .seq all (⟨some d, .call { callee := .value fo, args := xs.toArray, argTypes := ts }, ty, pos, aft, none⟩ :: rest) :: k) f h H := by
  obtain ⟨fn, hf, hn, hb⟩ := hc
  refine G.callGen (fun a w ha _ => ?_) sp hH hd next
  have hm := evs_eq ha hx
  have he := ev_eq ha hfo
  simp [execOp, resolve, invoke, Deferred.ofValue, callFunc_run hf hn hb, hm, he]
end
end Go.Proofs.Ytahpemfnhepgoaa
