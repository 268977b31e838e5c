/- Functions as values: made, and called. -/
import Derived.Test.YtmbpjgjajedonaaDoorLtM
namespace Go.Proofs.YtmbpjgjajedonaaDoor
set_option linter.all false
set_option maxRecDepth 4000
open Go.RowKit

section
variable {E : Env} {k : List It} {f : Fr} {h : Heap} {H : List Chunk} {st : Md} [hmd : OkMd st h H] {all : Array Oper} {rest : List Oper} {d : Nat} {ty : TypeId} {pos : String} {aft : Array Edge}

theorem G.makeFunc {g : FuncId} {fs cs : List Operand} {fv cv : List Value} (hf : evs f fs = some fv) (hc : evs f cs = some cv) (hd : Nat.blt d E.n = true)
    (next : G E (.ops st all rest :: k) ((d, .func (.func g) fv.toArray cv.toArray) :: f) h H) :
    G E (.ops st all (⟨some d, .makeFunc (.func g) fs.toArray cs.toArray, ty, pos, aft, none⟩ :: rest) :: k) f h H := by
  refine G.opVal hd (fun _ a w ha _ => ?_) next
  have h1 := evs_eq ha hf
  have h2 := evs_eq ha hc
  simp [execOp, Instr.makeFunc, h1, h2]
end
section
variable {E : Env} {k : List It} {f : Fr} {h : Heap} {H : List Chunk} {all : Array Oper} {rest : List Oper} {d : Nat} {ty : TypeId} {pos : String} {aft : Array Edge}

end
end Go.Proofs.YtmbpjgjajedonaaDoor
