/- Rules of the light walk: == of structs whose fields are texts, numbers, truths; what an own row's value looks like. -/
import Derived.Test.YtmbpjgjajedonaaDoorLtO
import Derived.Laws.StructEq
import Derived.KernelRfl
namespace Go.Proofs.YtmbpjgjajedonaaDoor
set_option linter.all false
set_option maxRecDepth 4000
open Go.RowKit

inductive EqC : TD -> Value -> Value -> Bool -> Prop
  | str {a b : List UInt8} : EqC .str (str a) (str b) (decide (a = b))
  | int {k : IntKind} {a b : Int} : EqC (.int k) (.int k a) (.int k b) (decide (a = b))
  | bool {a b : Bool} : EqC .bool (.bool a) (.bool b) (a == b)
inductive EqF (P : Program) : List TypeId -> List Value -> List Value -> Bool -> Prop
  | nil : EqF P [] [] [] true
  | cons {t : TypeId} {td : TD} {by_ : Nat} {z x y : Value} {b r : Bool} {ts : List TypeId} {xs ys : List Value} : Ty P t td 1 by_ z -> EqC td x y b -> EqF P ts xs ys r -> EqF P (t :: ts) (x :: xs) (y :: ys) (b && r)
def flatB : List Field -> Nat -> List TypeId -> Bool
  | [], _, [] => true
  | f :: fl, i, t :: ts => Nat.beq f.offset i && Nat.beq f.type t && (f.name != "_") && flatB fl (i + 1) ts
  | _, _, _ => false
structure FlatOk (P : Program) (t : TypeId) (ts : List TypeId) : Prop where
  s : P.underlying t = some (.struct (P.fieldsOf t))
  fl : flatB (P.fieldsOf t).toList 0 ts = true
  st : P.stoodInHeld t = false
  gd : P.eqGuardType P.depth t = false

section
variable {E : Env} {k : List It} {f : Fr} {h : Heap} {H Hr : List Chunk} {st : Md} [hmd : OkMd st h H] {all : Array Oper} {rest : List Oper} {d : Nat} {ty : TypeId} {pos : String} {aft : Array Edge}
end
section
variable {E : Env} {k : List It} {f : Fr} {h : Heap} {H Hr : List Chunk}
end
end Go.Proofs.YtmbpjgjajedonaaDoor
