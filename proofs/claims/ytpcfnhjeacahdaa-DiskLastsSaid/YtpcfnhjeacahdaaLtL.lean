/- Rules of the light walk: append, in the forms that are met most. -/
import Derived.Test.YtpcfnhjeacahdaaLtK
namespace Go.Proofs.Ytpcfnhjeacahdaa
set_option linter.all false
open Go.RowKit

section
variable {E : Env} {k : List It} {f : Fr} {h : Heap} {H H1 H2 Hr : List Chunk} {st : Md} [hmd : OkMd st h H] {all : Array Oper} {rest : List Oper} {d : Nat} {ty : TypeId} {pos : String} {aft : Array Edge}

end
end Go.Proofs.Ytpcfnhjeacahdaa
