/- Names: folded types and prepared values, sorted; castellanref09.plain, Norm. -/
import Derived.Test.YtfmekdmpghhegaaDoorDnJ
import Derived.Test.YtfmekdmpghhegaaDoorLtR
import Derived.Sort.Walk0
namespace Go.Proofs.YtfmekdmpghhegaaDoor
set_option linter.all false
set_option maxRecDepth 4000
open Go.RowKit

section
variable {E : Env} {k : List It} {f : Fr} {h : Heap} {H : List Chunk} {st : Md} [hmd : OkMd st h H] {all : Array Oper} {rest : List Oper} {d : Nat} {ty : TypeId} {pos : String} {aft : Array Edge}
end
/-- The plain form of a name. -/
structure PlainD (d p : Dn) : Prop where
  same : p.map (fun l => l.map avaT) = d.map fun r => sortM (r.map (fA true))
  w : dnW p ≤ dnW d
theorem PlainD.text {d p : Dn} (h : PlainD d p) : txt false p = txt true d := by
  have e1 : p.map (fR false) = (p.map fun l => l.map avaT).map fun l => Lib.join l [43] := by rw [List.map_map]; rfl
  have e2 : d.map (fR true) = (d.map fun r => sortM (r.map (fA true))).map fun l => Lib.join l [43] := by rw [List.map_map]; rfl
  unfold txt
  rw [e1, e2, h.same]
end Go.Proofs.YtfmekdmpghhegaaDoor
