/- Rules of access, in plain Lean. -/
import Derived.Test.YtfmekdmpghhegaaDnV
namespace Go.Proofs.Ytfmekdmpghhegaa
set_option linter.all false
set_option maxRecDepth 4000
open Go.RowKit

/-- A rule: whom it speaks of, a name, where, of which attribute, which rights, whether they are given. -/
structure Rl where
  who : Int
  dn : List UInt8
  wh : List UInt8
  attr : List UInt8
  rights : Int
  allow : Bool
def okRight (right : Int) : Prop := right = 1 ∨ right = 2 ∨ right = 4 ∨ right = 8
instance (right : Int) : Decidable (okRight right) := by unfold okRight; infer_instance
/-- Who and which entry, and the right, may be asked for. -/
def askM (who entry : Dn) (right : Int) : Prop := (printM who).2 = 0 ∧ (printM entry).2 = 0 ∧ okRight right
instance (who entry : Dn) (right : Int) : Decidable (askM who entry right) := by unfold askM; infer_instance
end Go.Proofs.Ytfmekdmpghhegaa
