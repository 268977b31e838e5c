/- Names, in plain words: a name's text is read as the name. -/
import Derived.Test.YtfmekdmpghhegaaDoorDnO
namespace Go.Proofs.YtfmekdmpghhegaaDoor
set_option linter.all false
set_option maxRecDepth 4000
open Go.RowKit

/-- What stands for a value, without the last byte's rule: how many bytes. -/
def cst (f : Bool) (c : UInt8) : Nat := if c.toNat = 0 then 3 else if inN c.toNat esB = true ∨ (f = true ∧ (c.toNat = 32 ∨ c.toNat = 35)) then 2 else 1
end Go.Proofs.YtfmekdmpghhegaaDoor
namespace Go.Proofs.YtfmekdmpghhegaaDoor
set_option linter.all false
set_option maxRecDepth 4000
open Go.RowKit

-- folded twice, prepared twice
def cN : Bool → List UInt8 → Nat
  | _, [] => 0
  | f, c :: r => cst f c + cN false r
end Go.Proofs.YtfmekdmpghhegaaDoor
