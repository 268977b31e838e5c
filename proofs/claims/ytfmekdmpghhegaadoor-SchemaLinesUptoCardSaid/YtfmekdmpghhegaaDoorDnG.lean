/- Names: a value as it is written; dn.written, castellanref09.written. -/
import Derived.Test.YtfmekdmpghhegaaDoorDnB
import Derived.Test.YtfmekdmpghhegaaDoorOcD
import Derived.Test.YtfmekdmpghhegaaDoorLib
namespace Go.Proofs.YtfmekdmpghhegaaDoor
set_option linter.all false
set_option maxRecDepth 4000
open Go.RowKit

def esB : List UInt8 := [34, 43, 44, 59, 60, 62, 92]
/-- One byte of a value, the first one or not, the last one or not. -/
def wrU (first last : Bool) (c : UInt8) : List UInt8 := if c.toNat = 0 then [92, 48, 48] else if inN c.toNat esB = true ∨ (first = true ∧ (c.toNat = 32 ∨ c.toNat = 35)) ∨ (last = true ∧ c.toNat = 32) then [92, c] else [c]
def wrTo (v : List UInt8) : Nat → List UInt8
  | 0 => []
  | i + 1 => wrTo v i ++ (match v[i]? with | none => [] | some c => wrU (decide (i = 0)) (decide (i + 1 = v.length)) c)
def wrM (v : List UInt8) : List UInt8 := wrTo v v.length
end Go.Proofs.YtfmekdmpghhegaaDoor
