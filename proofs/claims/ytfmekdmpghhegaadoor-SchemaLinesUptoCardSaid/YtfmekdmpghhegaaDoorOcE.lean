/- octet.Prep, castellanref01.Prep: small letters, and no blank too many. -/
import Derived.Test.YtfmekdmpghhegaaDoorOcA
import Derived.Test.YtfmekdmpghhegaaDoorLtS
namespace Go.Proofs.YtfmekdmpghhegaaDoor
set_option linter.all false
set_option maxRecDepth 4000
open Go.RowKit

/-- What is written so far, and whether a blank waits. -/
def prS (x : List UInt8 × Bool) (c : UInt8) : List UInt8 × Bool := if c.toNat = 32 then (x.1, !x.1.isEmpty) else (x.1 ++ (if x.2 then [32] else []) ++ [c], false)
def prF (t : List UInt8) : List UInt8 × Bool := t.foldl prS ([], false)
def prepM (s : List UInt8) : List UInt8 := (prF (foldM s)).1
structure PrOk (x : List UInt8 × Bool) : Prop where
  wait : x.2 = true → x.1 ≠ []
  last : ∀ e, x.1.getLast? = some e → e.toNat ≠ 32
end Go.Proofs.YtfmekdmpghhegaaDoor
