/- castellanref09.in, Type. -/
import Derived.Test.YtfmekdmpghhegaaOcB
namespace Go.Proofs.Ytfmekdmpghhegaa
set_option linter.all false
set_option maxRecDepth 4000
open Go.RowKit

def inN (c : Nat) (l : List UInt8) : Bool := l.any fun b => decide (b.toNat = c)
end Go.Proofs.Ytfmekdmpghhegaa
