/- Names, in plain words: a key is its own key. -/
import Derived.Test.YtfmekdmpghhegaaDnQ
namespace Go.Proofs.Ytfmekdmpghhegaa
set_option linter.all false
set_option maxRecDepth 4000
open Go.RowKit

-- folded twice, prepared twice
def cN : Bool → List UInt8 → Nat
  | _, [] => 0
  | f, c :: r => cst f c + cN false r
end Go.Proofs.Ytfmekdmpghhegaa
