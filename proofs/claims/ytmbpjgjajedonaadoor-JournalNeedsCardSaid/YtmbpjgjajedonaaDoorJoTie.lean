/- The listed tables: nothing of them is asked. -/
import Derived.Test.YtmbpjgjajedonaaDoorRows
import Derived.Test.YtmbpjgjajedonaaDoorJoM
import Derived.Test.YtmbpjgjajedonaaDoorOpen
import Derived.ProofKit
import Derived.OpenShut
import Derived.LaidMore
import Derived.Stop.Joined
namespace Go.Proofs.YtmbpjgjajedonaaDoor
set_option linter.all false
set_option maxRecDepth 4000
open Go.ChangeShapes Go.WideShapes Go.ChangeAt Go.RowKit

abbrev laidL : List (String × DataW Unit) := [("unicode/utf8.acceptRanges", Rows.laid_unicode_utf8_acceptRanges), ("unicode/utf8.first", Rows.laid_unicode_utf8_first)]
theorem tabs_of {W : World} (_ : laidMetH Tryd.prog laidL W) : True := trivial
end Go.Proofs.YtmbpjgjajedonaaDoor
