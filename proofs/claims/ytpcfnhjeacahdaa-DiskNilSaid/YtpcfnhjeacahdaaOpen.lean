/- What comes in, as the light walk's rows. -/
import Derived.Test.YtpcfnhjeacahdaaLaw
import Derived.Test.YtpcfnhjeacahdaaLtM
import Derived.ProofKit
import Derived.OpenShut
import Derived.SliceStrings
import Derived.ShutString
namespace Go.Proofs.Ytpcfnhjeacahdaa
set_option linter.all false
open Go.RowKit

end Go.Proofs.Ytpcfnhjeacahdaa
