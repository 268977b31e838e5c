/- The plain laws of a head. -/
import Derived.Test.YtpcfnhjeacahdaaTlvS
namespace Go.Proofs.Ytpcfnhjeacahdaa
set_option linter.all false
open Go.RowKit

end Go.Proofs.Ytpcfnhjeacahdaa
