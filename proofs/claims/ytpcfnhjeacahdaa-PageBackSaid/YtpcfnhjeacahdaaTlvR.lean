/- The reference's numbers. -/
import Derived.Test.YtpcfnhjeacahdaaTlvB
namespace Go.Proofs.Ytpcfnhjeacahdaa
set_option linter.all false
open Go.RowKit

end Go.Proofs.Ytpcfnhjeacahdaa
