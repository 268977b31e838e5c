/- Plain laws of numbers in two's complement. -/
import Derived.Test.YtpcfnhjeacahdaaTlvB
import Derived.Test.YtpcfnhjeacahdaaTlvR
namespace Go.Proofs.Ytpcfnhjeacahdaa
set_option linter.all false
open Go.RowKit

end Go.Proofs.Ytpcfnhjeacahdaa
