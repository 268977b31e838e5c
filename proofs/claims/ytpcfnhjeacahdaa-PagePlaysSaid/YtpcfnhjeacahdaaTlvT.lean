/- The reference's put and Put. -/
import Derived.Test.YtpcfnhjeacahdaaTlvS
import Derived.Test.YtpcfnhjeacahdaaTlvE
namespace Go.Proofs.Ytpcfnhjeacahdaa
set_option linter.all false
open Go.RowKit

end Go.Proofs.Ytpcfnhjeacahdaa
