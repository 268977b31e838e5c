/- The reference's numbers: signed, Int, Number; TlvNumbers. -/
import Derived.Test.YtpcfnhjeacahdaaTlvM
import Derived.Test.YtpcfnhjeacahdaaTlvG
namespace Go.Proofs.Ytpcfnhjeacahdaa
set_option linter.all false
open Go.RowKit

end Go.Proofs.Ytpcfnhjeacahdaa
