/- Walk of tlv.Bool. -/
import Derived.Test.YtpcfnhjeacahdaaTlvN
namespace Go.Proofs.Ytpcfnhjeacahdaa
set_option linter.all false
open Go.RowKit

end Go.Proofs.Ytpcfnhjeacahdaa
