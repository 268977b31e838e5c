/- The reference's Parse and Whole: the same as those of tlv. -/
import Derived.Test.YtpcfnhjeacahdaaTlvE
namespace Go.Proofs.Ytpcfnhjeacahdaa
set_option linter.all false
open Go.RowKit

end Go.Proofs.Ytpcfnhjeacahdaa
