/- What is written is read: plain laws; TlvBack. -/
import Derived.Test.YtpcfnhjeacahdaaTlvV
import Derived.Test.YtpcfnhjeacahdaaTlvD
namespace Go.Proofs.Ytpcfnhjeacahdaa
set_option linter.all false
open Go.RowKit

end Go.Proofs.Ytpcfnhjeacahdaa
