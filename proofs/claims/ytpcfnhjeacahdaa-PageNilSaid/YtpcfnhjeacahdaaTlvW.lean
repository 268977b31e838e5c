/- What is written is read: plain laws; TlvBack. -/
import Derived.Test.YtpcfnhjeacahdaaTlvV
import Derived.Test.YtpcfnhjeacahdaaTlvD
namespace Go.Proofs.Ytpcfnhjeacahdaa
set_option linter.all false
open Go.RowKit

mutual
end

end Go.Proofs.Ytpcfnhjeacahdaa
