/- Names: castellanref09.Parse. -/
import Derived.Test.YtahpemfnhepgoaaDnE
namespace Go.Proofs.Ytahpemfnhepgoaa
set_option linter.all false
open Go.RowKit

end Go.Proofs.Ytahpemfnhepgoaa
