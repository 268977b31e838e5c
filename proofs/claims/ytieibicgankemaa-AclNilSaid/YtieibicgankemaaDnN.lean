/- Names: castellanref09.Same; the chapter's examples; DnParses. -/
import Derived.Test.YtieibicgankemaaDnK
import Derived.Test.YtieibicgankemaaDnF
import Derived.Test.YtieibicgankemaaLtP
import Derived.KernelRfl
namespace Go.Proofs.Ytieibicgankemaa
set_option linter.all false
set_option maxRecDepth 4000
open Go.RowKit

theorem sortM_rising {L : List (List UInt8)} (h : L.Pairwise fun x y => decide (x ≤ y) = true) : sortM L = L := List.mergeSort_of_pairwise h
end Go.Proofs.Ytieibicgankemaa
