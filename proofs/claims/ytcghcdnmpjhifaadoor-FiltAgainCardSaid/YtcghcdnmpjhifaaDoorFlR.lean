/- Filters: the reference's is, bad, item. -/
import Derived.Test.YtcghcdnmpjhifaaDoorFlF
import Derived.Test.YtcghcdnmpjhifaaDoorOcB
namespace Go.Proofs.YtcghcdnmpjhifaaDoor
set_option linter.all false
open Go.RowKit

/-- What is ahead of it, and the part that is begun. -/
def combS (P : List (List UInt8)) (B : List UInt8) : Option (List (List UInt8) × List UInt8) → Option (List (List UInt8) × List UInt8)
  | none => none
  | some ([], r) => some (P ++ [B], r)
  | some (p :: ps, r) => some (P ++ (B ++ p) :: ps, r)
theorem scanM_ne (s : List UInt8) : ∀ r, scanM s ≠ some ([], r) := fun r h => (scanM_len h).2 rfl
end Go.Proofs.YtcghcdnmpjhifaaDoor
