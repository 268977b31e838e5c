/- What comes in, as the light walk's rows. -/
import Derived.Test.YtcghcdnmpjhifaaDoorLaw
import Derived.Test.YtcghcdnmpjhifaaDoorLtM
import Derived.ProofKit
import Derived.OpenShut
import Derived.SliceStrings
import Derived.ShutString
namespace Go.Proofs.YtcghcdnmpjhifaaDoor
set_option linter.all false
open Go.RowKit

theorem string_eq (s : ByteArray) : Value.string s = str s.data.toList := by cases s; simp [str]
end Go.Proofs.YtcghcdnmpjhifaaDoor
