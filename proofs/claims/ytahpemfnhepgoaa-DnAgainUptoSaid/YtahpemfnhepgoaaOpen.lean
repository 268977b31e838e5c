/- What comes in, as the light walk's rows. -/
import Derived.Test.YtahpemfnhepgoaaLaw
import Derived.Test.YtahpemfnhepgoaaLtM
import Derived.ProofKit
import Derived.OpenShut
import Derived.SliceStrings
import Derived.ShutString
namespace Go.Proofs.Ytahpemfnhepgoaa
set_option linter.all false
open Go.RowKit

theorem string_eq (s : ByteArray) : Value.string s = str s.data.toList := by cases s; simp [str]
end Go.Proofs.Ytahpemfnhepgoaa
