/- Schemas that came in. -/
import Derived.Test.YtfmekdmpghhegaaRows
import Derived.Test.YtfmekdmpghhegaaLaw
import Derived.Test.YtfmekdmpghhegaaLtM
import Derived.ProofKit
import Derived.OpenShut
import Derived.SliceStrings
import Derived.ShutString
import Derived.ChangeArms
import Derived.Deep.Strs
import Derived.Test.YtfmekdmpghhegaaScM
namespace Go.Proofs.Ytfmekdmpghhegaa
set_option linter.all false
set_option maxRecDepth 4000
open Go.ChangeShapes Go.WideShapes Go.RowKit

section
variable {H : Type} {enc : TypeId × Value → H} {W : World}
end
/-- A schema whose names and lists are short enough. -/
structure ScB (T : List Ty4) (C : List Cls) : Prop where
  tn : T.length ≤ 10000000
  cn : C.length ≤ 10000000
  tl : ∀ t ∈ T, t.1.length ≤ 10000000
  cl : ∀ c ∈ C, c.1.length ≤ 10000000 ∧ c.2.1.length ≤ 10000000 ∧ c.2.2.2.1.length ≤ 10000000 ∧ c.2.2.2.2.length ≤ 10000000 ∧ (∀ n ∈ c.2.2.2.1, n.length ≤ 10000000) ∧ ∀ n ∈ c.2.2.2.2, n.length ≤ 10000000
theorem coreB : ScB coreT coreC := ⟨by decide, by decide, by decide +kernel, by decide +kernel⟩
end Go.Proofs.Ytfmekdmpghhegaa
