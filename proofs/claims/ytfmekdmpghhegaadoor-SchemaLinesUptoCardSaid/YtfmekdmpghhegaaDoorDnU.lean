/- Names: dn.Join. -/
import Derived.Test.YtfmekdmpghhegaaDoorDnO
import Derived.Test.YtfmekdmpghhegaaDoorLtA
import Derived.Test.YtfmekdmpghhegaaDoorProg
import Derived.Ground.NamesProg
import Derived.Ground.Names8Prog
import Derived.Shelf.SlGeneric
import Derived.Shelf.Spec.SlicesGrow
namespace Go.Proofs.YtfmekdmpghhegaaDoor
set_option linter.all false
set_option maxRecDepth 4000
open Go.RowKit

theorem RdnsC.rowed {h : Heap} : ∀ {d : Dn} {rows : List (List Value)}, RdnsC h d rows → Rowed 1 rows
  | [], _, e, r, hr => by simp only [RdnsC] at e; subst e; simp at hr
  | _ :: _, _, ⟨v, rest, e, h1, h2⟩, r, hr => by
    subst e
    rcases List.mem_cons.1 hr with rfl | hr
    · rfl
    · exact h2.rowed r hr
end Go.Proofs.YtfmekdmpghhegaaDoor
