/- Names: is a type in an RDN? dn.has with its closure, slices.IndexFunc, ContainsFunc; castellanref09.has. -/
import Derived.Test.YtfmekdmpghhegaaDnA
import Derived.Test.YtfmekdmpghhegaaLtP
namespace Go.Proofs.Ytfmekdmpghhegaa
set_option linter.all false
set_option maxRecDepth 4000
open Go.RowKit

def sameT (a b : List UInt8) : Bool := decide (foldM a = foldM b)
def hasM (r : Rdn) (t : List UInt8) : Bool := r.any fun a => sameT a.1 t
/-- Rows that are only read, or one's own. -/
def RdL (h : Heap) (v : Value) (e sz : Nat) (rows : List (List Value)) (L : List Chunk) : Prop := (L = [] ∧ HSl h v sz rows) ∨ L = [.row v e sz rows]
theorem RdL.mono {h h' : Heap} {v : Value} {e sz : Nat} {rows : List (List Value)} {L : List Chunk} (r : RdL h v e sz rows L) (hl : Heap.le h h') : RdL h' v e sz rows L := r.imp (fun x => ⟨x.1, x.2.mono hl⟩) id
end Go.Proofs.Ytfmekdmpghhegaa
