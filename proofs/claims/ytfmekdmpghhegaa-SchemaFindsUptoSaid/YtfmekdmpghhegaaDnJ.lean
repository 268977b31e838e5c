/- Names: dn.Print, dn.Norm. -/
import Derived.Test.YtfmekdmpghhegaaDnI
namespace Go.Proofs.Ytfmekdmpghhegaa
set_option linter.all false
set_option maxRecDepth 4000
open Go.RowKit

def longR (r : Rdn) : Bool := r.any fun a => decide (4096 < a.2.length)
def longB (d : Dn) : Bool := d.any longR
/-- A name's text, and what is wrong with it. -/
def printM (d : Dn) : List UInt8 × Int := if chkM d ≠ 0 then ([], chkM d) else if longB d = true then ([], 5) else if 4096 < (txt false d).length then ([], 5) else (txt false d, 0)
end Go.Proofs.Ytfmekdmpghhegaa
