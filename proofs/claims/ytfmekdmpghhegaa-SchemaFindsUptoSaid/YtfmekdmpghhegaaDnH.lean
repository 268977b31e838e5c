/- Names: text and key; dn.text. -/
import Derived.Test.YtfmekdmpghhegaaDnG
import Derived.Test.YtfmekdmpghhegaaOcE
import Derived.Test.YtfmekdmpghhegaaLibS
namespace Go.Proofs.Ytfmekdmpghhegaa
set_option linter.all false
set_option maxRecDepth 4000
open Go.RowKit

def avaT (a : List UInt8 × List UInt8) : List UInt8 := a.1 ++ [61] ++ wrM a.2
def keyA (a : List UInt8 × List UInt8) : List UInt8 × List UInt8 := (foldM a.1, prepM a.2)
def fA (b : Bool) (a : List UInt8 × List UInt8) : List UInt8 := avaT (if b then keyA a else a)
def fR (b : Bool) (r : Rdn) : List UInt8 := Lib.join (if b then sortM (r.map (fA b)) else r.map (fA b)) [43]
def txt (b : Bool) (d : Dn) : List UInt8 := Lib.join (d.map (fR b)) [44]
def avaW (a : List UInt8 × List UInt8) : Nat := a.1.length + 3 * a.2.length + 2
def rdnW (r : Rdn) : Nat := (r.map avaW).sum
def dnW (d : Dn) : Nat := (d.map fun r => rdnW r + 1).sum
end Go.Proofs.Ytfmekdmpghhegaa
