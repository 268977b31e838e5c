/- Names: text and key; dn.text. -/
import Derived.Test.YtfmekdmpghhegaaDoorDnG
import Derived.Test.YtfmekdmpghhegaaDoorOcE
import Derived.Test.YtfmekdmpghhegaaDoorLibS
import Derived.Test.YtfmekdmpghhegaaDoorOcD
namespace Go.Proofs.YtfmekdmpghhegaaDoor
set_option linter.all false
set_option maxRecDepth 4000
open Go.RowKit

def avaT (a : List UInt8 × List UInt8) : List UInt8 := a.1 ++ [61] ++ wrM a.2
def keyA (a : List UInt8 × List UInt8) : List UInt8 × List UInt8 := (foldM a.1, prepM a.2)
def fA (b : Bool) (a : List UInt8 × List UInt8) : List UInt8 := avaT (if b then keyA a else a)
def fR (b : Bool) (r : Rdn) : List UInt8 := Lib.join (if b then sortM (r.map (fA b)) else r.map (fA b)) [43]
def txt (b : Bool) (d : Dn) : List UInt8 := Lib.join (d.map (fR b)) [44]
def avaW (a : List UInt8 × List UInt8) : Nat := a.1.length + 3 * a.2.length + 2
def rdnW (r : Rdn) : Nat := (r.map avaW).sum
def dnW (d : Dn) : Nat := (d.map fun r => rdnW r + 1).sum
end Go.Proofs.YtfmekdmpghhegaaDoor
namespace Go.Proofs.YtfmekdmpghhegaaDoor
set_option linter.all false
set_option maxRecDepth 4000
open Go.RowKit

def avaC (pre : Rdn) (a : List UInt8 × List UInt8) : Int := if pre.length = 8 then 9 else if typeM a.1 = false then 20 else if hasM pre a.1 = true then 21 else 0
def rdnGo : Rdn → Rdn → Int
  | _, [] => 0
  | pre, a :: r => if avaC pre a ≠ 0 then avaC pre a else rdnGo (pre ++ [a]) r
def rdnCk (r : Rdn) : Int := if r.length = 0 then 2 else rdnGo [] r
def chkGo : Nat → Dn → Int
  | _, [] => 0
  | i, r :: d => if i = 32 then 9 else if rdnCk r ≠ 0 then rdnCk r else chkGo (i + 1) d
def chkM (d : Dn) : Int := chkGo 0 d
end Go.Proofs.YtfmekdmpghhegaaDoor
namespace Go.Proofs.YtfmekdmpghhegaaDoor
set_option linter.all false
set_option maxRecDepth 4000
open Go.RowKit

def longR (r : Rdn) : Bool := r.any fun a => decide (4096 < a.2.length)
def longB (d : Dn) : Bool := d.any longR
/-- A name's text, and what is wrong with it. -/
def printM (d : Dn) : List UInt8 × Int := if chkM d ≠ 0 then ([], chkM d) else if longB d = true then ([], 5) else if 4096 < (txt false d).length then ([], 5) else (txt false d, 0)
end Go.Proofs.YtfmekdmpghhegaaDoor
