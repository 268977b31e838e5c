/- Names: what is wrong with one; dn.check. -/
import Derived.Test.YtfmekdmpghhegaaDnH
import Derived.Test.YtfmekdmpghhegaaOcB
namespace Go.Proofs.Ytfmekdmpghhegaa
set_option linter.all false
set_option maxRecDepth 4000
open Go.RowKit

def avaC (pre : Rdn) (a : List UInt8 × List UInt8) : Int := if pre.length = 8 then 9 else if typeM a.1 = false then 20 else if hasM pre a.1 = true then 21 else 0
def rdnGo : Rdn → Rdn → Int
  | _, [] => 0
  | pre, a :: r => if avaC pre a ≠ 0 then avaC pre a else rdnGo (pre ++ [a]) r
def rdnCk (r : Rdn) : Int := if r.length = 0 then 2 else rdnGo [] r
def chkGo : Nat → Dn → Int
  | _, [] => 0
  | i, r :: d => if i = 32 then 9 else if rdnCk r ≠ 0 then rdnCk r else chkGo (i + 1) d
def chkM (d : Dn) : Int := chkGo 0 d
end Go.Proofs.Ytfmekdmpghhegaa
