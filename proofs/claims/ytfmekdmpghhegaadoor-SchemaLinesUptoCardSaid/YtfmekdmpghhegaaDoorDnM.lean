/- octet.Prep, castellanref01.Prep: small letters, and no blank too many. -/
import Derived.Test.YtfmekdmpghhegaaDoorOcA
import Derived.Test.YtfmekdmpghhegaaDoorWrR
import Derived.Test.YtfmekdmpghhegaaDoorDnG
import Derived.Test.YtfmekdmpghhegaaDoorLibS
import Derived.Test.YtfmekdmpghhegaaDoorOcB
import Derived.Test.YtfmekdmpghhegaaDoorLtQ
import Derived.Sort.Walk0
namespace Go.Proofs.YtfmekdmpghhegaaDoor
set_option linter.all false
set_option maxRecDepth 4000
open Go.RowKit

def prS (x : List UInt8 × Bool) (c : UInt8) : List UInt8 × Bool := if c.toNat = 32 then (x.1, !x.1.isEmpty) else (x.1 ++ (if x.2 then [32] else []) ++ [c], false)
def prF (t : List UInt8) : List UInt8 × Bool := t.foldl prS ([], false)
def prepM (s : List UInt8) : List UInt8 := (prF (foldM s)).1
structure PrOk (x : List UInt8 × Bool) : Prop where
  wait : x.2 = true -> x.1 ≠ []
  last : ∀ e, x.1.getLast? = some e -> e.toNat ≠ 32
end Go.Proofs.YtfmekdmpghhegaaDoor
namespace Go.Proofs.YtfmekdmpghhegaaDoor
set_option linter.all false
set_option maxRecDepth 4000
open Go.RowKit

def avaT (a : List UInt8 × List UInt8) : List UInt8 := a.1 ++ [61] ++ wrM a.2
def keyA (a : List UInt8 × List UInt8) : List UInt8 × List UInt8 := (foldM a.1, prepM a.2)
def fA (b : Bool) (a : List UInt8 × List UInt8) : List UInt8 := avaT (if b then keyA a else a)
def fR (b : Bool) (r : Rdn) : List UInt8 := Lib.join (if b then sortM (r.map (fA b)) else r.map (fA b)) [43]
def txt (b : Bool) (d : Dn) : List UInt8 := Lib.join (d.map (fR b)) [44]
def avaW (a : List UInt8 × List UInt8) : Nat := a.1.length + 3 * a.2.length + 2
def rdnW (r : Rdn) : Nat := (r.map avaW).sum
def dnW (d : Dn) : Nat := (d.map fun r => rdnW r + 1).sum
end Go.Proofs.YtfmekdmpghhegaaDoor
namespace Go.Proofs.YtfmekdmpghhegaaDoor
set_option linter.all false
set_option maxRecDepth 4000
open Go.RowKit

def avaC (pre : Rdn) (a : List UInt8 × List UInt8) : Int := if pre.length = 8 then 9 else if typeM a.1 = false then 20 else if hasM pre a.1 = true then 21 else 0
def rdnGo : Rdn -> Rdn -> Int
  | _, [] => 0
  | pre, a :: r => if avaC pre a ≠ 0 then avaC pre a else rdnGo (pre ++ [a]) r
def rdnCk (r : Rdn) : Int := if r.length = 0 then 2 else rdnGo [] r
def chkGo : Nat -> Dn -> Int
  | _, [] => 0
  | i, r :: d => if i = 32 then 9 else if rdnCk r ≠ 0 then rdnCk r else chkGo (i + 1) d
def chkD (d : Dn) : Int := chkGo 0 d
end Go.Proofs.YtfmekdmpghhegaaDoor
namespace Go.Proofs.YtfmekdmpghhegaaDoor
set_option linter.all false
set_option maxRecDepth 4000
open Go.RowKit

def longR (r : Rdn) : Bool := r.any fun a => decide (4096 < a.2.length)
def longB (d : Dn) : Bool := d.any longR
def printM (d : Dn) : List UInt8 × Int := if chkD d ≠ 0 then ([], chkD d) else if longB d = true then ([], 5) else if 4096 < (txt false d).length then ([], 5) else (txt false d, 0)
end Go.Proofs.YtfmekdmpghhegaaDoor
namespace Go.Proofs.YtfmekdmpghhegaaDoor
set_option linter.all false
set_option maxRecDepth 4000
open Go.RowKit

section
variable {E : Env} {k : List It} {f : Fr} {h : Heap} {H : List Chunk} {st : Md} [hmd : OkMd st h H] {all : Array Oper} {rest : List Oper} {d : Nat} {ty : TypeId} {pos : String} {aft : Array Edge}
end
structure PlainD (d p : Dn) : Prop where
  same : p.map (fun l => l.map avaT) = d.map fun r => sortM (r.map (fA true))
  w : dnW p <= dnW d
theorem PlainD.text {d p : Dn} (h : PlainD d p) : txt false p = txt true d := by
  have e1 : p.map (fR false) = (p.map fun l => l.map avaT).map fun l => Lib.join l [43] := by rw [List.map_map]; rfl
  have e2 : d.map (fR true) = (d.map fun r => sortM (r.map (fA true))).map fun l => Lib.join l [43] := by rw [List.map_map]; rfl
  unfold txt
  rw [e1, e2, h.same]
end Go.Proofs.YtfmekdmpghhegaaDoor
