/- Names: lists of lists of types and values; what they look like in memory that is only read. -/
import Derived.Test.YtfmekdmpghhegaaDoorOcA
import Derived.Test.YtfmekdmpghhegaaDoorLtN
import Derived.Test.YtfmekdmpghhegaaDoorWrR
import Derived.Test.YtfmekdmpghhegaaDoorTy
import Derived.Test.YtfmekdmpghhegaaDoorLtA
import Derived.Test.YtfmekdmpghhegaaDoorProg
import Derived.Ground.NamesProg
import Derived.Shelf.Small.Strs
import Derived.Shelf.Strings.Cut
import Derived.Shelf.Strings.Search2
import Derived.Test.YtfmekdmpghhegaaDoorOcB
namespace Go.Proofs.YtfmekdmpghhegaaDoor
set_option linter.all false
set_option maxRecDepth 4000
open Go.RowKit

abbrev Rdn := List (List UInt8 × List UInt8)
abbrev Dn := List Rdn
def avaR (r : Rdn) : List (List Value) := r.map fun a => [str a.1, str a.2]
def RdnsC (h : Heap) : Dn -> List (List Value) -> Prop
  | [], rows => rows = []
  | r :: rs, rows => ∃ v rest, rows = [v] :: rest /\ HSl h v 2 (avaR r) /\ RdnsC h rs rest
theorem RdnsC.mono {h h' : Heap} (hl : Heap.le h h') : ∀ {d : Dn} {rows : List (List Value)}, RdnsC h d rows -> RdnsC h' d rows
  | [], _, e => e
  | _ :: _, _, ⟨v, rest, e, h1, h2⟩ => ⟨v, rest, e, h1.mono hl, h2.mono hl⟩
theorem RdnsC.len {h : Heap} : ∀ {d : Dn} {rows : List (List Value)}, RdnsC h d rows -> rows.length = d.length
  | [], _, e => by simp only [RdnsC] at e; subst e; rfl
  | _ :: _, _, ⟨v, rest, e, h1, h2⟩ => by subst e; simp [h2.len]
theorem RdnsC.append {h : Heap} : ∀ {a b : Dn} {ra rb : List (List Value)}, RdnsC h a ra -> RdnsC h b rb -> RdnsC h (a ++ b) (ra ++ rb)
  | [], b, ra, rb, ha, hb => by simp only [RdnsC] at ha; subst ha; exact hb
  | _ :: _, b, ra, rb, ⟨v, rest, e, h1, h2⟩, hb => by subst e; exact ⟨v, rest ++ rb, rfl, h1, h2.append hb⟩
theorem RdnsC.one {h : Heap} {r : Rdn} {v : Value} (hv : HSl h v 2 (avaR r)) : RdnsC h [r] [[v]] := ⟨v, [], rfl, hv, rfl⟩
theorem RdnsC.get {h : Heap} : ∀ {d : Dn} {rows : List (List Value)} {i : Nat} {r : Rdn}, RdnsC h d rows -> d[i]? = some r -> ∃ v, rows[i]? = some [v] /\ HSl h v 2 (avaR r)
  | [], _, i, r, _, hi => by simp at hi
  | _ :: _, _, 0, r, ⟨v, rest, e, h1, h2⟩, hi => by simp at hi; subst hi; subst e; exact ⟨v, rfl, h1⟩
  | _ :: _, _, i + 1, r, ⟨v, rest, e, h1, h2⟩, hi => by
    subst e
    simp at hi
    obtain ⟨v', h3, h4⟩ := h2.get hi
    exact ⟨v', by simpa using h3, h4⟩
theorem RdnsC.drop {h : Heap} : ∀ {d : Dn} {rows : List (List Value)} (i : Nat), RdnsC h d rows -> RdnsC h (d.drop i) (rows.drop i)
  | _, _, 0, e => by simpa using e
  | [], _, i + 1, e => by simp only [RdnsC] at e; subst e; simp [RdnsC]
  | _ :: _, _, i + 1, ⟨v, rest, e, h1, h2⟩ => by subst e; simpa using h2.drop i
theorem RdnsC.take {h : Heap} : ∀ {d : Dn} {rows : List (List Value)} (i : Nat), RdnsC h d rows -> RdnsC h (d.take i) (rows.take i)
  | _, _, 0, e => by simp [RdnsC]
  | [], _, i + 1, e => by simp only [RdnsC] at e; subst e; simp [RdnsC]
  | _ :: _, _, i + 1, ⟨v, rest, e, h1, h2⟩ => by subst e; exact ⟨v, rest.take i, by simp, h1, h2.take i⟩
def DnC (h : Heap) (d : Dn) (v : Value) : Prop := ∃ rows, HSl h v 1 rows /\ RdnsC h d rows
theorem DnC.mono {h h' : Heap} (hl : Heap.le h h') {d : Dn} {v : Value} : DnC h d v -> DnC h' d v
  | ⟨rows, h1, h2⟩ => ⟨rows, h1.mono hl, h2.mono hl⟩
theorem DnC.nil (h : Heap) : DnC h [] (.slice none 0 0) := ⟨[], HSl.nil h 1, rfl⟩
end Go.Proofs.YtfmekdmpghhegaaDoor
namespace Go.Proofs.YtfmekdmpghhegaaDoor
set_option linter.all false
set_option maxRecDepth 4000
open Go.RowKit

def sameT (a b : List UInt8) : Bool := decide (foldM a = foldM b)
def hasM (r : Rdn) (t : List UInt8) : Bool := r.any fun a => sameT a.1 t
def RdL (h : Heap) (v : Value) (e sz : Nat) (rows : List (List Value)) (L : List Chunk) : Prop := (L = [] /\ HSl h v sz rows) \/ L = [.row v e sz rows]
theorem RdL.mono {h h' : Heap} {v : Value} {e sz : Nat} {rows : List (List Value)} {L : List Chunk} (r : RdL h v e sz rows L) (hl : Heap.le h h') : RdL h' v e sz rows L := r.imp (fun x => ⟨x.1, x.2.mono hl⟩) id
end Go.Proofs.YtfmekdmpghhegaaDoor
namespace Go.Proofs.YtfmekdmpghhegaaDoor
set_option linter.all false
set_option maxRecDepth 4000
open Go.RowKit

theorem St.keep {h : Heap} {H : List Chunk} {w : World} (s : StI h H w) : St ⟨w, keys H, h⟩ h H w := s.start
end Go.Proofs.YtfmekdmpghhegaaDoor
namespace Go.Proofs.YtfmekdmpghhegaaDoor
set_option linter.all false
set_option maxRecDepth 4000
open Go.RowKit

def inN (c : Nat) (l : List UInt8) : Bool := l.any fun b => decide (b.toNat = c)
end Go.Proofs.YtfmekdmpghhegaaDoor
namespace Go.Proofs.YtfmekdmpghhegaaDoor
set_option linter.all false
set_option maxRecDepth 4000
open Go.RowKit

def esB : List UInt8 := [34, 43, 44, 59, 60, 62, 92]
def wrU (first last : Bool) (c : UInt8) : List UInt8 := if c.toNat = 0 then [92, 48, 48] else if inN c.toNat esB = true \/ (first = true /\ (c.toNat = 32 \/ c.toNat = 35)) \/ (last = true /\ c.toNat = 32) then [92, c] else [c]
def wrTo (v : List UInt8) : Nat -> List UInt8
  | 0 => []
  | i + 1 => wrTo v i ++ (match v[i]? with | none => [] | some c => wrU (decide (i = 0)) (decide (i + 1 = v.length)) c)
def wrM (v : List UInt8) : List UInt8 := wrTo v v.length
end Go.Proofs.YtfmekdmpghhegaaDoor
