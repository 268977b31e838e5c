/- Names: lists of lists of types and values; what they look like in memory that is only read. -/
import Derived.Test.YtahpemfnhepgoaaOcA
namespace Go.Proofs.Ytahpemfnhepgoaa
set_option linter.all false
set_option maxRecDepth 4000
open Go.RowKit

abbrev Rdn := List (List UInt8 × List UInt8)
abbrev Dn := List Rdn
def avaR (r : Rdn) : List (List Value) := r.map fun a => [str a.1, str a.2]
theorem avaR_length (r : Rdn) : (avaR r).length = r.length := by simp [avaR]
theorem avaR_append (a b : Rdn) : avaR (a ++ b) = avaR a ++ avaR b := by simp [avaR]
theorem avaR_rowed (r : Rdn) : Rowed 2 (avaR r) := by intro x hx; simp [avaR] at hx; obtain ⟨a, b, _, rfl⟩ := hx; rfl
theorem avaR_get {r : Rdn} {i : Nat} {a : List UInt8 × List UInt8} (h : r[i]? = some a) : (avaR r)[i]? = some [str a.1, str a.2] := by simp [avaR, h]
def RdnsC (h : Heap) : Dn -> List (List Value) -> Prop
  | [], rows => rows = []
  | r :: rs, rows => ∃ v rest, rows = [v] :: rest /\ HSl h v 2 (avaR r) /\ RdnsC h rs rest
theorem RdnsC.mono {h h' : Heap} (hl : Heap.le h h') : ∀ {d : Dn} {rows : List (List Value)}, RdnsC h d rows -> RdnsC h' d rows
  | [], _, e => e
  | _ :: _, _, ⟨v, rest, e, h1, h2⟩ => ⟨v, rest, e, h1.mono hl, h2.mono hl⟩
theorem RdnsC.len {h : Heap} : ∀ {d : Dn} {rows : List (List Value)}, RdnsC h d rows -> rows.length = d.length
  | [], _, e => by simp only [RdnsC] at e; subst e; rfl
  | _ :: _, _, ⟨v, rest, e, h1, h2⟩ => by subst e; simp [h2.len]
theorem RdnsC.append {h : Heap} : ∀ {a b : Dn} {ra rb : List (List Value)}, RdnsC h a ra -> RdnsC h b rb -> RdnsC h (a ++ b) (ra ++ rb)
  | [], b, ra, rb, ha, hb => by simp only [RdnsC] at ha; subst ha; exact hb
  | _ :: _, b, ra, rb, ⟨v, rest, e, h1, h2⟩, hb => by subst e; exact ⟨v, rest ++ rb, rfl, h1, h2.append hb⟩
theorem RdnsC.one {h : Heap} {r : Rdn} {v : Value} (hv : HSl h v 2 (avaR r)) : RdnsC h [r] [[v]] := ⟨v, [], rfl, hv, rfl⟩
theorem RdnsC.get {h : Heap} : ∀ {d : Dn} {rows : List (List Value)} {i : Nat} {r : Rdn}, RdnsC h d rows -> d[i]? = some r -> ∃ v, rows[i]? = some [v] /\ HSl h v 2 (avaR r)
  | [], _, i, r, _, hi => by simp at hi
  | _ :: _, _, 0, r, ⟨v, rest, e, h1, h2⟩, hi => by simp at hi; subst hi; subst e; exact ⟨v, rfl, h1⟩
  | _ :: _, _, i + 1, r, ⟨v, rest, e, h1, h2⟩, hi => by
    subst e
    simp at hi
    obtain ⟨v', h3, h4⟩ := h2.get hi
    exact ⟨v', by simpa using h3, h4⟩
theorem RdnsC.drop {h : Heap} : ∀ {d : Dn} {rows : List (List Value)} (i : Nat), RdnsC h d rows -> RdnsC h (d.drop i) (rows.drop i)
  | _, _, 0, e => by simpa using e
  | [], _, i + 1, e => by simp only [RdnsC] at e; subst e; simp [RdnsC]
  | _ :: _, _, i + 1, ⟨v, rest, e, h1, h2⟩ => by subst e; simpa using h2.drop i
theorem RdnsC.take {h : Heap} : ∀ {d : Dn} {rows : List (List Value)} (i : Nat), RdnsC h d rows -> RdnsC h (d.take i) (rows.take i)
  | _, _, 0, e => by simp [RdnsC]
  | [], _, i + 1, e => by simp only [RdnsC] at e; subst e; simp [RdnsC]
  | _ :: _, _, i + 1, ⟨v, rest, e, h1, h2⟩ => by subst e; exact ⟨v, rest.take i, by simp, h1, h2.take i⟩
def DnC (h : Heap) (d : Dn) (v : Value) : Prop := ∃ rows, HSl h v 1 rows /\ RdnsC h d rows
theorem DnC.mono {h h' : Heap} (hl : Heap.le h h') {d : Dn} {v : Value} : DnC h d v -> DnC h' d v
  | ⟨rows, h1, h2⟩ => ⟨rows, h1.mono hl, h2.mono hl⟩
theorem DnC.nil (h : Heap) : DnC h [] (.slice none 0 0) := ⟨[], HSl.nil h 1, rfl⟩
end Go.Proofs.Ytahpemfnhepgoaa
