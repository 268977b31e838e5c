/- Rows whose elements are told by a relation, one by one. -/
import Derived.Test.YtibkffoeioidlaaDoorLtM
import Derived.Test.YtibkffoeioidlaaDoorDnA
import Derived.Maps.RangeRun
import Derived.Lib.OthersKept
import Derived.Lib.DecodeN
import Derived.Test.YtibkffoeioidlaaDoorTy
import Derived.Test.YtibkffoeioidlaaDoorFlO
namespace Go.Proofs.YtibkffoeioidlaaDoor
set_option linter.all false
set_option maxRecDepth 4000
open Go.RowKit

def LC {α : Type} (R : Heap -> α -> List Value -> Prop) (h : Heap) : List α -> List (List Value) -> Prop
  | [], rows => rows = []
  | a :: l, rows => ∃ r rest, rows = r :: rest /\ R h a r /\ LC R h l rest
theorem LC.mono {α : Type} {R : Heap -> α -> List Value -> Prop} {h h' : Heap} (hR : ∀ {a r}, R h a r -> R h' a r) : ∀ {l : List α} {rows : List (List Value)}, LC R h l rows -> LC R h' l rows
  | [], _, e => e
  | _ :: _, _, ⟨v, rest, e, h1, h2⟩ => ⟨v, rest, e, hR h1, h2.mono hR⟩
theorem LC.len {α : Type} {R : Heap -> α -> List Value -> Prop} {h : Heap} : ∀ {l : List α} {rows : List (List Value)}, LC R h l rows -> rows.length = l.length
  | [], _, e => by simp only [LC] at e; subst e; rfl
  | _ :: _, _, ⟨v, rest, e, h1, h2⟩ => by subst e; simp [h2.len]
theorem LC.append {α : Type} {R : Heap -> α -> List Value -> Prop} {h : Heap} : ∀ {a b : List α} {ra rb : List (List Value)}, LC R h a ra -> LC R h b rb -> LC R h (a ++ b) (ra ++ rb)
  | [], b, ra, rb, ha, hb => by simp only [LC] at ha; subst ha; exact hb
  | _ :: _, b, ra, rb, ⟨v, rest, e, h1, h2⟩, hb => by subst e; exact ⟨v, rest ++ rb, rfl, h1, h2.append hb⟩
theorem LC.one {α : Type} {R : Heap -> α -> List Value -> Prop} {h : Heap} {a : α} {r : List Value} (hv : R h a r) : LC R h [a] [r] := ⟨r, [], rfl, hv, rfl⟩
theorem LC.get {α : Type} {R : Heap -> α -> List Value -> Prop} {h : Heap} : ∀ {l : List α} {rows : List (List Value)} {i : Nat} {a : α}, LC R h l rows -> l[i]? = some a -> ∃ r, rows[i]? = some r /\ R h a r
  | [], _, i, r, _, hi => by simp at hi
  | _ :: _, _, 0, r, ⟨v, rest, e, h1, h2⟩, hi => by simp at hi; subst hi; subst e; exact ⟨v, rfl, h1⟩
  | _ :: _, _, i + 1, r, ⟨v, rest, e, h1, h2⟩, hi => by
    subst e
    simp at hi
    obtain ⟨v', h3, h4⟩ := h2.get hi
    exact ⟨v', by simpa using h3, h4⟩
theorem LC.drop {α : Type} {R : Heap -> α -> List Value -> Prop} {h : Heap} : ∀ {l : List α} {rows : List (List Value)} (i : Nat), LC R h l rows -> LC R h (l.drop i) (rows.drop i)
  | _, _, 0, e => by simpa using e
  | [], _, i + 1, e => by simp only [LC] at e; subst e; simp [LC]
  | _ :: _, _, i + 1, ⟨v, rest, e, h1, h2⟩ => by subst e; simpa using h2.drop i
theorem LC.take {α : Type} {R : Heap -> α -> List Value -> Prop} {h : Heap} : ∀ {l : List α} {rows : List (List Value)} (i : Nat), LC R h l rows -> LC R h (l.take i) (rows.take i)
  | _, _, 0, e => by simp [LC]
  | [], _, i + 1, e => by simp only [LC] at e; subst e; simp [LC]
  | _ :: _, _, i + 1, ⟨v, rest, e, h1, h2⟩ => by subst e; exact ⟨v, rest.take i, by simp, h1, h2.take i⟩
theorem LC.rowed {α : Type} {R : Heap -> α -> List Value -> Prop} {h : Heap} {n : Nat} (hR : ∀ {a r}, R h a r -> r.length = n) : ∀ {l : List α} {rows : List (List Value)}, LC R h l rows -> Rowed n rows
  | [], _, e => by simp only [LC] at e; subst e; intro r hr; simp at hr
  | _ :: _, _, ⟨v, rest, e, h1, h2⟩ => by
    subst e
    intro r hr
    rcases List.mem_cons.1 hr with rfl | hr
    . exact hR h1
    . exact h2.rowed hR r hr
theorem LC.all {α : Type} {R : Heap -> α -> List Value -> Prop} {h : Heap} {p : List Value -> Prop} (hR : ∀ {a r}, R h a r -> p r) : ∀ {l : List α} {rows : List (List Value)}, LC R h l rows -> ∀ r ∈ rows, p r
  | [], _, e => by simp only [LC] at e; subst e; intro r hr; simp at hr
  | _ :: _, _, ⟨v, rest, e, h1, h2⟩ => by
    subst e
    intro r hr
    rcases List.mem_cons.1 hr with rfl | hr
    . exact hR h1
    . exact h2.all hR r hr
theorem LC.of {α : Type} {R : Heap -> α -> List Value -> Prop} {h : Heap} : ∀ (l : List α) (rows : List (List Value)), l.length = rows.length -> (∀ (i : Nat) b, l[i]? = some b -> ∃ r, rows[i]? = some r /\ R h b r) -> LC R h l rows
  | [], [], _, _ => rfl
  | [], _ :: _, h, _ => by simp at h
  | _ :: _, [], h, _ => by simp at h
  | b :: l, r :: rows, h, hr => by
    obtain ⟨r0, h0, h1⟩ := hr 0 b rfl
    simp only [List.getElem?_cons_zero, Option.some.injEq] at h0
    have ih := LC.of l rows (by simpa using h) (fun i b' hb => by simpa using hr (i + 1) b' (by simpa using hb))
    exact ⟨r, rows, rfl, h0 ▸ h1, ih⟩
def SC {α : Type} (R : Heap -> α -> List Value -> Prop) (n : Nat) (h : Heap) (l : List α) (v : Value) : Prop := ∃ rows, HSl h v n rows /\ LC R h l rows
theorem SC.mono {α : Type} {R : Heap -> α -> List Value -> Prop} {n : Nat} {h h' : Heap} (hR : ∀ {a r}, R h a r -> R h' a r) (hl : Heap.le h h') {l : List α} {v : Value} : SC R n h l v -> SC R n h' l v
  | ⟨rows, h1, h2⟩ => ⟨rows, h1.mono hl, h2.mono hR⟩
theorem SC.nil {α : Type} (R : Heap -> α -> List Value -> Prop) (n : Nat) (h : Heap) : SC R n h [] (.slice none 0 0) := ⟨[], HSl.nil h n, rfl⟩
theorem SC.form {α : Type} {R : Heap -> α -> List Value -> Prop} {n : Nat} {h : Heap} {l : List α} {v : Value} : SC R n h l v -> ∃ A c, v = .slice A l.length c /\ l.length <= c /\ l.length <= 9223372036854775807
  | ⟨rows, h1, h2⟩ => by
    obtain ⟨A, c, e, h3, h4, _⟩ := h1.form
    rw [h2.len] at e h3
    simp only [maxLen] at h4
    exact ⟨A, c, e, h3, by omega⟩
theorem take_get {α : Type} {l : List α} {i : Nat} {x : α} (h : l[i]? = some x) : l.take (i + 1) = l.take i ++ [x] := by
  have hi := (List.getElem?_eq_some_iff.1 h).1
  have e := (List.getElem?_eq_some_iff.1 h).2
  rw [List.take_succ_eq_append_getElem hi, e]
end Go.Proofs.YtibkffoeioidlaaDoor
namespace Go.Proofs.YtibkffoeioidlaaDoor
set_option linter.all false
set_option maxRecDepth 4000
open Go.RowKit

abbrev Atr := List UInt8 × List (List UInt8)
def AtrC (h : Heap) (a : Atr) (r : List Value) : Prop := ∃ v, r = [str a.1, v] /\ HSl h v 1 (strsR a.2)
theorem AtrC.mono {h h' : Heap} (hl : Heap.le h h') {a : Atr} {r : List Value} : AtrC h a r -> AtrC h' a r
  | ⟨v, e, h1⟩ => ⟨v, e, h1.mono hl⟩
abbrev AtrsC (h : Heap) (l : List Atr) (v : Value) : Prop := SC AtrC 2 h l v
theorem AtrsC.mono {h h' : Heap} (hl : Heap.le h h') {l : List Atr} {v : Value} (s : AtrsC h l v) : AtrsC h' l v := SC.mono (fun x => x.mono hl) hl s
end Go.Proofs.YtibkffoeioidlaaDoor
namespace Go.Proofs.YtibkffoeioidlaaDoor
set_option linter.all false
set_option maxRecDepth 4000
open Go.RowKit

abbrev Bs := List UInt8
structure Mdf where
  op : Int
  name : Bs
  values : List Bs
structure Ctl where
  oid : Bs
  crit : Bool
  has : Bool
  value : Bs
structure Ms where
  id : Int
  op : Int
  dn : Bs
  ver : Int
  sasl : Bool
  mech : Bs
  text : Bs
  scope : Int
  deref : Int
  size : Int
  time : Int
  types : Bool
  fl : Fl
  names : List Bs
  attrs : List Atr
  mods : List Mdf
  rdn : Bs
  delOld : Bool
  hasSup : Bool
  sup : Bs
  attr : Bs
  target : Int
  oid : Bs
  has : Bool
  value : Bs
  code : Int
  matched : Bs
  ctls : List Ctl
def zM : Ms := ⟨0, 0, [], 0, false, [], [], 0, 0, 0, 0, false, zF, [], [], [], [], false, false, [], [], 0, [], false, [], 0, [], []⟩
def MdC (h : Heap) (a : Mdf) (r : List Value) : Prop := ∃ v, r = [.int .i64 a.op, str a.name, v] /\ HSl h v 1 (strsR a.values)
theorem MdC.mono {h h' : Heap} (hl : Heap.le h h') {a : Mdf} {r : List Value} : MdC h a r -> MdC h' a r
  | ⟨v, e, h1⟩ => ⟨v, e, h1.mono hl⟩
abbrev MdsC (h : Heap) (l : List Mdf) (v : Value) : Prop := SC MdC 3 h l v
theorem MdsC.mono {h h' : Heap} (hl : Heap.le h h') {l : List Mdf} {v : Value} (s : MdsC h l v) : MdsC h' l v := SC.mono (fun x => x.mono hl) hl s
def ctlR (c : Ctl) : List Value := [str c.oid, .bool c.crit, .bool c.has, str c.value]
def ctlsR (l : List Ctl) : List (List Value) := l.map ctlR
theorem ctlsR_length (l : List Ctl) : (ctlsR l).length = l.length := by simp [ctlsR]
theorem ctlsR_app (a b : List Ctl) : ctlsR (a ++ b) = ctlsR a ++ ctlsR b := by simp [ctlsR]
theorem ctlsR_get {l : List Ctl} {i : Nat} {c : Ctl} (h : l[i]? = some c) : (ctlsR l)[i]? = some (ctlR c) := by
  unfold ctlsR
  rw [List.getElem?_map, h]; rfl
def msR (m : Ms) (pv kv nv av mv cv : Value) : List Value :=
  [.int .i64 m.id, .int .i64 m.op, str m.dn, .int .i64 m.ver, .bool m.sasl, str m.mech, str m.text, .int .i64 m.scope, .int .i64 m.deref, .int .i64 m.size, .int .i64 m.time, .bool m.types,
   .int .i64 m.fl.kind, str m.fl.attr, str m.fl.value, pv, kv, nv, av, mv, str m.rdn, .bool m.delOld, .bool m.hasSup, str m.sup, str m.attr, .int .i64 m.target, str m.oid, .bool m.has, str m.value, .int .i64 m.code, str m.matched, cv]
def flR (f : Fl) (pv kv : Value) : List Value := [.int .i64 f.kind, str f.attr, str f.value, pv, kv]
structure MsV (h : Heap) (m : Ms) (pv kv nv av mv cv : Value) : Prop where
  fl : FlC h m.fl (flR m.fl pv kv)
  names : HSl h nv 1 (strsR m.names)
  attrs : AtrsC h m.attrs av
  mods : MdsC h m.mods mv
  ctls : HSl h cv 4 (ctlsR m.ctls)
theorem MsV.mono {h h' : Heap} {m : Ms} {pv kv nv av mv cv : Value} (s : MsV h m pv kv nv av mv cv) (hl : Heap.le h h') : MsV h' m pv kv nv av mv cv :=
  ⟨FlC.mono hl _ _ s.fl, s.names.mono hl, AtrsC.mono hl s.attrs, MdsC.mono hl s.mods, s.ctls.mono hl⟩
def MsC (h : Heap) (m : Ms) (r : List Value) : Prop := ∃ pv kv nv av mv cv, r = msR m pv kv nv av mv cv /\ MsV h m pv kv nv av mv cv
theorem MsC.mono {h h' : Heap} (hl : Heap.le h h') {m : Ms} {r : List Value} : MsC h m r -> MsC h' m r
  | ⟨pv, kv, nv, av, mv, cv, e, s⟩ => ⟨pv, kv, nv, av, mv, cv, e, s.mono hl⟩
theorem MsC.len {h : Heap} {m : Ms} {r : List Value} : MsC h m r -> r.length = 32
  | ⟨_, _, _, _, _, _, e, _⟩ => by subst e; rfl
def bsW (l : List Bs) : Nat := (l.map fun s => s.length + 1).sum
def atrW (a : Atr) : Nat := 1 + a.1.length + bsW a.2
def atrsW (l : List Atr) : Nat := (l.map atrW).sum
def mdW (a : Mdf) : Nat := 1 + a.name.length + bsW a.values
def mdsW (l : List Mdf) : Nat := (l.map mdW).sum
def ctlW (c : Ctl) : Nat := 1 + c.oid.length + c.value.length
def ctlsW (l : List Ctl) : Nat := (l.map ctlW).sum
def Ms.wt (m : Ms) : Nat := m.dn.length + m.mech.length + m.text.length + m.fl.wt + bsW m.names + atrsW m.attrs + mdsW m.mods + m.rdn.length + m.sup.length + m.attr.length + m.oid.length + m.value.length + m.matched.length + ctlsW m.ctls
theorem ctlsW_len (l : List Ctl) : l.length <= ctlsW l := by
  induction l with
  | nil => simp [ctlsW]
  | cons a l ih => simp only [ctlsW, List.map_cons, List.sum_cons, List.length_cons, ctlW] at ih ⊢; omega
end Go.Proofs.YtibkffoeioidlaaDoor
