/- Filters: castellanref10.check, Check; how much a filter holds. -/
import Derived.Test.YtibkffoeioidlaaDoorFlK
import Derived.Test.YtibkffoeioidlaaDoorOcB
import Derived.Test.YtibkffoeioidlaaDoorTlvS
import Derived.Test.YtibkffoeioidlaaDoorTlvN
import Derived.Test.YtibkffoeioidlaaDoorFlC
namespace Go.Proofs.YtibkffoeioidlaaDoor
set_option linter.all false
set_option maxRecDepth 4000
open Go.RowKit

def pcW : Pcs -> Nat
  | [] => 0
  | (_, t) :: ps => 1 + t.length + pcW ps
mutual
def Fl.wt : Fl -> Nat
  | .mk _ a v ps ks => 1 + a.length + v.length + pcW ps + flwt ks
def flwt : List Fl -> Nat
  | [] => 0
  | k :: ks => Fl.wt k + flwt ks
end
theorem flwt_mem : ∀ {ks : List Fl} {k : Fl}, k ∈ ks -> k.wt <= flwt ks
  | [], _, h => by cases h
  | q :: ks, k, h => by
    simp only [flwt]
    rcases List.mem_cons.1 h with rfl | h
    . omega
    . have := flwt_mem h; omega
theorem flwt_len : ∀ ks : List Fl, ks.length <= flwt ks
  | [] => Nat.zero_le _
  | .mk _ _ _ _ _ :: ks => by
    have := flwt_len ks
    simp only [flwt, Fl.wt, List.length_cons]; omega
theorem flwt_kid {k : Int} {a v : List UInt8} {ps : Pcs} {ks : List Fl} {i : Nat} {f : Fl} (h : ks[i]? = some f) : f.wt < (Fl.mk k a v ps ks).wt := by
  have := flwt_mem (List.mem_of_getElem? h)
  simp only [Fl.wt]; omega
theorem pcW_len : ∀ ps : Pcs, ps.length <= pcW ps
  | [] => Nat.zero_le _
  | (k, t) :: ps => by have := pcW_len ps; simp only [pcW, List.length_cons]; omega
end Go.Proofs.YtibkffoeioidlaaDoor
namespace Go.Proofs.YtibkffoeioidlaaDoor
set_option linter.all false
set_option maxRecDepth 4000
open Go.RowKit

abbrev Bs := List UInt8
structure Mdf where
  op : Int
  name : Bs
  values : List Bs
structure Ctl where
  oid : Bs
  crit : Bool
  has : Bool
  value : Bs
structure Ms where
  id : Int
  op : Int
  dn : Bs
  ver : Int
  sasl : Bool
  mech : Bs
  text : Bs
  scope : Int
  deref : Int
  size : Int
  time : Int
  types : Bool
  fl : Fl
  names : List Bs
  attrs : List Atr
  mods : List Mdf
  rdn : Bs
  delOld : Bool
  hasSup : Bool
  sup : Bs
  attr : Bs
  target : Int
  oid : Bs
  has : Bool
  value : Bs
  code : Int
  matched : Bs
  ctls : List Ctl
def zM : Ms := ⟨0, 0, [], 0, false, [], [], 0, 0, 0, 0, false, zF, [], [], [], [], false, false, [], [], 0, [], false, [], 0, [], []⟩
def MdC (h : Heap) (a : Mdf) (r : List Value) : Prop := ∃ v, r = [.int .i64 a.op, str a.name, v] /\ HSl h v 1 (strsR a.values)
theorem MdC.mono {h h' : Heap} (hl : Heap.le h h') {a : Mdf} {r : List Value} : MdC h a r -> MdC h' a r
  | ⟨v, e, h1⟩ => ⟨v, e, h1.mono hl⟩
abbrev MdsC (h : Heap) (l : List Mdf) (v : Value) : Prop := SC MdC 3 h l v
theorem MdsC.mono {h h' : Heap} (hl : Heap.le h h') {l : List Mdf} {v : Value} (s : MdsC h l v) : MdsC h' l v := SC.mono (fun x => x.mono hl) hl s
def ctlR (c : Ctl) : List Value := [str c.oid, .bool c.crit, .bool c.has, str c.value]
def ctlsR (l : List Ctl) : List (List Value) := l.map ctlR
theorem ctlsR_length (l : List Ctl) : (ctlsR l).length = l.length := by simp [ctlsR]
theorem ctlsR_app (a b : List Ctl) : ctlsR (a ++ b) = ctlsR a ++ ctlsR b := by simp [ctlsR]
theorem ctlsR_get {l : List Ctl} {i : Nat} {c : Ctl} (h : l[i]? = some c) : (ctlsR l)[i]? = some (ctlR c) := by
  unfold ctlsR
  rw [List.getElem?_map, h]; rfl
def msR (m : Ms) (pv kv nv av mv cv : Value) : List Value :=
  [.int .i64 m.id, .int .i64 m.op, str m.dn, .int .i64 m.ver, .bool m.sasl, str m.mech, str m.text, .int .i64 m.scope, .int .i64 m.deref, .int .i64 m.size, .int .i64 m.time, .bool m.types,
   .int .i64 m.fl.kind, str m.fl.attr, str m.fl.value, pv, kv, nv, av, mv, str m.rdn, .bool m.delOld, .bool m.hasSup, str m.sup, str m.attr, .int .i64 m.target, str m.oid, .bool m.has, str m.value, .int .i64 m.code, str m.matched, cv]
def flR (f : Fl) (pv kv : Value) : List Value := [.int .i64 f.kind, str f.attr, str f.value, pv, kv]
structure MsV (h : Heap) (m : Ms) (pv kv nv av mv cv : Value) : Prop where
  fl : FlC h m.fl (flR m.fl pv kv)
  names : HSl h nv 1 (strsR m.names)
  attrs : AtrsC h m.attrs av
  mods : MdsC h m.mods mv
  ctls : HSl h cv 4 (ctlsR m.ctls)
theorem MsV.mono {h h' : Heap} {m : Ms} {pv kv nv av mv cv : Value} (s : MsV h m pv kv nv av mv cv) (hl : Heap.le h h') : MsV h' m pv kv nv av mv cv :=
  ⟨FlC.mono hl _ _ s.fl, s.names.mono hl, AtrsC.mono hl s.attrs, MdsC.mono hl s.mods, s.ctls.mono hl⟩
def MsC (h : Heap) (m : Ms) (r : List Value) : Prop := ∃ pv kv nv av mv cv, r = msR m pv kv nv av mv cv /\ MsV h m pv kv nv av mv cv
theorem MsC.mono {h h' : Heap} (hl : Heap.le h h') {m : Ms} {r : List Value} : MsC h m r -> MsC h' m r
  | ⟨pv, kv, nv, av, mv, cv, e, s⟩ => ⟨pv, kv, nv, av, mv, cv, e, s.mono hl⟩
theorem MsC.len {h : Heap} {m : Ms} {r : List Value} : MsC h m r -> r.length = 32
  | ⟨_, _, _, _, _, _, e, _⟩ => by subst e; rfl
theorem zM_V (h : Heap) : MsV h zM (.slice none 0 0) (.slice none 0 0) (.slice none 0 0) (.slice none 0 0) (.slice none 0 0) (.slice none 0 0) :=
  ⟨zF_C h, HSl.nil h 1, SC.nil _ 2 h, SC.nil _ 3 h, HSl.nil h 4⟩
def bsW (l : List Bs) : Nat := (l.map fun s => s.length + 1).sum
def atrW (a : Atr) : Nat := 1 + a.1.length + bsW a.2
def atrsW (l : List Atr) : Nat := (l.map atrW).sum
def mdW (a : Mdf) : Nat := 1 + a.name.length + bsW a.values
def mdsW (l : List Mdf) : Nat := (l.map mdW).sum
def ctlW (c : Ctl) : Nat := 1 + c.oid.length + c.value.length
def ctlsW (l : List Ctl) : Nat := (l.map ctlW).sum
def Ms.wt (m : Ms) : Nat := m.dn.length + m.mech.length + m.text.length + m.fl.wt + bsW m.names + atrsW m.attrs + mdsW m.mods + m.rdn.length + m.sup.length + m.attr.length + m.oid.length + m.value.length + m.matched.length + ctlsW m.ctls
theorem bsW_len (l : List Bs) : l.length <= bsW l := by
  induction l with
  | nil => simp [bsW]
  | cons a l ih => simp only [bsW, List.map_cons, List.sum_cons, List.length_cons] at ih ⊢; omega
theorem atrsW_len (l : List Atr) : l.length <= atrsW l := by
  induction l with
  | nil => simp [atrsW]
  | cons a l ih => simp only [atrsW, List.map_cons, List.sum_cons, List.length_cons, atrW] at ih ⊢; omega
theorem mdsW_len (l : List Mdf) : l.length <= mdsW l := by
  induction l with
  | nil => simp [mdsW]
  | cons a l ih => simp only [mdsW, List.map_cons, List.sum_cons, List.length_cons, mdW] at ih ⊢; omega
theorem ctlsW_len (l : List Ctl) : l.length <= ctlsW l := by
  induction l with
  | nil => simp [ctlsW]
  | cons a l ih => simp only [ctlsW, List.map_cons, List.sum_cons, List.length_cons, ctlW] at ih ⊢; omega
theorem sum_mem {α : Type} {m : α -> Nat} {a : α} : ∀ {l : List α}, a ∈ l -> m a <= (l.map m).sum
  | [], h => by simp at h
  | b :: l, h => by
    simp only [List.map_cons, List.sum_cons]
    rcases List.mem_cons.1 h with rfl | h
    . omega
    . have := sum_mem (m := m) h; omega
end Go.Proofs.YtibkffoeioidlaaDoor
namespace Go.Proofs.YtibkffoeioidlaaDoor
set_option linter.all false
set_option maxRecDepth 4000
open Go.RowKit

def Nd.tag : Nd -> Int | .mk t _ _ => t
def Nd.data : Nd -> Bs | .mk _ d _ => d
def Nd.kids : Nd -> List Nd | .mk _ _ k => k
def intB (n : Int) : Bs := putB (IntKind.u64.wrap n).toNat (intF n 7 1)
def lfN (t : Int) (d : Bs) : Nd := .mk t d []
def sqN (t : Int) (l : List Nd) : Nd := .mk t [] l
def numN (t n : Int) : Nd := lfN t (intB n)
def txtN (s : Bs) : Nd := lfN 4 s
def truN (b : Bool) : Nd := lfN 1 (if b = true then [255] else [0])
def txtsN (l : List Bs) : List Nd := l.map txtN
def attrN (a : Atr) : Nd := sqN 48 [txtN a.1, sqN 49 (txtsN a.2)]
def modN (x : Mdf) : Nd := sqN 48 [numN 10 x.op, attrN (x.name, x.values)]
def ctlK (c : Ctl) : List Nd := txtN c.oid :: ((if c.crit = true then [truN true] else []) ++ (if c.has = true then [txtN c.value] else []))
def ctlN (c : Ctl) : Nd := sqN 48 (ctlK c)
def pcsN (ps : Pcs) : List Nd := ps.map fun p => lfN (128 + p.1) p.2
mutual
def flN : Fl -> Nd
  | .mk k a v ps ks => if k = 7 then lfN 135 a else if k < 3 then sqN (160 + k) (flsN ks) else if k = 4 then sqN 164 [txtN a, sqN 48 (pcsN ps)] else sqN (160 + k) [txtN a, txtN v]
def flsN : List Fl -> List Nd
  | [] => []
  | k :: ks => flN k :: flsN ks
end
mutual
def askM : Nat -> Fl -> Option Nat
  | n, .mk k _ _ ps ks => if 1000 < n + 1 \/ k < 0 \/ 8 < k \/ (k = 2 /\ ks.length ≠ 1) \/ (k = 4 /\ pcsOk ps = false) then none else if k < 3 then asksM (n + 1) ks else some (n + 1)
def asksM : Nat -> List Fl -> Option Nat
  | n, [] => some n
  | n, k :: ks => match askM n k with
    | none => none
    | some m => asksM m ks
end
def tagM (op : Int) : Int := if op = 2 then 66 else if op = 10 then 74 else if op = 16 then 80 else if (0 <= op /\ op <= 15) \/ op = 23 \/ op = 24 then 96 + op else 0
def partsM (m : Ms) : List Nd :=
  if m.op = 0 then [numN 2 m.ver, txtN m.dn, if m.sasl = false then lfN 128 m.text else sqN 163 (txtN m.mech :: if m.has = true then [txtN m.value] else [])]
  else if m.op = 3 then [txtN m.dn, numN 10 m.scope, numN 10 m.deref, numN 2 m.size, numN 2 m.time, truN m.types, flN m.fl, sqN 48 (txtsN m.names)]
  else if m.op = 4 \/ m.op = 8 then [txtN m.dn, sqN 48 (m.attrs.map attrN)]
  else if m.op = 6 then [txtN m.dn, sqN 48 (m.mods.map modN)]
  else if m.op = 12 then txtN m.dn :: txtN m.rdn :: truN m.delOld :: (if m.hasSup = true then [lfN 128 m.sup] else [])
  else if m.op = 14 then [txtN m.dn, sqN 48 [txtN m.attr, txtN m.text]]
  else if m.op = 23 then lfN 128 m.oid :: (if m.has = true then [lfN 129 m.value] else [])
  else numN 10 m.code :: txtN m.matched :: txtN m.text :: ((if m.op = 24 /\ m.oid ≠ [] then [lfN 138 m.oid] else []) ++ (if m.op = 24 /\ m.has = true then [lfN 139 m.value] else []))
def elemM (m : Ms) : Nd := if m.op = 2 then lfN (tagM m.op) [] else if m.op = 10 then lfN (tagM m.op) m.dn else if m.op = 16 then lfN (tagM m.op) (intB m.target) else sqN (tagM m.op) (partsM m)
def inM (n lo hi : Int) : Bool := decide (lo <= n /\ n <= hi)
def okM (m : Ms) : Bool :=
  if m.op = 0 then inM m.ver 1 127
  else if m.op = 2 \/ m.op = 10 \/ m.op = 4 \/ m.op = 12 \/ m.op = 14 \/ m.op = 23 then true
  else if m.op = 3 then (askM 0 m.fl).isSome && (inM m.scope 0 2 && (inM m.deref 0 3 && (inM m.size 0 2147483647 && inM m.time 0 2147483647)))
  else if m.op = 8 then m.attrs.all fun a => decide (0 < a.2.length)
  else if m.op = 6 then m.mods.all fun x => inM x.op 0 2
  else if m.op = 16 then inM m.target 0 2147483647
  else inM m.code 0 2147483647
def nodeM (m : Ms) : Nd := sqN 48 (numN 2 m.id :: elemM m :: (if m.ctls.length = 0 then [] else [sqN 160 (m.ctls.map ctlN)]))
def writeM (m : Ms) : Bs × Int := if inM m.id 0 2147483647 = false then ([], 23) else if tagM m.op = 0 then ([], 24) else if okM m = false then ([], 4) else putM 1 (nodeM m)
theorem intB_len (n : Int) : (intB n).length <= 8 := by
  have := intF_range n 7 1
  unfold intB
  rw [putB_length]; omega
theorem wt_lf (t : Int) (d : Bs) : (lfN t d).wt = 1 + d.length := by simp only [lfN, Nd.wt, wts]; omega
theorem wt_sq (t : Int) (l : List Nd) : (sqN t l).wt = 1 + wts l := by simp only [sqN, Nd.wt, List.length_nil, Nat.add_zero]
theorem wt_num (t n : Int) : (numN t n).wt <= 9 := by have := intB_len n; unfold numN; rw [wt_lf]; omega
theorem wt_txt (s : Bs) : (txtN s).wt = 1 + s.length := wt_lf 4 s
theorem wt_tru (b : Bool) : (truN b).wt = 2 := by unfold truN; rw [wt_lf]; split <;> rfl
theorem wt_txts : ∀ l : List Bs, wts (txtsN l) = bsW l
  | [] => by simp [txtsN, wts, bsW]
  | a :: l => by
    have ih := wt_txts l
    unfold txtsN bsW at ih ⊢
    simp only [List.map_cons, wts, List.sum_cons, ih, wt_txt]; omega
theorem wt_attr (a : Atr) : (attrN a).wt <= 3 * atrW a := by
  unfold attrN atrW
  simp only [wt_sq, wts, wt_txt, wt_txts]; omega
theorem wt_attrs : ∀ l : List Atr, wts (l.map attrN) <= 3 * atrsW l
  | [] => by simp [wts]
  | a :: l => by
    have := wt_attrs l
    have := wt_attr a
    unfold atrsW at *
    simp only [List.map_cons, wts, List.sum_cons]; omega
theorem wt_mod (a : Mdf) : (modN a).wt <= 14 * mdW a := by
  have h1 := wt_attr (a.name, a.values)
  have h2 := wt_num 10 a.op
  unfold modN mdW
  simp only [atrW] at h1
  simp only [wt_sq, wts]
  omega
theorem wt_mods : ∀ l : List Mdf, wts (l.map modN) <= 14 * mdsW l
  | [] => by simp [wts]
  | a :: l => by
    have := wt_mods l
    have := wt_mod a
    unfold mdsW at *
    simp only [List.map_cons, wts, List.sum_cons]; omega
theorem wt_ctl (c : Ctl) : (ctlN c).wt <= 5 * ctlW c := by
  unfold ctlN ctlK ctlW
  rw [wt_sq]
  simp only [wts, wt_txt, wts_append]
  have h1 : wts (if c.crit = true then [truN true] else []) <= 2 := by split <;> simp [wts, wt_tru]
  have h2 : wts (if c.has = true then [txtN c.value] else []) <= 1 + c.value.length := by split <;> simp [wts, wt_txt]
  omega
theorem wt_ctls : ∀ l : List Ctl, wts (l.map ctlN) <= 5 * ctlsW l
  | [] => by simp [wts]
  | a :: l => by
    have := wt_ctls l
    have := wt_ctl a
    unfold ctlsW at *
    simp only [List.map_cons, wts, List.sum_cons]; omega
theorem wt_pcs : ∀ ps : Pcs, wts (pcsN ps) <= pcW ps
  | [] => by simp [pcsN, wts]
  | (k, t) :: ps => by
    have := wt_pcs ps
    unfold pcsN at *
    simp only [List.map_cons, wts, wt_lf, pcW]; omega
mutual
theorem wt_fl : ∀ f : Fl, (flN f).wt <= 4 * f.wt
  | .mk k a v ps ks => by
    have h1 := wt_fls ks
    have h2 := wt_pcs ps
    rw [flN]
    simp only [Fl.wt]
    split
    . rw [wt_lf]; omega
    . split
      . rw [wt_sq]; omega
      . split
        . simp only [wt_sq, wts, wt_txt]; omega
        . simp only [wt_sq, wts, wt_txt]; omega
theorem wt_fls : ∀ l : List Fl, wts (flsN l) <= 4 * flwt l
  | [] => by simp [flsN, wts]
  | k :: ks => by
    have := wt_fl k
    have := wt_fls ks
    simp only [flsN, wts, flwt]; omega
end
theorem wt_parts (m : Ms) : wts (partsM m) <= 50 + 14 * m.wt := by
  have h1 := wt_fl m.fl
  have h2 := wt_attrs m.attrs
  have h3 := wt_mods m.mods
  have n1 := wt_num 2 m.ver
  have n2 := wt_num 10 m.scope
  have n3 := wt_num 10 m.deref
  have n4 := wt_num 2 m.size
  have n5 := wt_num 2 m.time
  have n6 := wt_num 10 m.code
  unfold Ms.wt partsM
  split
  . simp only [wts, wt_txt]
    split
    . rw [wt_lf]; omega
    . rw [wt_sq]; simp only [wts, wt_txt]
      split <;> simp only [wts, wt_txt] <;> omega
  split
  . simp only [wts, wt_txt, wt_tru, wt_sq, wt_txts]; omega
  split
  . simp only [wts, wt_txt, wt_sq]; omega
  split
  . simp only [wts, wt_txt, wt_sq]; omega
  split
  . simp only [wts, wt_txt, wt_tru]
    split <;> simp only [wts, wt_lf] <;> omega
  split
  . simp only [wts, wt_txt, wt_sq]; omega
  split
  . simp only [wts, wt_lf]
    split <;> simp only [wts, wt_lf] <;> omega
  . simp only [wts, wt_txt, wts_append]
    have h1 : wts (if m.op = 24 /\ m.oid ≠ [] then [lfN 138 m.oid] else []) <= 1 + m.oid.length := by split <;> simp [wts, wt_lf]
    have h2 : wts (if m.op = 24 /\ m.has = true then [lfN 139 m.value] else []) <= 1 + m.value.length := by split <;> simp [wts, wt_lf]
    omega
theorem wt_elem (m : Ms) : (elemM m).wt <= 51 + 14 * m.wt := by
  have h1 := wt_parts m
  have h2 := intB_len m.target
  unfold elemM
  split
  . rw [wt_lf]; simp only [List.length_nil]; omega
  split
  . rw [wt_lf]; unfold Ms.wt at *; omega
  split
  . rw [wt_lf]; omega
  . rw [wt_sq]; omega
theorem wt_node (m : Ms) : (nodeM m).wt <= 70 + 20 * m.wt := by
  have h1 := wt_elem m
  have h2 := wt_num 2 m.id
  have h3 := wt_ctls m.ctls
  have h4 : wts (if m.ctls.length = 0 then [] else [sqN 160 (m.ctls.map ctlN)]) <= 1 + 5 * ctlsW m.ctls := by split <;> simp only [wts, wt_sq] <;> omega
  unfold nodeM
  rw [wt_sq]
  simp only [wts]
  have h5 : ctlsW m.ctls <= m.wt := by unfold Ms.wt; omega
  omega
end Go.Proofs.YtibkffoeioidlaaDoor
