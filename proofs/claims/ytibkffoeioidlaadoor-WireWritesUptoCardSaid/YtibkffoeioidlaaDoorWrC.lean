/- Messages: what they are, and what they look like in memory that is only read. -/
import Derived.Test.YtibkffoeioidlaaDoorOcA
import Derived.Test.YtibkffoeioidlaaDoorFlO
import Derived.Test.YtibkffoeioidlaaDoorTlvS
import Derived.Test.YtibkffoeioidlaaDoorTlvB
import Derived.Test.YtibkffoeioidlaaDoorFlC
import Derived.Test.YtibkffoeioidlaaDoorTlvQ
namespace Go.Proofs.YtibkffoeioidlaaDoor
set_option linter.all false
set_option maxRecDepth 4000
open Go.RowKit

abbrev Bs := List UInt8
structure Mdf where
  op : Int
  name : Bs
  values : List Bs
structure Ctl where
  oid : Bs
  crit : Bool
  has : Bool
  value : Bs
structure Ms where
  id : Int
  op : Int
  dn : Bs
  ver : Int
  sasl : Bool
  mech : Bs
  text : Bs
  scope : Int
  deref : Int
  size : Int
  time : Int
  types : Bool
  fl : Fl
  names : List Bs
  attrs : List Atr
  mods : List Mdf
  rdn : Bs
  delOld : Bool
  hasSup : Bool
  sup : Bs
  attr : Bs
  target : Int
  oid : Bs
  has : Bool
  value : Bs
  code : Int
  matched : Bs
  ctls : List Ctl
def zM : Ms := ⟨0, 0, [], 0, false, [], [], 0, 0, 0, 0, false, zF, [], [], [], [], false, false, [], [], 0, [], false, [], 0, [], []⟩
def MdC (h : Heap) (a : Mdf) (r : List Value) : Prop := ∃ v, r = [.int .i64 a.op, str a.name, v] /\ HSl h v 1 (strsR a.values)
theorem MdC.mono {h h' : Heap} (hl : Heap.le h h') {a : Mdf} {r : List Value} : MdC h a r -> MdC h' a r
  | ⟨v, e, h1⟩ => ⟨v, e, h1.mono hl⟩
abbrev MdsC (h : Heap) (l : List Mdf) (v : Value) : Prop := SC MdC 3 h l v
theorem MdsC.mono {h h' : Heap} (hl : Heap.le h h') {l : List Mdf} {v : Value} (s : MdsC h l v) : MdsC h' l v := SC.mono (fun x => x.mono hl) hl s
def ctlR (c : Ctl) : List Value := [str c.oid, .bool c.crit, .bool c.has, str c.value]
def ctlsR (l : List Ctl) : List (List Value) := l.map ctlR
theorem ctlsR_length (l : List Ctl) : (ctlsR l).length = l.length := by simp [ctlsR]
theorem ctlsR_app (a b : List Ctl) : ctlsR (a ++ b) = ctlsR a ++ ctlsR b := by simp [ctlsR]
theorem ctlsR_get {l : List Ctl} {i : Nat} {c : Ctl} (h : l[i]? = some c) : (ctlsR l)[i]? = some (ctlR c) := by
  unfold ctlsR
  rw [List.getElem?_map, h]; rfl
def msR (m : Ms) (pv kv nv av mv cv : Value) : List Value :=
  [.int .i64 m.id, .int .i64 m.op, str m.dn, .int .i64 m.ver, .bool m.sasl, str m.mech, str m.text, .int .i64 m.scope, .int .i64 m.deref, .int .i64 m.size, .int .i64 m.time, .bool m.types,
   .int .i64 m.fl.kind, str m.fl.attr, str m.fl.value, pv, kv, nv, av, mv, str m.rdn, .bool m.delOld, .bool m.hasSup, str m.sup, str m.attr, .int .i64 m.target, str m.oid, .bool m.has, str m.value, .int .i64 m.code, str m.matched, cv]
def flR (f : Fl) (pv kv : Value) : List Value := [.int .i64 f.kind, str f.attr, str f.value, pv, kv]
structure MsV (h : Heap) (m : Ms) (pv kv nv av mv cv : Value) : Prop where
  fl : FlC h m.fl (flR m.fl pv kv)
  names : HSl h nv 1 (strsR m.names)
  attrs : AtrsC h m.attrs av
  mods : MdsC h m.mods mv
  ctls : HSl h cv 4 (ctlsR m.ctls)
theorem MsV.mono {h h' : Heap} {m : Ms} {pv kv nv av mv cv : Value} (s : MsV h m pv kv nv av mv cv) (hl : Heap.le h h') : MsV h' m pv kv nv av mv cv :=
  ⟨FlC.mono hl _ _ s.fl, s.names.mono hl, AtrsC.mono hl s.attrs, MdsC.mono hl s.mods, s.ctls.mono hl⟩
def MsC (h : Heap) (m : Ms) (r : List Value) : Prop := ∃ pv kv nv av mv cv, r = msR m pv kv nv av mv cv /\ MsV h m pv kv nv av mv cv
theorem MsC.mono {h h' : Heap} (hl : Heap.le h h') {m : Ms} {r : List Value} : MsC h m r -> MsC h' m r
  | ⟨pv, kv, nv, av, mv, cv, e, s⟩ => ⟨pv, kv, nv, av, mv, cv, e, s.mono hl⟩
theorem MsC.len {h : Heap} {m : Ms} {r : List Value} : MsC h m r -> r.length = 32
  | ⟨_, _, _, _, _, _, e, _⟩ => by subst e; rfl
def bsW (l : List Bs) : Nat := (l.map fun s => s.length + 1).sum
def atrW (a : Atr) : Nat := 1 + a.1.length + bsW a.2
def atrsW (l : List Atr) : Nat := (l.map atrW).sum
def mdW (a : Mdf) : Nat := 1 + a.name.length + bsW a.values
def mdsW (l : List Mdf) : Nat := (l.map mdW).sum
def ctlW (c : Ctl) : Nat := 1 + c.oid.length + c.value.length
def ctlsW (l : List Ctl) : Nat := (l.map ctlW).sum
def Ms.wt (m : Ms) : Nat := m.dn.length + m.mech.length + m.text.length + m.fl.wt + bsW m.names + atrsW m.attrs + mdsW m.mods + m.rdn.length + m.sup.length + m.attr.length + m.oid.length + m.value.length + m.matched.length + ctlsW m.ctls
theorem bsW_len (l : List Bs) : l.length <= bsW l := by
  induction l with
  | nil => simp [bsW]
  | cons a l ih => simp only [bsW, List.map_cons, List.sum_cons, List.length_cons] at ih ⊢; omega
theorem atrsW_len (l : List Atr) : l.length <= atrsW l := by
  induction l with
  | nil => simp [atrsW]
  | cons a l ih => simp only [atrsW, List.map_cons, List.sum_cons, List.length_cons, atrW] at ih ⊢; omega
theorem mdsW_len (l : List Mdf) : l.length <= mdsW l := by
  induction l with
  | nil => simp [mdsW]
  | cons a l ih => simp only [mdsW, List.map_cons, List.sum_cons, List.length_cons, mdW] at ih ⊢; omega
theorem ctlsW_len (l : List Ctl) : l.length <= ctlsW l := by
  induction l with
  | nil => simp [ctlsW]
  | cons a l ih => simp only [ctlsW, List.map_cons, List.sum_cons, List.length_cons, ctlW] at ih ⊢; omega
theorem sum_mem {α : Type} {m : α -> Nat} {a : α} : ∀ {l : List α}, a ∈ l -> m a <= (l.map m).sum
  | [], h => by simp at h
  | b :: l, h => by
    simp only [List.map_cons, List.sum_cons]
    rcases List.mem_cons.1 h with rfl | h
    . omega
    . have := sum_mem (m := m) h; omega
end Go.Proofs.YtibkffoeioidlaaDoor
namespace Go.Proofs.YtibkffoeioidlaaDoor
set_option linter.all false
set_option maxRecDepth 4000
open Go.RowKit

def Nd.tag : Nd -> Int | .mk t _ _ => t
def Nd.data : Nd -> Bs | .mk _ d _ => d
def Nd.kids : Nd -> List Nd | .mk _ _ k => k
def intB (n : Int) : Bs := putB (IntKind.u64.wrap n).toNat (intF n 7 1)
def lfN (t : Int) (d : Bs) : Nd := .mk t d []
def sqN (t : Int) (l : List Nd) : Nd := .mk t [] l
def numN (t n : Int) : Nd := lfN t (intB n)
def txtN (s : Bs) : Nd := lfN 4 s
def truN (b : Bool) : Nd := lfN 1 (if b = true then [255] else [0])
def txtsN (l : List Bs) : List Nd := l.map txtN
def attrN (a : Atr) : Nd := sqN 48 [txtN a.1, sqN 49 (txtsN a.2)]
def modN (x : Mdf) : Nd := sqN 48 [numN 10 x.op, attrN (x.name, x.values)]
def ctlK (c : Ctl) : List Nd := txtN c.oid :: ((if c.crit = true then [truN true] else []) ++ (if c.has = true then [txtN c.value] else []))
def ctlN (c : Ctl) : Nd := sqN 48 (ctlK c)
def pcsN (ps : Pcs) : List Nd := ps.map fun p => lfN (128 + p.1) p.2
mutual
def flN : Fl -> Nd
  | .mk k a v ps ks => if k = 7 then lfN 135 a else if k < 3 then sqN (160 + k) (flsN ks) else if k = 4 then sqN 164 [txtN a, sqN 48 (pcsN ps)] else sqN (160 + k) [txtN a, txtN v]
def flsN : List Fl -> List Nd
  | [] => []
  | k :: ks => flN k :: flsN ks
end
mutual
def askM : Nat -> Fl -> Option Nat
  | n, .mk k _ _ ps ks => if 1000 < n + 1 \/ k < 0 \/ 8 < k \/ (k = 2 /\ ks.length ≠ 1) \/ (k = 4 /\ pcsOk ps = false) then none else if k < 3 then asksM (n + 1) ks else some (n + 1)
def asksM : Nat -> List Fl -> Option Nat
  | n, [] => some n
  | n, k :: ks => match askM n k with
    | none => none
    | some m => asksM m ks
end
def tagM (op : Int) : Int := if op = 2 then 66 else if op = 10 then 74 else if op = 16 then 80 else if (0 <= op /\ op <= 15) \/ op = 23 \/ op = 24 then 96 + op else 0
def partsM (m : Ms) : List Nd :=
  if m.op = 0 then [numN 2 m.ver, txtN m.dn, if m.sasl = false then lfN 128 m.text else sqN 163 (txtN m.mech :: if m.has = true then [txtN m.value] else [])]
  else if m.op = 3 then [txtN m.dn, numN 10 m.scope, numN 10 m.deref, numN 2 m.size, numN 2 m.time, truN m.types, flN m.fl, sqN 48 (txtsN m.names)]
  else if m.op = 4 \/ m.op = 8 then [txtN m.dn, sqN 48 (m.attrs.map attrN)]
  else if m.op = 6 then [txtN m.dn, sqN 48 (m.mods.map modN)]
  else if m.op = 12 then txtN m.dn :: txtN m.rdn :: truN m.delOld :: (if m.hasSup = true then [lfN 128 m.sup] else [])
  else if m.op = 14 then [txtN m.dn, sqN 48 [txtN m.attr, txtN m.text]]
  else if m.op = 23 then lfN 128 m.oid :: (if m.has = true then [lfN 129 m.value] else [])
  else numN 10 m.code :: txtN m.matched :: txtN m.text :: ((if m.op = 24 /\ m.oid ≠ [] then [lfN 138 m.oid] else []) ++ (if m.op = 24 /\ m.has = true then [lfN 139 m.value] else []))
def elemM (m : Ms) : Nd := if m.op = 2 then lfN (tagM m.op) [] else if m.op = 10 then lfN (tagM m.op) m.dn else if m.op = 16 then lfN (tagM m.op) (intB m.target) else sqN (tagM m.op) (partsM m)
def inM (n lo hi : Int) : Bool := decide (lo <= n /\ n <= hi)
def okM (m : Ms) : Bool :=
  if m.op = 0 then inM m.ver 1 127
  else if m.op = 2 \/ m.op = 10 \/ m.op = 4 \/ m.op = 12 \/ m.op = 14 \/ m.op = 23 then true
  else if m.op = 3 then (askM 0 m.fl).isSome && (inM m.scope 0 2 && (inM m.deref 0 3 && (inM m.size 0 2147483647 && inM m.time 0 2147483647)))
  else if m.op = 8 then m.attrs.all fun a => decide (0 < a.2.length)
  else if m.op = 6 then m.mods.all fun x => inM x.op 0 2
  else if m.op = 16 then inM m.target 0 2147483647
  else inM m.code 0 2147483647
def nodeM (m : Ms) : Nd := sqN 48 (numN 2 m.id :: elemM m :: (if m.ctls.length = 0 then [] else [sqN 160 (m.ctls.map ctlN)]))
def writeM (m : Ms) : Bs × Int := if inM m.id 0 2147483647 = false then ([], 23) else if tagM m.op = 0 then ([], 24) else if okM m = false then ([], 4) else putM 1 (nodeM m)
theorem intB_len (n : Int) : (intB n).length <= 8 := by
  have := intF_range n 7 1
  unfold intB
  rw [putB_length]; omega
theorem wt_lf (t : Int) (d : Bs) : (lfN t d).wt = 1 + d.length := by simp only [lfN, Nd.wt, wts]; omega
theorem wt_sq (t : Int) (l : List Nd) : (sqN t l).wt = 1 + wts l := by simp only [sqN, Nd.wt, List.length_nil, Nat.add_zero]
theorem wt_num (t n : Int) : (numN t n).wt <= 9 := by have := intB_len n; unfold numN; rw [wt_lf]; omega
theorem wt_txt (s : Bs) : (txtN s).wt = 1 + s.length := wt_lf 4 s
theorem wt_tru (b : Bool) : (truN b).wt = 2 := by unfold truN; rw [wt_lf]; split <;> rfl
theorem wt_txts : ∀ l : List Bs, wts (txtsN l) = bsW l
  | [] => by simp [txtsN, wts, bsW]
  | a :: l => by
    have ih := wt_txts l
    unfold txtsN bsW at ih ⊢
    simp only [List.map_cons, wts, List.sum_cons, ih, wt_txt]; omega
theorem wt_attr (a : Atr) : (attrN a).wt <= 3 * atrW a := by
  unfold attrN atrW
  simp only [wt_sq, wts, wt_txt, wt_txts]; omega
theorem wt_attrs : ∀ l : List Atr, wts (l.map attrN) <= 3 * atrsW l
  | [] => by simp [wts]
  | a :: l => by
    have := wt_attrs l
    have := wt_attr a
    unfold atrsW at *
    simp only [List.map_cons, wts, List.sum_cons]; omega
theorem wt_mod (a : Mdf) : (modN a).wt <= 14 * mdW a := by
  have h1 := wt_attr (a.name, a.values)
  have h2 := wt_num 10 a.op
  unfold modN mdW
  simp only [atrW] at h1
  simp only [wt_sq, wts]
  omega
theorem wt_mods : ∀ l : List Mdf, wts (l.map modN) <= 14 * mdsW l
  | [] => by simp [wts]
  | a :: l => by
    have := wt_mods l
    have := wt_mod a
    unfold mdsW at *
    simp only [List.map_cons, wts, List.sum_cons]; omega
theorem wt_ctl (c : Ctl) : (ctlN c).wt <= 5 * ctlW c := by
  unfold ctlN ctlK ctlW
  rw [wt_sq]
  simp only [wts, wt_txt, wts_append]
  have h1 : wts (if c.crit = true then [truN true] else []) <= 2 := by split <;> simp [wts, wt_tru]
  have h2 : wts (if c.has = true then [txtN c.value] else []) <= 1 + c.value.length := by split <;> simp [wts, wt_txt]
  omega
theorem wt_ctls : ∀ l : List Ctl, wts (l.map ctlN) <= 5 * ctlsW l
  | [] => by simp [wts]
  | a :: l => by
    have := wt_ctls l
    have := wt_ctl a
    unfold ctlsW at *
    simp only [List.map_cons, wts, List.sum_cons]; omega
theorem wt_pcs : ∀ ps : Pcs, wts (pcsN ps) <= pcW ps
  | [] => by simp [pcsN, wts]
  | (k, t) :: ps => by
    have := wt_pcs ps
    unfold pcsN at *
    simp only [List.map_cons, wts, wt_lf, pcW]; omega
mutual
theorem wt_fl : ∀ f : Fl, (flN f).wt <= 4 * f.wt
  | .mk k a v ps ks => by
    have h1 := wt_fls ks
    have h2 := wt_pcs ps
    rw [flN]
    simp only [Fl.wt]
    split
    . rw [wt_lf]; omega
    . split
      . rw [wt_sq]; omega
      . split
        . simp only [wt_sq, wts, wt_txt]; omega
        . simp only [wt_sq, wts, wt_txt]; omega
theorem wt_fls : ∀ l : List Fl, wts (flsN l) <= 4 * flwt l
  | [] => by simp [flsN, wts]
  | k :: ks => by
    have := wt_fl k
    have := wt_fls ks
    simp only [flsN, wts, flwt]; omega
end
theorem wt_parts (m : Ms) : wts (partsM m) <= 50 + 14 * m.wt := by
  have h1 := wt_fl m.fl
  have h2 := wt_attrs m.attrs
  have h3 := wt_mods m.mods
  have n1 := wt_num 2 m.ver
  have n2 := wt_num 10 m.scope
  have n3 := wt_num 10 m.deref
  have n4 := wt_num 2 m.size
  have n5 := wt_num 2 m.time
  have n6 := wt_num 10 m.code
  unfold Ms.wt partsM
  split
  . simp only [wts, wt_txt]
    split
    . rw [wt_lf]; omega
    . rw [wt_sq]; simp only [wts, wt_txt]
      split <;> simp only [wts, wt_txt] <;> omega
  split
  . simp only [wts, wt_txt, wt_tru, wt_sq, wt_txts]; omega
  split
  . simp only [wts, wt_txt, wt_sq]; omega
  split
  . simp only [wts, wt_txt, wt_sq]; omega
  split
  . simp only [wts, wt_txt, wt_tru]
    split <;> simp only [wts, wt_lf] <;> omega
  split
  . simp only [wts, wt_txt, wt_sq]; omega
  split
  . simp only [wts, wt_lf]
    split <;> simp only [wts, wt_lf] <;> omega
  . simp only [wts, wt_txt, wts_append]
    have h1 : wts (if m.op = 24 /\ m.oid ≠ [] then [lfN 138 m.oid] else []) <= 1 + m.oid.length := by split <;> simp [wts, wt_lf]
    have h2 : wts (if m.op = 24 /\ m.has = true then [lfN 139 m.value] else []) <= 1 + m.value.length := by split <;> simp [wts, wt_lf]
    omega
theorem wt_elem (m : Ms) : (elemM m).wt <= 51 + 14 * m.wt := by
  have h1 := wt_parts m
  have h2 := intB_len m.target
  unfold elemM
  split
  . rw [wt_lf]; simp only [List.length_nil]; omega
  split
  . rw [wt_lf]; unfold Ms.wt at *; omega
  split
  . rw [wt_lf]; omega
  . rw [wt_sq]; omega
theorem wt_node (m : Ms) : (nodeM m).wt <= 70 + 20 * m.wt := by
  have h1 := wt_elem m
  have h2 := wt_num 2 m.id
  have h3 := wt_ctls m.ctls
  have h4 : wts (if m.ctls.length = 0 then [] else [sqN 160 (m.ctls.map ctlN)]) <= 1 + 5 * ctlsW m.ctls := by split <;> simp only [wts, wt_sq] <;> omega
  unfold nodeM
  rw [wt_sq]
  simp only [wts]
  have h5 : ctlsW m.ctls <= m.wt := by unfold Ms.wt; omega
  omega
end Go.Proofs.YtibkffoeioidlaaDoor
namespace Go.Proofs.YtibkffoeioidlaaDoor
set_option linter.all false
set_option maxRecDepth 4000
open Go.RowKit

abbrev PS := Option (List Nd)
def endP : PS -> Bool
  | some [] => true
  | _ => false
def nxt (t : Int) : PS -> PS
  | some (n :: l) => if n.tag = t then some l else none
  | _ => none
def nxN (t : Int) : PS -> Nd
  | some (n :: l) => if n.tag = t then n else zN
  | _ => zN
def bdS (s : PS) (d : Bs) (lo hi : Int) : PS := if numOk d = true /\ lo <= numV d /\ numV d <= hi then s else none
def bdV (s : PS) (d : Bs) (lo hi : Int) : Int := if (bdS s d lo hi).isSome = true then numV d else 0
def nmS (t lo hi : Int) (s : PS) : PS := bdS (nxt t s) (nxN t s).data lo hi
def nmV (t lo hi : Int) (s : PS) : Int := bdV (nxt t s) (nxN t s).data lo hi
def trS (s : PS) : PS := if (nxN 1 s).data = [255] \/ (nxN 1 s).data = [0] then nxt 1 s else none
def trV (s : PS) : Bool := decide ((nxN 1 s).data = [255])
def myB (t : Int) (s : PS) : Bool := (nxt t s).isSome
def myS (t : Int) (s : PS) : PS := if myB t s = true then nxt t s else s
def txV (s : PS) : Bs := (nxN 4 s).data
def wiS (t : Int) (s : PS) : PS := if (nxt t s).isSome = true then some (nxN t s).kids else none
def all4 (l : List Nd) : Bool := l.all fun n => decide (n.tag = 4)
def datas (l : List Nd) : List Bs := l.map Nd.data
def vlO (s : PS) : Option Atr := match wiS 49 (nxt 4 s), nxt 49 (nxt 4 s) with
  | some l, some [] => if all4 l = true then some (txV s, datas l) else none
  | _, _ => none
def atO (n : Nd) : Option Atr := vlO (wiS 48 (some [n]))
def mdO (n : Nd) : Option Mdf :=
  match vlO (wiS 48 (nmS 10 0 2 (wiS 48 (some [n])))), nxt 48 (nmS 10 0 2 (wiS 48 (some [n]))) with
  | some a, some [] => some ⟨nmV 10 0 2 (wiS 48 (some [n])), a.1, a.2⟩
  | _, _ => none
def allO {α : Type} (f : Nd -> Option α) : List Nd -> Option (List α)
  | [] => some []
  | n :: l => match f n, allO f l with
    | some a, some xs => some (a :: xs)
    | _, _ => none
def ctO (n : Nd) : Option Ctl :=
  let s := wiS 48 (some [n])
  let s1 := nxt 4 s
  let s2 := if myB 1 s1 = true then trS s1 else s1
  if endP (myS 4 s2) = true then some ⟨txV s, if myB 1 s1 = true then trV s1 else false, myB 4 s2, (nxN 4 s2).data⟩ else none
def pcsR_of (l : List Nd) : Pcs := l.map fun n => (n.tag - 128, n.data)
mutual
def rdF : Nd -> Nat -> Option (Fl × Nat)
  | .mk t d ks, n =>
    if 1000 < n + 1 then none else if t = 135 then some (.mk 7 d [] [] [], n + 1)
    else if t = 160 \/ t = 161 \/ t = 162 then (match rdFs ks (n + 1) with
      | none => none
      | some (l, m) => if t = 162 /\ l.length ≠ 1 then none else some (.mk (t - 160) [] [] [] l, m))
    else if t = 164 then (if endP (nxt 48 (nxt 4 (some ks))) = true /\ pcsOk (pcsR_of (nxN 48 (nxt 4 (some ks))).kids) = true then some (.mk 4 (txV (some ks)) [] (pcsR_of (nxN 48 (nxt 4 (some ks))).kids) [], n + 1) else none)
    else if t = 163 \/ t = 165 \/ t = 166 \/ t = 168 then (if endP (nxt 4 (nxt 4 (some ks))) = true then some (.mk (t - 160) (txV (some ks)) (txV (nxt 4 (some ks))) [] [], n + 1) else none)
    else none
def rdFs : List Nd -> Nat -> Option (List Fl × Nat)
  | [], n => some ([], n)
  | k :: ks, n => match rdF k n with
    | none => none
    | some (f, m) => match rdFs ks m with
      | none => none
      | some (l, q) => some (f :: l, q)
end
def bindR (m : Ms) (p : PS) : Option Ms :=
  let p1 := nmS 2 1 127 p
  let p2 := nxt 4 p1
  if myB 128 p2 = true then (if endP (nxt 128 p2) = true then some { m with ver := nmV 2 1 127 p, dn := txV p1, text := (nxN 128 p2).data } else none)
  else
    let x := wiS 163 p2
    if endP (nxt 163 p2) = true /\ endP (myS 4 (nxt 4 x)) = true then some { m with ver := nmV 2 1 127 p, dn := txV p1, sasl := true, mech := txV x, has := myB 4 (nxt 4 x), value := (nxN 4 (nxt 4 x)).data } else none
def searchR (m : Ms) (p : PS) : Option Ms :=
  let p1 := nxt 4 p
  let p2 := nmS 10 0 2 p1
  let p3 := nmS 10 0 3 p2
  let p4 := nmS 2 0 2147483647 p3
  let p5 := nmS 2 0 2147483647 p4
  match trS p5 with
  | some (k :: r) => (match rdF k 0 with
    | none => none
    | some (f, _) => (match wiS 48 (some r), nxt 48 (some r) with
      | some l, some [] => if all4 l = true then some { m with dn := txV p, scope := nmV 10 0 2 p1, deref := nmV 10 0 3 p2, size := nmV 2 0 2147483647 p3, time := nmV 2 0 2147483647 p4, types := trV p5, fl := f, names := datas l } else none
      | _, _ => none))
  | _ => none
def opR (m : Ms) (n : Nd) : Option Ms :=
  let p : PS := some n.kids
  if m.op = 0 then bindR m p
  else if m.op = 2 then (if n.data = [] then some m else none)
  else if m.op = 3 then searchR m p
  else if m.op = 4 \/ m.op = 8 then (match wiS 48 (nxt 4 p), nxt 48 (nxt 4 p) with
    | some l, some [] => (match allO atO l with
      | some xs => if m.op = 4 \/ (xs.all fun a => decide (0 < a.2.length)) = true then some { m with dn := txV p, attrs := xs } else none
      | none => none)
    | _, _ => none)
  else if m.op = 6 then (match wiS 48 (nxt 4 p), nxt 48 (nxt 4 p) with
    | some l, some [] => (match allO mdO l with
      | some xs => some { m with dn := txV p, mods := xs }
      | none => none)
    | _, _ => none)
  else if m.op = 10 then some { m with dn := n.data }
  else if m.op = 12 then
    let p2 := nxt 4 (nxt 4 p)
    let p3 := trS p2
    if endP (myS 128 p3) = true then some { m with dn := txV p, rdn := txV (nxt 4 p), delOld := trV p2, hasSup := myB 128 p3, sup := (nxN 128 p3).data } else none
  else if m.op = 14 then
    let a := wiS 48 (nxt 4 p)
    if endP (nxt 48 (nxt 4 p)) = true /\ endP (nxt 4 (nxt 4 a)) = true then some { m with dn := txV p, attr := txV a, text := txV (nxt 4 a) } else none
  else if m.op = 16 then (if endP (bdS p n.data 0 2147483647) = true then some { m with target := bdV p n.data 0 2147483647 } else none)
  else if m.op = 23 then
    let p1 := nxt 128 p
    if endP (myS 129 p1) = true then some { m with oid := (nxN 128 p).data, has := myB 129 p1, value := (nxN 129 p1).data } else none
  else
    let p1 := nmS 10 0 2147483647 p
    let p3 := nxt 4 (nxt 4 p1)
    if m.op = 24 then
      let p4 := myS 138 p3
      if endP (myS 139 p4) = true then some { m with code := nmV 10 0 2147483647 p, matched := txV p1, text := txV (nxt 4 p1), oid := (nxN 138 p3).data, has := myB 139 p4, value := (nxN 139 p4).data } else none
    else if endP (p3) = true then some { m with code := nmV 10 0 2147483647 p, matched := txV p1, text := txV (nxt 4 p1) } else none
def formsL : List (Int × Int) := [(0, 96), (1, 97), (2, 66), (3, 99), (4, 100), (5, 101), (6, 102), (7, 103), (8, 104), (9, 105), (10, 74), (11, 107), (12, 108), (13, 109), (14, 110), (15, 111), (16, 80), (23, 119), (24, 120)]
def lkR : List (Int × Int) -> Int -> Option Int -> Option Int
  | [], _, a => a
  | p :: l, t, a => lkR l t (if p.2 = t then some p.1 else a)
def opOf (t : Int) : Option Int := lkR formsL t none
def rdO (id : Int) (o : Nd) (cs : List Nd) : Except Int Ms := match opOf o.tag with
  | none => .error 24
  | some op => match opR { zM with id := id, op := op } o, allO ctO cs with
    | some m, some l => .ok { m with ctls := l }
    | _, _ => .error 4
def rdM (n : Nd) : Except Int Ms :=
  let s := wiS 48 (some [n])
  match nmS 2 0 2147483647 s with
  | some [o] => rdO (nmV 2 0 2147483647 s) o []
  | some [o, c] => if c.tag = 160 then rdO (nmV 2 0 2147483647 s) o c.kids else .error 4
  | _ => .error 4
def readM (s : Bs) : Except Int Ms := if (who s).2 = 0 then rdM (who s).1 else .error (who s).2
def bareC (c : Ctl) : Ctl := { c with value := if c.has = true then c.value else [] }
def bareM (m : Ms) : Ms :=
  let b : Ms := { zM with id := m.id, op := m.op, ctls := m.ctls.map bareC }
  if m.op = 0 then (if m.sasl = true then { b with dn := m.dn, ver := m.ver, sasl := true, mech := m.mech, has := m.has, value := if m.has = true then m.value else [] } else { b with dn := m.dn, ver := m.ver, text := m.text })
  else if m.op = 3 then { b with dn := m.dn, scope := m.scope, deref := m.deref, size := m.size, time := m.time, types := m.types, fl := bareF m.fl, names := m.names }
  else if m.op = 4 \/ m.op = 8 then { b with dn := m.dn, attrs := m.attrs }
  else if m.op = 6 then { b with dn := m.dn, mods := m.mods }
  else if m.op = 10 then { b with dn := m.dn }
  else if m.op = 12 then { b with dn := m.dn, rdn := m.rdn, delOld := m.delOld, hasSup := m.hasSup, sup := if m.hasSup = true then m.sup else [] }
  else if m.op = 14 then { b with dn := m.dn, attr := m.attr, text := m.text }
  else if m.op = 16 then { b with target := m.target }
  else if m.op = 23 then { b with oid := m.oid, has := m.has, value := if m.has = true then m.value else [] }
  else if m.op = 24 then { b with code := m.code, matched := m.matched, text := m.text, oid := m.oid, has := m.has, value := if m.has = true then m.value else [] }
  else if m.op = 1 \/ m.op = 5 \/ m.op = 7 \/ m.op = 9 \/ m.op = 11 \/ m.op = 13 \/ m.op = 15 then { b with code := m.code, matched := m.matched, text := m.text }
  else b
end Go.Proofs.YtibkffoeioidlaaDoor
