/- Messages: what elements say, and which message it is then. -/
import Derived.Test.YtibkffoeioidlaaDoorWrB
import Derived.Test.YtibkffoeioidlaaDoorTlvQ
import Derived.Test.YtibkffoeioidlaaDoorTlvN
import Derived.Test.YtibkffoeioidlaaDoorLtQ
import Derived.Test.YtibkffoeioidlaaDoorOcB
namespace Go.Proofs.YtibkffoeioidlaaDoor
set_option linter.all false
set_option maxRecDepth 4000
open Go.RowKit

abbrev PS := Option (List Nd)
def endP : PS -> Bool
  | some [] => true
  | _ => false
theorem endP_iff {s : PS} : endP s = true ↔ s = some [] := by
  match s with
  | none => simp [endP]
  | some [] => simp [endP]
  | some (a :: l) => simp [endP]
def nxt (t : Int) : PS -> PS
  | some (n :: l) => if n.tag = t then some l else none
  | _ => none
def nxN (t : Int) : PS -> Nd
  | some (n :: l) => if n.tag = t then n else zN
  | _ => zN
def bdS (s : PS) (d : Bs) (lo hi : Int) : PS := if numOk d = true /\ lo <= numV d /\ numV d <= hi then s else none
def bdV (s : PS) (d : Bs) (lo hi : Int) : Int := if (bdS s d lo hi).isSome = true then numV d else 0
def nmS (t lo hi : Int) (s : PS) : PS := bdS (nxt t s) (nxN t s).data lo hi
def nmV (t lo hi : Int) (s : PS) : Int := bdV (nxt t s) (nxN t s).data lo hi
def trS (s : PS) : PS := if (nxN 1 s).data = [255] \/ (nxN 1 s).data = [0] then nxt 1 s else none
def trV (s : PS) : Bool := decide ((nxN 1 s).data = [255])
def myB (t : Int) (s : PS) : Bool := (nxt t s).isSome
def myS (t : Int) (s : PS) : PS := if myB t s = true then nxt t s else s
def txV (s : PS) : Bs := (nxN 4 s).data
def wiS (t : Int) (s : PS) : PS := if (nxt t s).isSome = true then some (nxN t s).kids else none
def all4 (l : List Nd) : Bool := l.all fun n => decide (n.tag = 4)
def datas (l : List Nd) : List Bs := l.map Nd.data
def vlO (s : PS) : Option Atr := match wiS 49 (nxt 4 s), nxt 49 (nxt 4 s) with
  | some l, some [] => if all4 l = true then some (txV s, datas l) else none
  | _, _ => none
def atO (n : Nd) : Option Atr := vlO (wiS 48 (some [n]))
def mdO (n : Nd) : Option Mdf :=
  match vlO (wiS 48 (nmS 10 0 2 (wiS 48 (some [n])))), nxt 48 (nmS 10 0 2 (wiS 48 (some [n]))) with
  | some a, some [] => some ⟨nmV 10 0 2 (wiS 48 (some [n])), a.1, a.2⟩
  | _, _ => none
def allO {α : Type} (f : Nd -> Option α) : List Nd -> Option (List α)
  | [] => some []
  | n :: l => match f n, allO f l with
    | some a, some xs => some (a :: xs)
    | _, _ => none
def ctO (n : Nd) : Option Ctl :=
  let s := wiS 48 (some [n])
  let s1 := nxt 4 s
  let s2 := if myB 1 s1 = true then trS s1 else s1
  if endP (myS 4 s2) = true then some ⟨txV s, if myB 1 s1 = true then trV s1 else false, myB 4 s2, (nxN 4 s2).data⟩ else none
def pcsR_of (l : List Nd) : Pcs := l.map fun n => (n.tag - 128, n.data)
mutual
def rdF : Nd -> Nat -> Option (Fl × Nat)
  | .mk t d ks, n =>
    if 1000 < n + 1 then none else if t = 135 then some (.mk 7 d [] [] [], n + 1)
    else if t = 160 \/ t = 161 \/ t = 162 then (match rdFs ks (n + 1) with
      | none => none
      | some (l, m) => if t = 162 /\ l.length ≠ 1 then none else some (.mk (t - 160) [] [] [] l, m))
    else if t = 164 then (if endP (nxt 48 (nxt 4 (some ks))) = true /\ pcsOk (pcsR_of (nxN 48 (nxt 4 (some ks))).kids) = true then some (.mk 4 (txV (some ks)) [] (pcsR_of (nxN 48 (nxt 4 (some ks))).kids) [], n + 1) else none)
    else if t = 163 \/ t = 165 \/ t = 166 \/ t = 168 then (if endP (nxt 4 (nxt 4 (some ks))) = true then some (.mk (t - 160) (txV (some ks)) (txV (nxt 4 (some ks))) [] [], n + 1) else none)
    else none
def rdFs : List Nd -> Nat -> Option (List Fl × Nat)
  | [], n => some ([], n)
  | k :: ks, n => match rdF k n with
    | none => none
    | some (f, m) => match rdFs ks m with
      | none => none
      | some (l, q) => some (f :: l, q)
end
def bindR (m : Ms) (p : PS) : Option Ms :=
  let p1 := nmS 2 1 127 p
  let p2 := nxt 4 p1
  if myB 128 p2 = true then (if endP (nxt 128 p2) = true then some { m with ver := nmV 2 1 127 p, dn := txV p1, text := (nxN 128 p2).data } else none)
  else
    let x := wiS 163 p2
    if endP (nxt 163 p2) = true /\ endP (myS 4 (nxt 4 x)) = true then some { m with ver := nmV 2 1 127 p, dn := txV p1, sasl := true, mech := txV x, has := myB 4 (nxt 4 x), value := (nxN 4 (nxt 4 x)).data } else none
def searchR (m : Ms) (p : PS) : Option Ms :=
  let p1 := nxt 4 p
  let p2 := nmS 10 0 2 p1
  let p3 := nmS 10 0 3 p2
  let p4 := nmS 2 0 2147483647 p3
  let p5 := nmS 2 0 2147483647 p4
  match trS p5 with
  | some (k :: r) => (match rdF k 0 with
    | none => none
    | some (f, _) => (match wiS 48 (some r), nxt 48 (some r) with
      | some l, some [] => if all4 l = true then some { m with dn := txV p, scope := nmV 10 0 2 p1, deref := nmV 10 0 3 p2, size := nmV 2 0 2147483647 p3, time := nmV 2 0 2147483647 p4, types := trV p5, fl := f, names := datas l } else none
      | _, _ => none))
  | _ => none
def opR (m : Ms) (n : Nd) : Option Ms :=
  let p : PS := some n.kids
  if m.op = 0 then bindR m p
  else if m.op = 2 then (if n.data = [] then some m else none)
  else if m.op = 3 then searchR m p
  else if m.op = 4 \/ m.op = 8 then (match wiS 48 (nxt 4 p), nxt 48 (nxt 4 p) with
    | some l, some [] => (match allO atO l with
      | some xs => if m.op = 4 \/ (xs.all fun a => decide (0 < a.2.length)) = true then some { m with dn := txV p, attrs := xs } else none
      | none => none)
    | _, _ => none)
  else if m.op = 6 then (match wiS 48 (nxt 4 p), nxt 48 (nxt 4 p) with
    | some l, some [] => (match allO mdO l with
      | some xs => some { m with dn := txV p, mods := xs }
      | none => none)
    | _, _ => none)
  else if m.op = 10 then some { m with dn := n.data }
  else if m.op = 12 then
    let p2 := nxt 4 (nxt 4 p)
    let p3 := trS p2
    if endP (myS 128 p3) = true then some { m with dn := txV p, rdn := txV (nxt 4 p), delOld := trV p2, hasSup := myB 128 p3, sup := (nxN 128 p3).data } else none
  else if m.op = 14 then
    let a := wiS 48 (nxt 4 p)
    if endP (nxt 48 (nxt 4 p)) = true /\ endP (nxt 4 (nxt 4 a)) = true then some { m with dn := txV p, attr := txV a, text := txV (nxt 4 a) } else none
  else if m.op = 16 then (if endP (bdS p n.data 0 2147483647) = true then some { m with target := bdV p n.data 0 2147483647 } else none)
  else if m.op = 23 then
    let p1 := nxt 128 p
    if endP (myS 129 p1) = true then some { m with oid := (nxN 128 p).data, has := myB 129 p1, value := (nxN 129 p1).data } else none
  else
    let p1 := nmS 10 0 2147483647 p
    let p3 := nxt 4 (nxt 4 p1)
    if m.op = 24 then
      let p4 := myS 138 p3
      if endP (myS 139 p4) = true then some { m with code := nmV 10 0 2147483647 p, matched := txV p1, text := txV (nxt 4 p1), oid := (nxN 138 p3).data, has := myB 139 p4, value := (nxN 139 p4).data } else none
    else if endP (p3) = true then some { m with code := nmV 10 0 2147483647 p, matched := txV p1, text := txV (nxt 4 p1) } else none
def formsL : List (Int × Int) := [(0, 96), (1, 97), (2, 66), (3, 99), (4, 100), (5, 101), (6, 102), (7, 103), (8, 104), (9, 105), (10, 74), (11, 107), (12, 108), (13, 109), (14, 110), (15, 111), (16, 80), (23, 119), (24, 120)]
def lkR : List (Int × Int) -> Int -> Option Int -> Option Int
  | [], _, a => a
  | p :: l, t, a => lkR l t (if p.2 = t then some p.1 else a)
def opOf (t : Int) : Option Int := lkR formsL t none
def rdO (id : Int) (o : Nd) (cs : List Nd) : Except Int Ms := match opOf o.tag with
  | none => .error 24
  | some op => match opR { zM with id := id, op := op } o, allO ctO cs with
    | some m, some l => .ok { m with ctls := l }
    | _, _ => .error 4
def rdM (n : Nd) : Except Int Ms :=
  let s := wiS 48 (some [n])
  match nmS 2 0 2147483647 s with
  | some [o] => rdO (nmV 2 0 2147483647 s) o []
  | some [o, c] => if c.tag = 160 then rdO (nmV 2 0 2147483647 s) o c.kids else .error 4
  | _ => .error 4
def readM (s : Bs) : Except Int Ms := if (who s).2 = 0 then rdM (who s).1 else .error (who s).2
def bareC (c : Ctl) : Ctl := { c with value := if c.has = true then c.value else [] }
def bareM (m : Ms) : Ms :=
  let b : Ms := { zM with id := m.id, op := m.op, ctls := m.ctls.map bareC }
  if m.op = 0 then (if m.sasl = true then { b with dn := m.dn, ver := m.ver, sasl := true, mech := m.mech, has := m.has, value := if m.has = true then m.value else [] } else { b with dn := m.dn, ver := m.ver, text := m.text })
  else if m.op = 3 then { b with dn := m.dn, scope := m.scope, deref := m.deref, size := m.size, time := m.time, types := m.types, fl := bareF m.fl, names := m.names }
  else if m.op = 4 \/ m.op = 8 then { b with dn := m.dn, attrs := m.attrs }
  else if m.op = 6 then { b with dn := m.dn, mods := m.mods }
  else if m.op = 10 then { b with dn := m.dn }
  else if m.op = 12 then { b with dn := m.dn, rdn := m.rdn, delOld := m.delOld, hasSup := m.hasSup, sup := if m.hasSup = true then m.sup else [] }
  else if m.op = 14 then { b with dn := m.dn, attr := m.attr, text := m.text }
  else if m.op = 16 then { b with target := m.target }
  else if m.op = 23 then { b with oid := m.oid, has := m.has, value := if m.has = true then m.value else [] }
  else if m.op = 24 then { b with code := m.code, matched := m.matched, text := m.text, oid := m.oid, has := m.has, value := if m.has = true then m.value else [] }
  else if m.op = 1 \/ m.op = 5 \/ m.op = 7 \/ m.op = 9 \/ m.op = 11 \/ m.op = 13 \/ m.op = 15 then { b with code := m.code, matched := m.matched, text := m.text }
  else b
end Go.Proofs.YtibkffoeioidlaaDoor
namespace Go.Proofs.YtibkffoeioidlaaDoor
set_option linter.all false
set_option maxRecDepth 4000
open Go.RowKit

theorem G.anyKeep {E : Env} {k : List It} {f : Fr} {h : Heap} {H : List Chunk} (sl : Nat -> Bool) {l0 : List Oper} {h0 : Heap} {H0 : List Chunk} {done done' idx : List Nat} {o : Oper} {l : List Oper} (hx : autoGo sl l0 0 done = some (o :: l, idx, done'))
    (hs : (Region.noSelect l0.toArray && takeOkC l0.toArray (l0.length - done.length) done idx) = true) (hh : Heap.le h0 h) (hs1 : SubH H0 H)
    (g : G E (.ops (.held h H0) l0.toArray (o :: l) :: .back h H :: .any h H0 l0.toArray done' :: k) f h H0) : G E (.any h0 H0 l0.toArray done :: k) f h H := by
  obtain ⟨p1, p2⟩ := autoGo_spec (l0 := l0) l0 0 done _ _ _ hx (fun j => by simp)
  exact G.anyTake p1 p2 hs hh (SubH.rfl_ _) hs1 g

end Go.Proofs.YtibkffoeioidlaaDoor
namespace Go.Proofs.YtibkffoeioidlaaDoor
set_option linter.all false
set_option maxRecDepth 4000
open Go.RowKit
section
variable {E : Env} {k : List It} {f : Fr} {h : Heap} {H : List Chunk} {st : Md} [hmd : OkMd st h H] {all : Array Oper} {rest : List Oper} {d : Nat} {ty : TypeId} {pos : String} {aft : Array Edge}
theorem part_agg {P : Program} {t : TypeId} {td : TD} {sz by_ : Nat} {z : Value} (ht : Ty P t td sz by_ z) (ha : td.isAgg = true) (hk : td.known = true) {cs r : List Value} {i : Nat} (hr : partL cs i sz = some r) (w : World) : (part t cs.toArray i).run P w = .ok (.agg r.toArray) w := by
  obtain ⟨h1, h2⟩ := partL_eq _ _ _ _ hr
  have e : (cs.drop i).take sz = r := by
    apply List.ext_getElem?
    intro j
    by_cases hj : j < sz
    . rw [List.getElem?_take_of_lt hj, List.getElem?_drop, h2 j hj]
    . rw [List.getElem?_eq_none (by rw [List.length_take]; omega), List.getElem?_eq_none (by rw [h1]; omega)]
  simp [part, run_isAgg' ht hk, ha, run_sizeOf' ht, e]
theorem G.idxArrA {t e : TypeId} {x y : Operand} {td : TD} {kd : IntKind} {i : Int} {m n sz by_ sz1 by1 : Nat} {z z1 : Value} {cs r : List Value} (hx : ev f x = some (.agg cs.toArray)) (hy : ev f y = some (.int kd i)) (ht : Ty E.P t (.array n e) sz1 by1 z1)
    (he : Ty E.P e td sz by_ z) (ha : td.isAgg = true) (hk : td.known = true) (hm : i.toNat = m) (hc : partL cs (m * sz) sz = some r) (hd : Nat.blt d E.n = true) (hb : 0 <= i /\ i < n)
    (g : G E (.ops st all rest :: k) ((d, .agg r.toArray) :: f) h H) :
    G E (.ops st all (⟨some d, .index t x y, ty, pos, aft, none⟩ :: rest) :: k) f h H := by
  subst hm
  refine G.opVal hd (fun _ a w hfa _ => ?_) g
  have := ht.fits
  simp only [TD.fits] at this
  simp only [execOp, Instr.index, asIntOf, ev_eq hfa hx, ev_eq hfa hy, Sem.run_bind, Sem.run_pure, Result.andThen_ok, underlying, run_program, this, if_pos hb, run_sizeOf' he, part_agg he ha hk hc]
theorem G.fieldV {s : TypeId} {x : Operand} {fs : List (Nat × Nat × Nat)} {sz by_ i ft off fby : Nat} {z fz v : Value} {td : TD} {cs : List Value} (hx : ev f x = some (.agg cs.toArray)) (ht : Ty E.P s (.struct fs) sz by_ z)
    (hi : nthF fs i = some (ft, off, 1)) (hf : Ty E.P ft td 1 fby fz) (ha : td.isAgg = false) (hk : td.known = true) (hv : nthV cs off = some v) (hd : Nat.blt d E.n = true) (n : G E (.ops st all rest :: k) ((d, v) :: f) h H) :
    G E (.ops st all (⟨some d, .field s x i, ty, pos, aft, none⟩ :: rest) :: k) f h H := by
  refine G.opVal hd (fun _ a w hfa hw => ?_) n
  have := ht.fits
  simp only [TD.fits] at this
  obtain ⟨fields, h1, h2⟩ := structOf_some this
  rw [nthF_eq] at hi
  rw [nthV_eq] at hv
  have h3 := congrArg (fun l => l[i]?) h2
  simp only [List.getElem?_map, Array.getElem?_toList, hi, Option.map_some] at h3
  cases hfl : fields[i]? with
  | none => rw [hfl] at h3; cases h3
  | some fl =>
    rw [hfl] at h3
    simp only [Option.map_some, Option.some.injEq, Prod.mk.injEq] at h3
    obtain ⟨e1, e2, e3⟩ := h3
    subst e1
    subst e2
    have hp := part_flat hf ha hk hv w
    simp [execOp, Instr.field, asAgg, ev_eq hfa hx, underlying, h1, hfl, hp]
end
theorem G.stopB {E : Env} {k : List It} {f : Fr} {h : Heap} {H : List Chunk} (id : Nat) {b : Code} (g : G E (.stop (.block id b) :: k) f h H) : G E (.code (.block id b) :: k) f h H := ⟨fun a w ha hw => g.run a w ha hw⟩
structure Hold (p : Prop) : Prop where
  out : p
end Go.Proofs.YtibkffoeioidlaaDoor
namespace Go.Proofs.YtibkffoeioidlaaDoor
set_option linter.all false
set_option maxRecDepth 4000
open Go.RowKit
theorem G.blkRow {E : Env} {ks : List It} {f : Fr} {h : Heap} {H Hr : List Chunk} {g n : Nat} {cs : List Value} {e : TypeId} (sz : Nat) (rows : List (List Value)) (t : Take (.blk g cs e) H Hr) (hr : rows.flatten = cs) (hw : Rowed sz rows) (hn : n = rows.length) (hm : n <= maxLen)
    (next : G E ks f h (.row (.slice (some ⟨g, 0, none⟩) n n) e sz rows :: Hr)) : G E ks f h H :=
  ⟨fun ac w hac hw' => next.run ac w hac (hw'.swapRow t hr hw hn hm)⟩
end Go.Proofs.YtibkffoeioidlaaDoor
namespace Go.Proofs.YtibkffoeioidlaaDoor
set_option linter.all false
set_option maxRecDepth 4000
open Go.RowKit
def formsC : List Value := formsL.flatMap fun p => [.int .i64 p.1, .int .i64 p.2]
def TabW (h : Heap) : Prop := HCells h ⟨0, 0, none⟩ formsC
theorem TabW.mono {h h' : Heap} (t : TabW h) (hl : Heap.le h h') : TabW h' := HCells.mono t hl
theorem formsC_len : formsC.length = 38 := rfl
theorem forms_at : ∀ i : Nat, i < 19 -> ∃ a b : Int, formsL[i]? = some (a, b) /\ partL formsC (i * 2) 2 = some [.int .i64 a, .int .i64 b]
  | 0, _ | 1, _ | 2, _ | 3, _ | 4, _ | 5, _ | 6, _ | 7, _ | 8, _ | 9, _ | 10, _ | 11, _ | 12, _ | 13, _ | 14, _ | 15, _ | 16, _ | 17, _ | 18, _ => ⟨_, _, rfl, rfl⟩
  | n + 19, h => by omega
theorem callTagW : Callable Tryd.prog 43 := ⟨_, Tryd.func43, by kernel_rfl, rfl⟩
theorem callInW : Callable Tryd.prog 42 := ⟨_, Tryd.func42, by kernel_rfl, rfl⟩
theorem forms_tag : ∀ p ∈ formsL, tagM p.1 = p.2 := by decide
theorem forms_all {op : Int} (h : tagM op ≠ 0) : ∃ i, i < 19 /\ ∃ b, formsL[i]? = some (op, b) := by
  unfold tagM at h
  have h1 : op = 0 \/ op = 1 \/ op = 2 \/ op = 3 \/ op = 4 \/ op = 5 \/ op = 6 \/ op = 7 \/ op = 8 \/ op = 9 \/ op = 10 \/ op = 11 \/ op = 12 \/ op = 13 \/ op = 14 \/ op = 15 \/ op = 16 \/ op = 23 \/ op = 24 := by
    split at h
    . omega
    split at h
    . omega
    split at h
    . omega
    split at h
    . omega
    . exact absurd rfl h
  rcases h1 with rfl | rfl | rfl | rfl | rfl | rfl | rfl | rfl | rfl | rfl | rfl | rfl | rfl | rfl | rfl | rfl | rfl | rfl | rfl
  . exact ⟨0, by omega, _, rfl⟩
  . exact ⟨1, by omega, _, rfl⟩
  . exact ⟨2, by omega, _, rfl⟩
  . exact ⟨3, by omega, _, rfl⟩
  . exact ⟨4, by omega, _, rfl⟩
  . exact ⟨5, by omega, _, rfl⟩
  . exact ⟨6, by omega, _, rfl⟩
  . exact ⟨7, by omega, _, rfl⟩
  . exact ⟨8, by omega, _, rfl⟩
  . exact ⟨9, by omega, _, rfl⟩
  . exact ⟨10, by omega, _, rfl⟩
  . exact ⟨11, by omega, _, rfl⟩
  . exact ⟨12, by omega, _, rfl⟩
  . exact ⟨13, by omega, _, rfl⟩
  . exact ⟨14, by omega, _, rfl⟩
  . exact ⟨15, by omega, _, rfl⟩
  . exact ⟨16, by omega, _, rfl⟩
  . exact ⟨17, by omega, _, rfl⟩
  . exact ⟨18, by omega, _, rfl⟩
theorem wire_in (n lo hi : Int) (h : Heap) : Spec Tryd.prog 42 [.int .i64 n, .int .i64 lo, .int .i64 hi] h [] (fun u _ H' => u = .bool (inM n lo hi) /\ H' = []) := by
  unfold inM
  refine Spec.enter Tryd.func42 rfl rfl ?_; intro w0
  repeat' (first | (refine G.atCode ?_; first | refine G.seq ?_ | refine G.region ?_ | refine G.ret ?_) | refine G.endOps ?_ | (refine G.atGd ?_; first | refine G.guardYes rfl rfl ?_ | refine G.guardNoS rfl rfl rfl ?_ | (refine G.guardS rfl rfl rfl ?_ ?_ <;> intro hc <;> (try simp only [tests, reduceCtorEq] at hc) <;> (try exact Zf))) | (refine G.atBin ?_; first | refine G.op rfl rfl ?_) | refine G.op rfl rfl ?_)
  all_goals exact G.done1 rfl rfl [] (SubH.nil _) ⟨(by first | exact congrArg Value.bool (decide_eq_decide.2 (by omega)) | exact congrArg Value.bool (decide_eq_true (by omega)).symm | exact congrArg Value.bool (decide_eq_false (by omega)).symm), rfl⟩
set_option maxHeartbeats 1000000 in
theorem wire_tag (op : Int) (h : Heap) (hT : TabW h) : Spec Tryd.prog 43 [.int .i64 op] h [] (fun u _ H' => u = .int .i64 (tagM op) /\ H' = []) := by
  refine Spec.enter Tryd.func43 rfl rfl ?_; intro w0
  repeat' (first | (refine G.atLoad ?_; refine G.loadImmA rfl (tyy rfl) rfl rfl hT formsC_len rfl ?_) | (refine G.atCode ?_; refine G.stopLoop ?_) | (refine G.atCode ?_; first | refine G.seq ?_ | refine G.region ?_ | refine G.block ?_) | refine G.endOps ?_ | refine G.op rfl rfl ?_)
  refine G.go ?_
  refine G.loop (σ := Nat) (fun i => [(6, .int .i64 i), (5, .agg formsC.toArray), (0, .int .i64 op)]) (fun _ => [])
    (fun i _ => i <= 19 /\ ∀ j, j < i -> ∀ a b, formsL[j]? = some (a, b) -> a ≠ op) (fun i => 19 - i) 0 ⟨rfl, rfl, rfl, trivial⟩ (SubH.nil _) ⟨by omega, fun j hj => absurd hj (by omega)⟩ ?_
  rintro i h1 hle1 ⟨hi, hno⟩
  by_cases hlt : i < 19
  . obtain ⟨a, b, hf, hp⟩ := forms_at i hlt
    have htg := forms_tag (a, b) (List.mem_of_getElem? hf)
    simp only at htg
    by_cases hop : a = op
    . subst hop
      rw [htg]
      repeat' (first | (refine G.idxArrA rfl rfl (tyy rfl) (tyy rfl) rfl rfl Zj hp rfl Zo ?_) | (refine G.atCode ?_; first | refine G.seq ?_ | refine G.region ?_ | refine G.block ?_ | refine G.skip ?_ | refine G.ret ?_ | (refine G.cond rfl ?_ ?_ <;> intro hc <;> (try simp only [tests, reduceCtorEq] at hc) <;> (try exact Zf))) | refine G.endOps ?_ | (refine G.atBin ?_; first | (refine G.atEql ?_; first | refine G.op rfl rfl ?_) | refine G.op rfl rfl ?_) | refine G.op rfl rfl ?_ | (refine G.atLoad ?_; first | refine G.loadOwn1 rfl (tyy rfl) rfl rfl Za rfl rfl ?_) | (refine G.atFld ?_; first | refine G.fieldAddr rfl (tyy rfl) rfl rfl ?_) | (refine G.atSto ?_; refine G.storeOwn rfl rfl (tyy rfl) Za rfl rfl rfl rfl ?_) | (refine G.atAlc ?_; refine G.alloc (tyy rfl) rfl rfl ?_; intro _))
      all_goals first | (exfalso; omega) | exact G.done1 rfl rfl [] (SubH.nil _) ⟨rfl, rfl⟩
    . repeat' (first | (refine G.idxArrA rfl rfl (tyy rfl) (tyy rfl) rfl rfl Zj hp rfl Zo ?_) | (refine G.atCode ?_; first | refine G.seq ?_ | refine G.region ?_ | refine G.block ?_ | refine G.skip ?_ | (refine G.cond rfl ?_ ?_ <;> intro hc <;> (try simp only [tests, reduceCtorEq] at hc) <;> (try exact Zf))) | refine G.endOps ?_ | refine G.endBlk ?_ | (refine G.atBin ?_; first | (refine G.atAdd ?_; first | refine G.arith rfl rfl rfl rfl rfl Zi ?_) | (refine G.atEql ?_; first | refine G.op rfl rfl ?_) | refine G.op rfl rfl ?_) | refine G.op rfl rfl ?_ | (refine G.atLoad ?_; first | refine G.loadOwn1 rfl (tyy rfl) rfl rfl Za rfl rfl ?_) | (refine G.atFld ?_; first | refine G.fieldAddr rfl (tyy rfl) rfl rfl ?_) | (refine G.atSto ?_; refine G.storeOwn rfl rfl (tyy rfl) Za rfl rfl rfl rfl ?_) | (refine G.atAlc ?_; refine G.alloc (tyy rfl) rfl rfl ?_; intro _))
      all_goals first | (exfalso; omega) | skip
      exact G.again (i + 1) ⟨sint (by omega), rfl, rfl, trivial⟩ (SubH.nil _) ⟨by omega, fun j hj a' b' hj' => if hji : j < i then hno j hji a' b' hj' else by
        obtain rfl : j = i := (by omega)
        rw [hf] at hj'
        injection hj' with e
        injection e with e1 _
        exact e1 ▸ hop⟩ (by solve | repeat first | assumption | exact Zr _ | refine Zq ?_ Zp) (by omega)
  . obtain rfl : i = 19 := by omega
    have h0 : tagM op = 0 := Classical.byContradiction fun h9 => by
      obtain ⟨j, hj, b, hb⟩ := forms_all h9
      exact hno j hj op b hb rfl
    rw [h0]
    repeat' (first | (refine G.atCode ?_; first | refine G.seq ?_ | refine G.region ?_ | refine G.exit rfl ?_ | refine G.ret ?_ | (refine G.cond rfl ?_ ?_ <;> intro hc <;> (try simp only [tests, reduceCtorEq] at hc) <;> (try exact Zf))) | refine G.endOps ?_ | (refine G.atBin ?_; first | refine G.op rfl rfl ?_) | refine G.op rfl rfl ?_)
    all_goals first | (exfalso; omega) | exact G.done1 rfl rfl [] (SubH.nil _) ⟨rfl, rfl⟩
end Go.Proofs.YtibkffoeioidlaaDoor
