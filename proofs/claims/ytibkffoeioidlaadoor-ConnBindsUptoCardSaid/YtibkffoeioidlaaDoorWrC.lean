/- Walk of tlv.Number. -/
import Derived.Test.YtibkffoeioidlaaDoorTlvS
import Derived.Test.YtibkffoeioidlaaDoorWrB
import Derived.Test.YtibkffoeioidlaaDoorTlvQ
namespace Go.Proofs.YtibkffoeioidlaaDoor
set_option linter.all false
set_option maxRecDepth 4000
open Go.RowKit

theorem callInt : Callable Tryd.prog 74 := ⟨_, Tryd.func74, by kernel_rfl, rfl⟩

theorem div_inR {a : Int} (p : Nat) (h : inR .i64 a) : inR .i64 (a / 2 ^ p) := by
  simp only [inR] at *
  have hp : (1 : Int) <= 2 ^ p := by have := Int.pow_pos (n := 2) (m := p) (by decide); omega
  generalize (2 : Int) ^ p = q at *
  constructor
  . refine (Int.le_ediv_iff_mul_le (by omega)).2 ?_
    have := Int.mul_le_mul_of_nonpos_left (show (-9223372036854775808 : Int) <= 0 by decide) hp
    omega
  . refine Int.lt_add_one_iff.1 ((Int.ediv_lt_iff_lt_mul (by omega)).2 ?_)
    have := Int.mul_le_mul_of_nonneg_left hp (show (0 : Int) <= 9223372036854775808 by decide)
    omega
def numV (s : List UInt8) : Int := IntKind.i64.wrap (IntKind.u64.wrap (getV s 0 s.length * 2 ^ (min (64 - 8 * (s.length : Int)).toNat 64))) / 2 ^ (64 - 8 * (s.length : Int)).toNat
def numOk (s : List UInt8) : Bool := getOk s 0 s.length && decide (putB (IntKind.u64.wrap (numV s)).toNat (intF (numV s) 7 1) = s)

set_option maxRecDepth 8000 in
set_option maxHeartbeats 1000000 in
theorem tlv_Number (s : List UInt8) (hs : s.length <= 9223372036854775807) (h : Heap) :
    Spec Tryd.prog 106 [str s] h [] (fun v _ H' => H' = [] /\ v = .tuple #[.int .i64 (if numOk s then numV s else 0), .bool (numOk s)]) := by
  by_cases hok : getOk s 0 s.length = true
  . have hg2 : 1 <= s.length /\ s.length <= 8 := by unfold getOk at hok; simp only [decide_eq_true_eq] at hok; omega
    refine Spec.enter Tryd.func106 rfl rfl ?_; intro w0
    repeat' (first | (refine G.shlW rfl rfl (by first | (simp only [Int.reduceToNat]; rfl) | with_reducible apply Int.toNat_natCast | exact Eq.refl _) rfl (by omega) ?_) | (show G _ (.ops .seq _ (⟨some _, .call { callee := .value (.func 96), args := _, argTypes := _ }, _, _, _, none⟩ :: _) :: _) _ _ _; refine G.call callGet7 rfl rfl (octet_Get _ _ _ (by omega) (by omega) (by omega) _) (by solve | repeat first | apply Zn | apply Zh | apply Zt | apply Zc) ?_; rintro _ h1 H1 ⟨rfl, rfl⟩ hle; rw [hok]) | (show G _ (.ops .seq _ (⟨some _, .call { callee := .value (.func 74), args := _, argTypes := _ }, _, _, _, none⟩ :: _) :: _) _ _ _; refine G.call callInt rfl rfl (tlv_Int _ (div_inR _ (wrap_inR .i64 _)) _) (by solve | repeat first | apply Zn | apply Zh | apply Zt | apply Zc) ?_; rintro _ h2 H2 ⟨rfl, rfl⟩ hle2) | (refine G.atCode ?_; first | refine G.seq ?_ | refine G.region ?_ | refine G.skip ?_ | refine G.ret ?_ | (refine G.cond rfl ?_ ?_ <;> intro hc <;> (try simp only [tests, reduceCtorEq] at hc) <;> (try (exfalso; first | omega | exact Zx hc | exact Zy hc | exact Zb hc | exact hc | exact hc trivial)))) | refine G.endOps ?_ | (refine G.atBin ?_; first | (refine G.atSub ?_; first | refine G.arith rfl rfl rfl rfl rfl (by simp only [inR]; omega) ?_) | (refine G.atMul ?_; first | refine G.arith rfl rfl rfl rfl rfl (by simp only [inR]; omega) ?_) | (refine G.atNeq ?_; first | refine G.neStr rfl rfl rfl ?_) | (refine G.atShr ?_; refine G.shr rfl rfl (by first | (simp only [Int.reduceToNat]; rfl) | with_reducible apply Int.toNat_natCast | exact Eq.refl _) rfl (by simp only [IntKind.bits]; omega) rfl ?_)) | refine G.op rfl rfl ?_ | (refine G.atLen ?_; first | refine G.lenStr rfl (tyy rfl) rfl ?_) | (refine G.atConv ?_; first | (refine G.convW rfl (tyy rfl) (tyy rfl) rfl ?_; intro hcw; (try simp only [inR] at hcw))))
    . have hk : numOk s = false := by unfold numOk; rw [hok, Bool.true_and]; exact decide_eq_false hc
      refine G.done2 rfl rfl rfl [] (SubH.nil _) ⟨rfl, ?_⟩
      rw [hk]; rfl
    . have hk : numOk s = true := by unfold numOk; rw [hok, Bool.true_and]; exact decide_eq_true hc
      refine G.done2 rfl rfl rfl [] (SubH.nil _) ⟨rfl, ?_⟩
      rw [hk]; rfl
  . have hok' : getOk s 0 s.length = false := by simpa using hok
    refine Spec.enter Tryd.func106 rfl rfl ?_; intro w0
    repeat' (first | (show G _ (.ops .seq _ (⟨some _, .call { callee := .value (.func 96), args := _, argTypes := _ }, _, _, _, none⟩ :: _) :: _) _ _ _; refine G.call callGet7 rfl rfl (octet_Get _ _ _ (by omega) (by omega) (by omega) _) (by solve | repeat first | apply Zn | apply Zh | apply Zt | apply Zc) ?_; rintro _ h1 H1 ⟨rfl, rfl⟩ hle; rw [hok']) | (refine G.atCode ?_; first | refine G.seq ?_ | refine G.region ?_ | refine G.ret ?_ | (refine G.cond rfl ?_ ?_ <;> intro hc <;> (try simp only [tests, reduceCtorEq] at hc) <;> (try (exfalso; first | omega | exact Zx hc | exact Zy hc | exact Zb hc | exact hc | exact hc trivial)))) | refine G.endOps ?_ | refine G.op rfl rfl ?_ | (refine G.atLen ?_; first | refine G.lenStr rfl (tyy rfl) rfl ?_))
    have hk : numOk s = false := by unfold numOk; rw [hok']; rfl
    refine G.done2 rfl rfl rfl [] (SubH.nil _) ⟨rfl, ?_⟩
    rw [hk]; rfl
end Go.Proofs.YtibkffoeioidlaaDoor
namespace Go.Proofs.YtibkffoeioidlaaDoor
set_option linter.all false
set_option maxRecDepth 4000
open Go.RowKit

set_option maxRecDepth 8000 in
set_option maxHeartbeats 1000000 in
theorem tlv_Bool (s : List UInt8) (h : Heap) :
    Spec Tryd.prog 108 [str s] h [] (fun v _ H' => H' = [] /\ v = .tuple #[.bool (decide (s = [255])), .bool (decide (s = [255] \/ s = [0]))]) := by
  refine Spec.enter Tryd.func108 rfl rfl ?_; intro w0
  repeat' (first | (refine G.atCode ?_; first | refine G.seq ?_ | refine G.region ?_ | refine G.block ?_ | refine G.skip ?_ | refine G.exit rfl ?_ | refine G.ret ?_ | (refine G.cond rfl ?_ ?_ <;> intro hc <;> (try simp only [tests, reduceCtorEq] at hc) <;> (try (exfalso; first | omega | exact Zx hc | exact Zy hc | exact Zb hc | exact hc | exact hc trivial)))) | refine G.endOps ?_ | refine G.endStill ?_ | refine G.endHeld ?_ | refine G.back ?_ | refine G.endBlk ?_ | (refine G.atGd ?_; first | refine G.guardYes rfl rfl ?_ | refine G.guardNoS rfl rfl rfl ?_ | refine G.guardU rfl rfl rfl ?_ | (refine G.guardS rfl rfl rfl ?_ ?_ <;> intro hc <;> (try simp only [tests, reduceCtorEq] at hc) <;> (try (exfalso; first | omega | exact Zx hc | exact Zy hc | exact Zb hc | exact hc | exact hc trivial))) | refine G.guardNo rfl rfl ?_ (by rintro i ⟨⟩; rfl) | (refine G.guard rfl rfl ?_ ?_ (by rintro i ⟨⟩; rfl) <;> intro hc <;> (try simp only [tests, reduceCtorEq] at hc) <;> (try (exfalso; first | omega | exact Zx hc | exact Zy hc | exact Zb hc | exact hc | exact hc trivial)))) | (refine G.atBin ?_; first | (refine G.atEql ?_; first | refine G.op rfl rfl ?_ | refine G.eqStr0 rfl rfl rfl ?_ | refine G.eqStr rfl rfl rfl ?_ | refine G.eqPtr rfl rfl (tyy rfl) rfl ?_ | refine G.eqBool rfl rfl (tyy rfl) rfl ?_) | refine G.op rfl rfl ?_ ) | refine G.op rfl rfl ?_              )
  . exact G.done2 rfl rfl rfl [] (SubH.nil _) ⟨rfl, by simp [hc]⟩
  . exact G.done2 rfl rfl rfl [] (SubH.nil _) ⟨rfl, by simp [hc]⟩

theorem callPut1 : Callable Tryd.prog 83 := ⟨_, Tryd.func83, by kernel_rfl, rfl⟩
theorem callSigned : Callable Tryd.prog 84 := ⟨_, Tryd.func84, by kernel_rfl, rfl⟩
end Go.Proofs.YtibkffoeioidlaaDoor
namespace Go.Proofs.YtibkffoeioidlaaDoor
set_option linter.all false
set_option maxRecDepth 4000
open Go.RowKit

abbrev PS := Option (List Nd)
def endP : PS -> Bool
  | some [] => true
  | _ => false
def nxt (t : Int) : PS -> PS
  | some (n :: l) => if n.tag = t then some l else none
  | _ => none
def nxN (t : Int) : PS -> Nd
  | some (n :: l) => if n.tag = t then n else zN
  | _ => zN
def bdS (s : PS) (d : Bs) (lo hi : Int) : PS := if numOk d = true /\ lo <= numV d /\ numV d <= hi then s else none
def bdV (s : PS) (d : Bs) (lo hi : Int) : Int := if (bdS s d lo hi).isSome = true then numV d else 0
def nmS (t lo hi : Int) (s : PS) : PS := bdS (nxt t s) (nxN t s).data lo hi
def nmV (t lo hi : Int) (s : PS) : Int := bdV (nxt t s) (nxN t s).data lo hi
def trS (s : PS) : PS := if (nxN 1 s).data = [255] \/ (nxN 1 s).data = [0] then nxt 1 s else none
def trV (s : PS) : Bool := decide ((nxN 1 s).data = [255])
def myB (t : Int) (s : PS) : Bool := (nxt t s).isSome
def myS (t : Int) (s : PS) : PS := if myB t s = true then nxt t s else s
def txV (s : PS) : Bs := (nxN 4 s).data
def wiS (t : Int) (s : PS) : PS := if (nxt t s).isSome = true then some (nxN t s).kids else none
def all4 (l : List Nd) : Bool := l.all fun n => decide (n.tag = 4)
def datas (l : List Nd) : List Bs := l.map Nd.data
def vlO (s : PS) : Option Atr := match wiS 49 (nxt 4 s), nxt 49 (nxt 4 s) with
  | some l, some [] => if all4 l = true then some (txV s, datas l) else none
  | _, _ => none
def atO (n : Nd) : Option Atr := vlO (wiS 48 (some [n]))
def mdO (n : Nd) : Option Mdf :=
  match vlO (wiS 48 (nmS 10 0 2 (wiS 48 (some [n])))), nxt 48 (nmS 10 0 2 (wiS 48 (some [n]))) with
  | some a, some [] => some ⟨nmV 10 0 2 (wiS 48 (some [n])), a.1, a.2⟩
  | _, _ => none
def allO {α : Type} (f : Nd -> Option α) : List Nd -> Option (List α)
  | [] => some []
  | n :: l => match f n, allO f l with
    | some a, some xs => some (a :: xs)
    | _, _ => none
def ctO (n : Nd) : Option Ctl :=
  let s := wiS 48 (some [n])
  let s1 := nxt 4 s
  let s2 := if myB 1 s1 = true then trS s1 else s1
  if endP (myS 4 s2) = true then some ⟨txV s, if myB 1 s1 = true then trV s1 else false, myB 4 s2, (nxN 4 s2).data⟩ else none
def pcsR_of (l : List Nd) : Pcs := l.map fun n => (n.tag - 128, n.data)
mutual
def rdF : Nd -> Nat -> Option (Fl × Nat)
  | .mk t d ks, n =>
    if 1000 < n + 1 then none else if t = 135 then some (.mk 7 d [] [] [], n + 1)
    else if t = 160 \/ t = 161 \/ t = 162 then (match rdFs ks (n + 1) with
      | none => none
      | some (l, m) => if t = 162 /\ l.length ≠ 1 then none else some (.mk (t - 160) [] [] [] l, m))
    else if t = 164 then (if endP (nxt 48 (nxt 4 (some ks))) = true /\ pcsOk (pcsR_of (nxN 48 (nxt 4 (some ks))).kids) = true then some (.mk 4 (txV (some ks)) [] (pcsR_of (nxN 48 (nxt 4 (some ks))).kids) [], n + 1) else none)
    else if t = 163 \/ t = 165 \/ t = 166 \/ t = 168 then (if endP (nxt 4 (nxt 4 (some ks))) = true then some (.mk (t - 160) (txV (some ks)) (txV (nxt 4 (some ks))) [] [], n + 1) else none)
    else none
def rdFs : List Nd -> Nat -> Option (List Fl × Nat)
  | [], n => some ([], n)
  | k :: ks, n => match rdF k n with
    | none => none
    | some (f, m) => match rdFs ks m with
      | none => none
      | some (l, q) => some (f :: l, q)
end
def bindR (m : Ms) (p : PS) : Option Ms :=
  let p1 := nmS 2 1 127 p
  let p2 := nxt 4 p1
  if myB 128 p2 = true then (if endP (nxt 128 p2) = true then some { m with ver := nmV 2 1 127 p, dn := txV p1, text := (nxN 128 p2).data } else none)
  else
    let x := wiS 163 p2
    if endP (nxt 163 p2) = true /\ endP (myS 4 (nxt 4 x)) = true then some { m with ver := nmV 2 1 127 p, dn := txV p1, sasl := true, mech := txV x, has := myB 4 (nxt 4 x), value := (nxN 4 (nxt 4 x)).data } else none
def searchR (m : Ms) (p : PS) : Option Ms :=
  let p1 := nxt 4 p
  let p2 := nmS 10 0 2 p1
  let p3 := nmS 10 0 3 p2
  let p4 := nmS 2 0 2147483647 p3
  let p5 := nmS 2 0 2147483647 p4
  match trS p5 with
  | some (k :: r) => (match rdF k 0 with
    | none => none
    | some (f, _) => (match wiS 48 (some r), nxt 48 (some r) with
      | some l, some [] => if all4 l = true then some { m with dn := txV p, scope := nmV 10 0 2 p1, deref := nmV 10 0 3 p2, size := nmV 2 0 2147483647 p3, time := nmV 2 0 2147483647 p4, types := trV p5, fl := f, names := datas l } else none
      | _, _ => none))
  | _ => none
def opR (m : Ms) (n : Nd) : Option Ms :=
  let p : PS := some n.kids
  if m.op = 0 then bindR m p
  else if m.op = 2 then (if n.data = [] then some m else none)
  else if m.op = 3 then searchR m p
  else if m.op = 4 \/ m.op = 8 then (match wiS 48 (nxt 4 p), nxt 48 (nxt 4 p) with
    | some l, some [] => (match allO atO l with
      | some xs => if m.op = 4 \/ (xs.all fun a => decide (0 < a.2.length)) = true then some { m with dn := txV p, attrs := xs } else none
      | none => none)
    | _, _ => none)
  else if m.op = 6 then (match wiS 48 (nxt 4 p), nxt 48 (nxt 4 p) with
    | some l, some [] => (match allO mdO l with
      | some xs => some { m with dn := txV p, mods := xs }
      | none => none)
    | _, _ => none)
  else if m.op = 10 then some { m with dn := n.data }
  else if m.op = 12 then
    let p2 := nxt 4 (nxt 4 p)
    let p3 := trS p2
    if endP (myS 128 p3) = true then some { m with dn := txV p, rdn := txV (nxt 4 p), delOld := trV p2, hasSup := myB 128 p3, sup := (nxN 128 p3).data } else none
  else if m.op = 14 then
    let a := wiS 48 (nxt 4 p)
    if endP (nxt 48 (nxt 4 p)) = true /\ endP (nxt 4 (nxt 4 a)) = true then some { m with dn := txV p, attr := txV a, text := txV (nxt 4 a) } else none
  else if m.op = 16 then (if endP (bdS p n.data 0 2147483647) = true then some { m with target := bdV p n.data 0 2147483647 } else none)
  else if m.op = 23 then
    let p1 := nxt 128 p
    if endP (myS 129 p1) = true then some { m with oid := (nxN 128 p).data, has := myB 129 p1, value := (nxN 129 p1).data } else none
  else
    let p1 := nmS 10 0 2147483647 p
    let p3 := nxt 4 (nxt 4 p1)
    if m.op = 24 then
      let p4 := myS 138 p3
      if endP (myS 139 p4) = true then some { m with code := nmV 10 0 2147483647 p, matched := txV p1, text := txV (nxt 4 p1), oid := (nxN 138 p3).data, has := myB 139 p4, value := (nxN 139 p4).data } else none
    else if endP (p3) = true then some { m with code := nmV 10 0 2147483647 p, matched := txV p1, text := txV (nxt 4 p1) } else none
def formsL : List (Int × Int) := [(0, 96), (1, 97), (2, 66), (3, 99), (4, 100), (5, 101), (6, 102), (7, 103), (8, 104), (9, 105), (10, 74), (11, 107), (12, 108), (13, 109), (14, 110), (15, 111), (16, 80), (23, 119), (24, 120)]
def lkR : List (Int × Int) -> Int -> Option Int -> Option Int
  | [], _, a => a
  | p :: l, t, a => lkR l t (if p.2 = t then some p.1 else a)
def opOf (t : Int) : Option Int := lkR formsL t none
def rdO (id : Int) (o : Nd) (cs : List Nd) : Except Int Ms := match opOf o.tag with
  | none => .error 24
  | some op => match opR { zM with id := id, op := op } o, allO ctO cs with
    | some m, some l => .ok { m with ctls := l }
    | _, _ => .error 4
def rdM (n : Nd) : Except Int Ms :=
  let s := wiS 48 (some [n])
  match nmS 2 0 2147483647 s with
  | some [o] => rdO (nmV 2 0 2147483647 s) o []
  | some [o, c] => if c.tag = 160 then rdO (nmV 2 0 2147483647 s) o c.kids else .error 4
  | _ => .error 4
def readM (s : Bs) : Except Int Ms := if (who s).2 = 0 then rdM (who s).1 else .error (who s).2
def bareC (c : Ctl) : Ctl := { c with value := if c.has = true then c.value else [] }
def bareM (m : Ms) : Ms :=
  let b : Ms := { zM with id := m.id, op := m.op, ctls := m.ctls.map bareC }
  if m.op = 0 then (if m.sasl = true then { b with dn := m.dn, ver := m.ver, sasl := true, mech := m.mech, has := m.has, value := if m.has = true then m.value else [] } else { b with dn := m.dn, ver := m.ver, text := m.text })
  else if m.op = 3 then { b with dn := m.dn, scope := m.scope, deref := m.deref, size := m.size, time := m.time, types := m.types, fl := bareF m.fl, names := m.names }
  else if m.op = 4 \/ m.op = 8 then { b with dn := m.dn, attrs := m.attrs }
  else if m.op = 6 then { b with dn := m.dn, mods := m.mods }
  else if m.op = 10 then { b with dn := m.dn }
  else if m.op = 12 then { b with dn := m.dn, rdn := m.rdn, delOld := m.delOld, hasSup := m.hasSup, sup := if m.hasSup = true then m.sup else [] }
  else if m.op = 14 then { b with dn := m.dn, attr := m.attr, text := m.text }
  else if m.op = 16 then { b with target := m.target }
  else if m.op = 23 then { b with oid := m.oid, has := m.has, value := if m.has = true then m.value else [] }
  else if m.op = 24 then { b with code := m.code, matched := m.matched, text := m.text, oid := m.oid, has := m.has, value := if m.has = true then m.value else [] }
  else if m.op = 1 \/ m.op = 5 \/ m.op = 7 \/ m.op = 9 \/ m.op = 11 \/ m.op = 13 \/ m.op = 15 then { b with code := m.code, matched := m.matched, text := m.text }
  else b
end Go.Proofs.YtibkffoeioidlaaDoor
