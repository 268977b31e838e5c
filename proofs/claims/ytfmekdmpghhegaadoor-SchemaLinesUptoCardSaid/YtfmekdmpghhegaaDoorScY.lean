/- A schema, line by line: plain; the document's digits and list. -/
import Derived.Test.YtfmekdmpghhegaaDoorScR
import Derived.Test.YtfmekdmpghhegaaDoorLibS
import Derived.Lib.ItoaNum
namespace Go.Proofs.YtfmekdmpghhegaaDoor
set_option linter.all false
set_option maxRecDepth 4000
open Go.RowKit

section
variable {E : Env} {k : List It} {f : Fr} {h : Heap} {H Hr : List Chunk} {st : Md} [hmd : OkMd st h H] {all : Array Oper} {rest : List Oper} {d : Nat} {ty : TypeId} {pos : String} {aft : Array Edge}
theorem G.quoT {t t' : TypeId} {x y : Operand} {kd kd' : IntKind} {a b : Int} (hx : ev f x = some (.int kd a)) (hy : ev f y = some (.int kd' b)) (hk : sameKind kd kd' = true) (hd : Nat.blt d E.n = true) (hb : b ≠ 0) (hin : inR kd (a.tdiv b))
    (g : G E (.ops st all rest :: k) ((d, .int kd (a.tdiv b)) :: f) h H) :
    G E (.ops st all (⟨some d, .binOp .quo t x y t', ty, pos, aft, none⟩ :: rest) :: k) f h H := by
  have := sameKind_eq hk
  subst this
  refine G.opVal hd (fun _ ac w ha _ => ?_) g
  simp only [execOp, ev_eq ha hx, ev_eq ha hy, eqGuard, binOp, Op.intDiv, if_neg hb, wrap_in hin]
  simp
end
theorem itoa_small {n : Int} (h0 : 0 <= n) (h : n < 10) : Lib.itoa n = [UInt8.ofNat (48 + n).toNat] := by
  unfold Lib.itoa
  rw [if_neg (by omega), Lib.decDigits, dif_pos (by omega), show 48 + n.toNat = (48 + n).toNat by omega]
theorem itoa_big {n : Int} (h : 10 <= n) : Lib.itoa n = Lib.itoa (n / 10) ++ [UInt8.ofNat (48 + n % 10).toNat] := by
  unfold Lib.itoa
  rw [if_neg (by omega), if_neg (by omega), Lib.decDigits, dif_neg (by omega), show (n / 10).toNat = n.toNat / 10 by omega, show 48 + n.toNat % 10 = (48 + n % 10).toNat by omega]
theorem itoa_zero : Lib.itoa 0 = [48] := by decide +kernel
theorem itoa_ne {n : Int} (h : 0 < n) : Lib.itoa n ≠ [48] := by
  by_cases h1 : n < 10
  . rw [itoa_small (by omega) h1]
    intro e
    simp only [List.cons.injEq, and_true] at e
    have := congrArg UInt8.toNat e
    simp only [UInt8.toNat_ofNat'] at this
    have e2 : (48 : UInt8).toNat = 48 := rfl
    omega
  . rw [itoa_big (by omega)]
    intro e
    have := congrArg List.length e
    rw [List.length_append] at this
    have h2 : 1 <= (Lib.itoa (n / 10)).length := by
      unfold Lib.itoa
      rw [if_neg (by omega), Lib.decDigits]
      split
      . simp
      . simp
    simp only [List.length_cons, List.length_nil] at this
    omega
theorem tdiv_neg10 (u : Nat) : (-(u : Int)).tdiv 10 = -((u / 10 : Nat) : Int) := by rw [Int.neg_tdiv]; rfl
theorem tmod_neg10 (u : Nat) : (-(u : Int)).tmod 10 = -((u % 10 : Nat) : Int) := by rw [Int.neg_tmod]; rfl
theorem itoa_neg {n : Int} (h : n < 0) : Lib.itoa n = 45 :: ((if -(n.tdiv 10) = 0 then [] else Lib.itoa (-(n.tdiv 10))) ++ Lib.itoa (-(n.tmod 10))) := by
  obtain ⟨u, rfl⟩ : ∃ u : Nat, n = -(u : Int) := ⟨n.natAbs, by omega⟩
  rw [tdiv_neg10, tmod_neg10, Int.neg_neg, Int.neg_neg, itoa_small (n := ((u % 10 : Nat) : Int)) (by omega) (by omega)]
  conv => lhs; unfold Lib.itoa
  rw [if_pos h, show (-(u : Int)).natAbs = u by omega, Lib.decDigits]
  split
  . rw [if_pos (by omega)]
    simp only [List.nil_append]
    rw [show 48 + u = (48 + ((u % 10 : Nat) : Int)).toNat by omega]
  . rw [if_neg (by omega)]
    unfold Lib.itoa
    rw [if_neg (by omega), show ((u / 10 : Nat) : Int).toNat = u / 10 by omega, show 48 + u % 10 = (48 + ((u % 10 : Nat) : Int)).toNat by omega]
theorem decDigits_len : ∀ (n u : Nat), u < 10 ^ (n + 1) -> (Lib.decDigits u).length <= n + 1
  | 0, u, h => by rw [Lib.decDigits, dif_pos (by omega)]; simp
  | n + 1, u, h => by
    rw [Lib.decDigits]
    split
    . simp
    . have := decDigits_len n (u / 10) (by rw [Nat.pow_succ] at h; omega)
      rw [List.length_append]; simp; omega
theorem itoa_len {n : Int} (h : inR .i64 n) : (Lib.itoa n).length <= 21 := by
  simp only [inR] at h
  unfold Lib.itoa
  split
  . have := decDigits_len 19 n.natAbs (by show _ < 100000000000000000000; omega)
    simp; omega
  . have := decDigits_len 19 n.toNat (by show _ < 100000000000000000000; omega)
    omega
theorem callDigits : Callable Tryd.prog 14 := ⟨_, Tryd.func14, by kernel_rfl, rfl⟩
set_option maxRecDepth 8000 in
set_option maxHeartbeats 2000000 in
theorem ref13_digitsP : ∀ (m : Nat) (n : Int), 0 <= n -> n < m -> inR .i64 n -> ∀ h : Heap, Spec Tryd.prog 14 [.int .i64 n] h [] (fun u _ H' => u = str (Lib.itoa n) /\ H' = [])
  | 0, n, h0, hm, _, _ => by omega
  | m + 1, n, h0, hm, hr, h => by
    simp only [inR] at hr
    by_cases hb : 10 <= n
    . have ih := ref13_digitsP m (n / 10) (by omega) (by omega) Zi
      have hl := itoa_len (n := n / 10) Zi
      rw [itoa_big hb]
      refine Spec.enter Tryd.func14 rfl rfl ?_; intro w0
      repeat' (first | (refine G.atConv ?_; refine G.convStrBlk1 rfl (tyy rfl) (tyy rfl) (tyy rfl) Za Zo rfl ?_) | (show G _ (.ops .seq _ (⟨some _, .call { callee := .value (.func 14), args := _, argTypes := _ }, _, _, _, none⟩ :: _) :: _) _ _ _; refine G.call callDigits rfl rfl (ih _) Ze ?_; rintro _ h2 H2 ⟨rfl, rfl⟩ hle2) | (refine G.atCode ?_; first | refine G.seq ?_ | refine G.region ?_ | refine G.skip ?_ | refine G.ret ?_ | (refine G.cond rfl ?_ ?_ <;> intro hc <;> (try simp only [tests, reduceCtorEq] at hc) <;> (try exact Zf))) | refine G.endOps ?_ | (refine G.atBin ?_; first | (refine G.atAdd ?_; first | refine G.arith rfl rfl rfl rfl rfl Zi ?_ | refine G.catStr rfl rfl rfl Zo ?_) | (refine G.atRem ?_; first | (refine G.rem rfl rfl rfl rfl Zo ?_; intro _ _ _)) | (refine G.atQuo ?_; refine G.quo rfl rfl rfl rfl Zo Zi ?_) | refine G.op rfl rfl ?_) | refine G.op rfl rfl ?_ | (refine G.atBsl ?_; refine G.buildSlice (tyy rfl) (tyy rfl) rfl rfl rfl rfl ?_; intro _) | (refine G.atConv ?_; first | refine G.conv rfl (tyy rfl) (tyy rfl) rfl Zi ?_))
      all_goals first | (exfalso; omega) | exact G.done1 rfl rfl [] (SubH.nil _) ⟨rfl, rfl⟩ | skip
    . rw [itoa_small h0 (by omega)]
      refine Spec.enter Tryd.func14 rfl rfl ?_; intro w0
      repeat' (first | (refine G.atConv ?_; refine G.convStrBlk1 rfl (tyy rfl) (tyy rfl) (tyy rfl) Za Zo rfl ?_) | (refine G.atCode ?_; first | refine G.seq ?_ | refine G.region ?_ | refine G.skip ?_ | refine G.ret ?_ | (refine G.cond rfl ?_ ?_ <;> intro hc <;> (try simp only [tests, reduceCtorEq] at hc) <;> (try exact Zf))) | refine G.endOps ?_ | (refine G.atBin ?_; first | (refine G.atAdd ?_; first | refine G.arith rfl rfl rfl rfl rfl Zi ?_) | (refine G.atRem ?_; first | (refine G.rem rfl rfl rfl rfl Zo ?_; intro _ _ _)) | refine G.op rfl rfl ?_) | refine G.op rfl rfl ?_ | (refine G.atBsl ?_; refine G.buildSlice (tyy rfl) (tyy rfl) rfl rfl rfl rfl ?_; intro _) | (refine G.atConv ?_; first | refine G.conv rfl (tyy rfl) (tyy rfl) rfl Zi ?_))
      all_goals first | (exfalso; omega) | exact G.done1 rfl rfl [] (SubH.nil _) ⟨by rw [show (48 + n % 10) = 48 + n by omega], rfl⟩ | skip
set_option maxRecDepth 8000 in
set_option maxHeartbeats 2000000 in
theorem ref13_digits (n : Int) (hr : inR .i64 n) (h : Heap) : Spec Tryd.prog 14 [.int .i64 n] h [] (fun u _ H' => u = str (Lib.itoa n) /\ H' = []) := by
  by_cases h0 : 0 <= n
  . exact ref13_digitsP (n.toNat + 1) n h0 (by omega) hr h
  . have hr' := hr
    simp only [inR] at hr
    obtain ⟨u, rfl⟩ : ∃ u : Nat, n = -(u : Int) := ⟨n.natAbs, by omega⟩
    have hq := tdiv_neg10 u
    have hm := tmod_neg10 u
    have i1 := ref13_digitsP (u / 10 + 1) ((u / 10 : Nat) : Int) (by omega) (by omega) Zi
    have i2 := ref13_digitsP (u % 10 + 1) ((u % 10 : Nat) : Int) (by omega) (by omega) Zi
    have l1 := itoa_len (n := ((u / 10 : Nat) : Int)) Zi
    have l2 := itoa_len (n := ((u % 10 : Nat) : Int)) Zi
    rw [itoa_neg (by omega), hq, hm, Int.neg_neg, Int.neg_neg]
    have e8 : IntKind.i64.wrap (0 - -((u / 10 : Nat) : Int)) = ((u / 10 : Nat) : Int) := by rw [wrap_in Zi]; omega
    have e9 : IntKind.i64.wrap (0 - -((u % 10 : Nat) : Int)) = ((u % 10 : Nat) : Int) := by rw [wrap_in Zi]; omega
    by_cases hz : ((u / 10 : Nat) : Int) = 0
    . rw [if_pos hz]
      rw [hz, itoa_zero] at i1
      refine Spec.enter Tryd.func14 rfl rfl ?_; intro w0
      repeat' (first | (refine G.atQuo ?_; refine G.quoT rfl rfl rfl rfl (by decide) (by rw [hq]; simp only [inR]; omega) ?_; rw [hq]) | (refine G.atRem ?_; refine G.remT rfl rfl rfl rfl (by decide) ?_; rw [hm]) | (show G _ (.ops .seq _ (⟨some _, .call { callee := .value (.func 14), args := _, argTypes := _ }, _, _, _, none⟩ :: _) :: _) _ _ _; (try rw [e8, hz]); refine G.call callDigits rfl rfl (i1 _) Ze ?_; rintro _ h2 H2 ⟨rfl, rfl⟩ hle2) | (show G _ (.ops .seq _ (⟨some _, .call { callee := .value (.func 14), args := _, argTypes := _ }, _, _, _, none⟩ :: _) :: _) _ _ _; (try rw [e9]); refine G.call callDigits rfl rfl (i2 _) Ze ?_; rintro _ h3 H3 ⟨rfl, rfl⟩ hle3) | (refine G.atCode ?_; first | refine G.seq ?_ | refine G.region ?_ | refine G.ret ?_ | (refine G.cond rfl ?_ ?_ <;> intro hc <;> (try simp only [tests, reduceCtorEq] at hc) <;> (try exact Zf))) | refine G.endOps ?_ | (refine G.atBin ?_; first | (refine G.atAdd ?_; first | refine G.catStr rfl rfl rfl Zo ?_) | (refine G.atEql ?_; first | refine G.eqStr rfl rfl rfl ?_) | refine G.op rfl rfl ?_) | refine G.op rfl rfl ?_)
      all_goals first | (exfalso; omega) | exact G.done1 rfl rfl [] (SubH.nil _) ⟨rfl, rfl⟩ | (exfalso; simp_all; done) | skip
    . rw [if_neg hz]
      have hne := itoa_ne (n := ((u / 10 : Nat) : Int)) (by omega)
      refine Spec.enter Tryd.func14 rfl rfl ?_; intro w0
      repeat' (first | (refine G.atQuo ?_; refine G.quoT rfl rfl rfl rfl (by decide) (by rw [hq]; simp only [inR]; omega) ?_; rw [hq]) | (refine G.atRem ?_; refine G.remT rfl rfl rfl rfl (by decide) ?_; rw [hm]) | (show G _ (.ops .seq _ (⟨some _, .call { callee := .value (.func 14), args := _, argTypes := _ }, _, _, _, none⟩ :: _) :: _) _ _ _; (try rw [e8]); refine G.call callDigits rfl rfl (i1 _) Ze ?_; rintro _ h2 H2 ⟨rfl, rfl⟩ hle2) | (show G _ (.ops .seq _ (⟨some _, .call { callee := .value (.func 14), args := _, argTypes := _ }, _, _, _, none⟩ :: _) :: _) _ _ _; (try rw [e9]); refine G.call callDigits rfl rfl (i2 _) Ze ?_; rintro _ h3 H3 ⟨rfl, rfl⟩ hle3) | (refine G.atCode ?_; first | refine G.seq ?_ | refine G.region ?_ | refine G.skip ?_ | refine G.ret ?_ | (refine G.cond rfl ?_ ?_ <;> intro hc <;> (try simp only [tests, reduceCtorEq] at hc) <;> (try exact Zf))) | refine G.endOps ?_ | (refine G.atBin ?_; first | (refine G.atAdd ?_; first | refine G.catStr rfl rfl rfl Zo ?_) | (refine G.atEql ?_; first | refine G.eqStr rfl rfl rfl ?_) | refine G.op rfl rfl ?_) | refine G.op rfl rfl ?_)
      all_goals first | (exfalso; omega) | exact G.done1 rfl rfl [] (SubH.nil _) ⟨rfl, rfl⟩ | (exfalso; simp_all; done) | skip
def listM (w : List UInt8) (l : List (List UInt8)) : List UInt8 := if l = [] then [] else [32] ++ w ++ [32, 40, 32] ++ Lib.join l [32, 36, 32] ++ [32, 41]
def listP (w : List UInt8) (l : List (List UInt8)) : List UInt8 := if l = [] then [] else [32] ++ w ++ [32, 40, 32] ++ Lib.join l [32, 36, 32]
def lsW (l : List (List UInt8)) : Nat := (l.map fun s => s.length + 3).sum
theorem join_lsW : ∀ l : List (List UInt8), (Lib.join l [32, 36, 32]).length <= lsW l
  | [] => by simp [Lib.join_nil]
  | x :: r => by
    rw [Lib.join_cons]
    have : ∀ r : List (List UInt8), (Lib.joinTail [32, 36, 32] r).length <= lsW r := fun r => by
      induction r with
      | nil => simp [Lib.joinTail, lsW]
      | cons a r ih => simp only [Lib.joinTail, lsW, List.map_cons, List.flatten_cons, List.length_append, List.sum_cons, List.length_cons, List.length_nil] at ih ⊢; omega
    have := this r
    simp only [lsW, List.map_cons, List.sum_cons, List.length_append] at this ⊢
    omega
theorem joinS_snoc (x : List UInt8) : ∀ (L : List (List UInt8)), L ≠ [] -> Lib.join (L ++ [x]) [32, 36, 32] = Lib.join L [32, 36, 32] ++ [32, 36, 32] ++ x
  | [], h => absurd rfl h
  | y :: r, _ => by
    rw [List.cons_append, Lib.join_cons, Lib.join_cons]
    simp [Lib.joinTail]
theorem lsW_take (l : List (List UInt8)) (i : Nat) : lsW (l.take i) <= lsW l := by
  unfold lsW
  rw [List.map_take]
  conv => rhs; rw [<- List.take_append_drop i (l.map fun s => s.length + 3)]
  rw [List.sum_append]; omega
theorem callList : Callable Tryd.prog 15 := ⟨_, Tryd.func15, by kernel_rfl, rfl⟩
set_option maxRecDepth 8000 in
set_option maxHeartbeats 2000000 in
theorem ref13_list (w : List UInt8) (l : List (List UInt8)) (v : Value) (hw : w.length <= 100) (hl : lsW l <= 1000000000) (h : Heap) (hv : HSl h v 1 (strsR l)) :
    Spec Tryd.prog 15 [str w, v] h [] (fun u _ H' => u = str (listM w l) /\ H' = []) := by
  have hvl := hv.len
  obtain ⟨A, c, rfl, _⟩ := hv.form
  rw [strsR_length] at hvl
  simp only [strsR_length] at hv ⊢
  refine Spec.enter Tryd.func15 rfl rfl ?_; intro w0
  repeat' (first | (refine G.atCode ?_; refine G.stopLoop ?_) | (refine G.atCode ?_; first | refine G.seq ?_ | refine G.region ?_ | refine G.block ?_) | refine G.endOps ?_ | refine G.op rfl rfl ?_ | (refine G.atLen ?_; first | refine G.lenSlice rfl (tyy rfl) rfl ?_))
  refine G.go ?_
  refine G.loop (σ := Nat) (fun i => [(10, .int .i64 i), (9, .int .i64 l.length), (8, .slice A l.length c), (5, str (listP w (l.take i))), (0, str w)]) (fun _ => []) (fun i _ => i <= l.length) (fun i => l.length - i) 0 ⟨rfl, rfl, rfl, rfl, rfl, trivial⟩ (SubH.nil _) (Nat.zero_le _) ?_
  rintro i h1 hle1 hi
  by_cases hlt : i < l.length
  . obtain ⟨x, hx⟩ : ∃ t, l[i]? = some t := ⟨l[i], List.getElem?_eq_getElem hlt⟩
    have hget : (strsR l)[i]? = some [str x] := by simp [strsR, hx]
    have htk : l.take (i + 1) = l.take i ++ [x] := by rw [List.take_succ, hx]; rfl
    have hlw := lsW_take l (i + 1)
    have hj0 := join_lsW (l.take i)
    have hj1 := join_lsW (l.take (i + 1))
    have hj2 := lsW_take l i
    have hxl : x.length <= lsW (l.take (i + 1)) := by
      rw [htk]; unfold lsW; rw [List.map_append, List.sum_append]; simp; omega
    by_cases hz : i = 0
    . subst hz
      have e1 : listP w (l.take (0 + 1)) = [32] ++ w ++ [32, 40, 32] ++ x := by
        rw [htk]; unfold listP; rw [if_neg (by simp)]; simp [Lib.join_one]
      repeat' (first | (refine G.atIdx ?_; refine G.idxImm rfl rfl (tyy rfl) (tyy rfl) (hv.mono (by solve | repeat first | assumption | exact Zr _ | refine Zq ?_ Zp)) Zj rfl (by rw [strsR_length]; omega) ?_; intro pp rr hx9 hp9; (rw [hget] at hx9); (obtain rfl := Option.some.inj hx9)) | (refine G.atCode ?_; first | refine G.seq ?_ | refine G.region ?_ | refine G.block ?_ | refine G.skip ?_ | (refine G.cond rfl ?_ ?_ <;> intro hc <;> (try simp only [tests, reduceCtorEq] at hc) <;> (try exact Zf))) | refine G.endOps ?_ | refine G.endBlk ?_ | (refine G.atBin ?_; first | (refine G.atAdd ?_; first | refine G.arith rfl rfl rfl rfl rfl Zi ?_ | refine G.catStr rfl rfl rfl Zo ?_) | (refine G.atEql ?_; first | refine G.op rfl rfl ?_) | refine G.op rfl rfl ?_) | refine G.op rfl rfl ?_ | (refine G.atLoad ?_; first | refine G.loadImm1 rfl (tyy rfl) rfl rfl Zp rfl ?_))
      all_goals first | (exfalso; omega) | exact G.again 1 ⟨rfl, rfl, rfl, sstr e1.symm, rfl, trivial⟩ (SubH.nil _) (by omega) (by solve | repeat first | assumption | exact Zr _ | refine Zq ?_ Zp) (by omega) | skip
    . have hne : l.take i ≠ [] := by intro e; have := congrArg List.length e; rw [List.length_take] at this; simp only [List.length_nil] at this; omega
      have e0 : listP w (l.take i) = [32] ++ w ++ [32, 40, 32] ++ Lib.join (l.take i) [32, 36, 32] := by unfold listP; rw [if_neg hne]
      have e1 : listP w (l.take (i + 1)) = listP w (l.take i) ++ [32, 36, 32] ++ x := by
        rw [e0, htk]; unfold listP; rw [if_neg (by simp), joinS_snoc x _ hne]; simp
      have hpl : (listP w (l.take i)).length <= 1000000200 := by rw [e0]; simp only [List.length_append, List.length_cons, List.length_nil]; omega
      generalize listP w (l.take i) = s at *
      repeat' (first | (refine G.atIdx ?_; refine G.idxImm rfl rfl (tyy rfl) (tyy rfl) (hv.mono (by solve | repeat first | assumption | exact Zr _ | refine Zq ?_ Zp)) Zj rfl (by rw [strsR_length]; omega) ?_; intro pp rr hx9 hp9; (rw [hget] at hx9); (obtain rfl := Option.some.inj hx9)) | (refine G.atCode ?_; first | refine G.seq ?_ | refine G.region ?_ | refine G.block ?_ | refine G.skip ?_ | (refine G.cond rfl ?_ ?_ <;> intro hc <;> (try simp only [tests, reduceCtorEq] at hc) <;> (try exact Zf))) | refine G.endOps ?_ | refine G.endBlk ?_ | (refine G.atBin ?_; first | (refine G.atAdd ?_; first | refine G.arith rfl rfl rfl rfl rfl Zi ?_ | refine G.catStr rfl rfl rfl Zo ?_) | (refine G.atEql ?_; first | refine G.op rfl rfl ?_) | refine G.op rfl rfl ?_) | refine G.op rfl rfl ?_ | (refine G.atLoad ?_; first | refine G.loadImm1 rfl (tyy rfl) rfl rfl Zp rfl ?_))
      all_goals first | (exfalso; omega) | exact G.again (i + 1) ⟨sint (by simp), rfl, rfl, sstr e1.symm, rfl, trivial⟩ (SubH.nil _) (by omega) (by solve | repeat first | assumption | exact Zr _ | refine Zq ?_ Zp) (by omega) | skip
  . obtain rfl : i = l.length := by omega
    rw [List.take_length]
    have hj := join_lsW l
    by_cases hn : l = []
    . have e0 : listP w l = [] := by unfold listP; rw [if_pos hn]
      have e1 : listM w l = [] := by unfold listM; rw [if_pos hn]
      rw [e0, e1]
      repeat' (first | (refine G.atCode ?_; first | refine G.seq ?_ | refine G.region ?_ | refine G.skip ?_ | refine G.exit rfl ?_ | refine G.ret ?_ | (refine G.cond rfl ?_ ?_ <;> intro hc <;> (try simp only [tests, reduceCtorEq] at hc) <;> (try exact Zf))) | refine G.endOps ?_ | (refine G.atBin ?_; first | (refine G.atAdd ?_; first | refine G.catStr rfl rfl rfl Zo ?_) | (refine G.atNeq ?_; first | refine G.neStr0 rfl rfl rfl ?_) | refine G.op rfl rfl ?_) | refine G.op rfl rfl ?_)
      all_goals first | (exfalso; omega) | exact G.done1 rfl rfl [] (SubH.nil _) ⟨rfl, rfl⟩ | (exfalso; simp_all; done) | skip
    . have e0 : listP w l = [32] ++ w ++ [32, 40, 32] ++ Lib.join l [32, 36, 32] := by unfold listP; rw [if_neg hn]
      have e1 : listM w l = listP w l ++ [32, 41] := by unfold listM; rw [e0, if_neg hn]
      have hpl : (listP w l).length <= 1000000200 := by rw [e0]; simp only [List.length_append, List.length_cons, List.length_nil]; omega
      have hp0 : 0 < (listP w l).length := by rw [e0]; simp only [List.length_append, List.length_cons, List.length_nil]; omega
      rw [e1]
      generalize listP w l = s at *
      repeat' (first | (refine G.atCode ?_; first | refine G.seq ?_ | refine G.region ?_ | refine G.exit rfl ?_ | refine G.ret ?_ | (refine G.cond rfl ?_ ?_ <;> intro hc <;> (try simp only [tests, reduceCtorEq] at hc) <;> (try exact Zf))) | refine G.endOps ?_ | (refine G.atBin ?_; first | (refine G.atAdd ?_; first | refine G.catStr rfl rfl rfl Zo ?_) | (refine G.atNeq ?_; first | refine G.neStr0 rfl rfl rfl ?_) | refine G.op rfl rfl ?_) | refine G.op rfl rfl ?_)
      all_goals first | (exfalso; omega) | exact G.done1 rfl rfl [] (SubH.nil _) ⟨rfl, rfl⟩ | (exfalso; simp_all; done) | skip
end Go.Proofs.YtfmekdmpghhegaaDoor
