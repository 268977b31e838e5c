/- castellanlaw06: cut, cuts, alike; what stays true of a journal. -/
import Derived.Test.YtmbpjgjajedonaaGreatDoorJpD
import Derived.Test.YtmbpjgjajedonaaGreatDoorJpG
namespace Go.Proofs.YtmbpjgjajedonaaGreatDoor
set_option linter.all false
set_option maxRecDepth 4000
open Go.RowKit

theorem callCut6 : Callable Tryz.prog 15 := ⟨_, Tryz.func15, by kernel_rfl, rfl⟩
theorem callCuts6 : Callable Tryz.prog 20 := ⟨_, Tryz.func20, by kernel_rfl, rfl⟩
theorem callAlike6 : Callable Tryz.prog 29 := ⟨_, Tryz.func29, by kernel_rfl, rfl⟩
theorem law06_cut (s : B8) (hs : s.length <= 9223372036854775807) (n : Nat) (hn : n <= 1000000) (h : Heap) : Spec Tryz.prog 15 [str s, .int .i64 n] h [] (fun u _ H' => u = str (s.take n) /\ H' = []) := by
  have e : s.take (min (s.length : Int) (n : Int)).toNat = s.take n := by
    rw [show (min (s.length : Int) (n : Int)) = min (n : Int) (s.length : Int) by omega]; exact take_minJ s n
  refine Spec.enter Tryz.func15 rfl rfl ?_; intro w0
  repeat' (first | (refine G.minI rfl rfl rfl ?_) | (refine G.maxI rfl rfl rfl ?_) | (refine G.atCode ?_; first | refine G.seq ?_ | refine G.region ?_ | refine G.block ?_ | refine G.skip ?_ | refine G.exit rfl ?_ | refine G.ret ?_ | (refine G.cond rfl ?_ ?_ <;> intro hc <;> (try simp only [tests, reduceCtorEq] at hc) <;> (try exact Zf))) | refine G.endOps ?_ | refine G.endStill ?_ | refine G.endHeld ?_ | refine G.back ?_ | refine G.endBlk ?_ | refine G.op rfl rfl ?_ | (refine G.atLen ?_; first | refine G.lenStr rfl (tyy rfl) rfl ?_ | refine G.lenSlice rfl (tyy rfl) rfl ?_ | refine G.lenRowB rfl (tyy rfl) Za rfl ?_ | refine G.lenRowS rfl (tyy rfl) Za rfl ?_ | refine G.lenRow rfl (tyy rfl) Za rfl ?_ | refine G.lenImmB rfl (tyy rfl) Zl rfl ?_ | refine G.lenImmI rfl (tyy rfl) Zl rfl ?_ | refine G.lenImmS rfl (tyy rfl) Zl rfl ?_ | refine G.lenImm rfl (tyy rfl) Zl rfl ?_) | (refine G.atSlc ?_; first | refine G.dropStr rfl rfl (tyy rfl) rfl Zj Zo ?_ | refine G.takeStr rfl rfl (tyy rfl) rfl Zj Zo ?_ | refine G.sliceStr rfl rfl rfl (tyy rfl) rfl Zj Zj Zo rfl ?_))
  exact G.done1 rfl rfl _ (SubH.nil _) ⟨congrArg str e, rfl⟩
def cutsM (l : List B8) (n most : Nat) : List B8 := (l.take most).map fun s => s.take n
set_option maxRecDepth 8000 in
theorem law06_cuts (l : List B8) (hl : ∀ s ∈ l, s.length <= 9223372036854775807) (n most : Nat) (hn : n <= 1000000) (hm : most <= 1000000) (lv : Value) (h : Heap) (hv : HSl h lv 1 (strsR l)) :
    Spec Tryz.prog 20 [lv, .int .i64 n, .int .i64 most] h [] (fun u _ H' => ∃ A c, u = .slice A (cutsM l n most).length c /\ H' = [.row (.slice A (cutsM l n most).length c) 9 1 (strsR (cutsM l n most))]) := by
  obtain ⟨lA, lc, rfl, q1, q2, q3⟩ := hv.form
  have hsl : (strsR l).length = l.length := strsR_length l
  have hcap : l.length <= lc := by rw [<- hsl]; assumption
  have hL := hv.cut (min l.length most) (by rw [hsl]; omega)
  rw [strsR_take] at hL
  have hcu : cutsM l n most = (l.take (min l.length most)).map fun s => s.take n := by
    unfold cutsM; rcases Nat.le_total l.length most with hh | hh
    . rw [Nat.min_eq_left hh, List.take_of_length_le hh, List.take_length]
    . rw [Nat.min_eq_right hh]
  have hKl : (l.take (min l.length most)).length = min l.length most := by rw [List.length_take]; omega
  have hKs : ∀ s ∈ l.take (min l.length most), s.length <= 9223372036854775807 := fun s hs => hl s (List.mem_of_mem_take hs)
  rw [hcu]
  generalize l.take (min l.length most) = K at *
  have hml : (min (l.length : Int) (most : Int)).toNat = min l.length most := by omega
  generalize hmm : min l.length most = mm at *
  rw [hsl]
  refine Spec.enter Tryz.func20 rfl rfl ?_; intro w0
  repeat' (first | (refine G.minI rfl rfl rfl ?_) | (refine G.maxI rfl rfl rfl ?_) | (refine G.atSlc ?_; refine G.slicePre (b := min (l.length : Int) (most : Int)) (b' := mm) rfl rfl (tyy rfl) (tyy rfl) rfl hml (by omega) ?_) | (refine G.atCode ?_; refine G.stopLoop ?_) | (refine G.atCode ?_; first | refine G.seq ?_ | refine G.region ?_ | refine G.block ?_ | refine G.skip ?_ | refine G.exit rfl ?_ | refine G.ret ?_ | (refine G.cond rfl ?_ ?_ <;> intro hc <;> (try simp only [tests, reduceCtorEq] at hc) <;> (try exact Zf))) | refine G.endOps ?_ | refine G.endStill ?_ | refine G.endHeld ?_ | refine G.back ?_ | refine G.endBlk ?_ | (refine G.atBin ?_; first | (refine G.atAdd ?_; first | refine G.arith rfl rfl rfl rfl rfl Zi ?_ | refine G.catStr rfl rfl rfl Zo ?_ | refine G.op rfl rfl ?_) | refine G.op rfl rfl ?_ ) | refine G.op rfl rfl ?_ | (refine G.atLen ?_; first | refine G.lenStr rfl (tyy rfl) rfl ?_ | refine G.lenSlice rfl (tyy rfl) rfl ?_ | refine G.lenRowB rfl (tyy rfl) Za rfl ?_ | refine G.lenRowS rfl (tyy rfl) Za rfl ?_ | refine G.lenRow rfl (tyy rfl) Za rfl ?_ | refine G.lenImmB rfl (tyy rfl) Zl rfl ?_ | refine G.lenImmI rfl (tyy rfl) Zl rfl ?_ | refine G.lenImmS rfl (tyy rfl) Zl rfl ?_ | refine G.lenImm rfl (tyy rfl) Zl rfl ?_) | (refine G.atLoad ?_; first | refine G.loadOwn1 rfl (tyy rfl) rfl rfl Za rfl rfl ?_ | refine G.loadOwnA rfl (tyy rfl) rfl rfl Za rfl rfl ?_ | refine G.loadImm1 rfl (tyy rfl) rfl rfl Zp rfl ?_ | refine G.loadImmA rfl (tyy rfl) rfl rfl Zp Zp rfl ?_ | refine G.loadRowS rfl (tyy rfl) Zp Za Zo rfl ?_ | (refine G.loadRowB rfl (tyy rfl) Zp Za Zo rfl ?_; intro _)) | (refine G.atBsl ?_; refine G.buildSlice (tyy rfl) (tyy rfl) rfl rfl rfl rfl ?_; intro _) | (refine G.atApp ?_; first | (refine G.append1S rfl rfl (tyy rfl) (tyy rfl) rfl rfl Za Za rfl Zo ?_; intro _) | (refine G.appendImmS rfl rfl (tyy rfl) (tyy rfl) rfl rfl Za Zl rfl Zo ?_; intro _) | (refine G.append1B rfl rfl (tyy rfl) (tyy rfl) rfl rfl Za Za rfl Zo Zo ?_; intro _) | (refine G.appendStr rfl rfl (tyy rfl) (tyy rfl) (tyy rfl) rfl rfl Za rfl Zo ?_; intro _) | (refine G.append1 rfl rfl (tyy rfl) (tyy rfl) rfl rfl Za Za rfl rfl rfl Zo ?_; intro _; refine G.rowForm Take.hd ?_; rintro _ _ rfl)) | (refine G.atIdx ?_; first | (refine G.idxImmI rfl rfl (tyy rfl) (tyy rfl) Zl Zp Zj rfl Zo ?_; intro _ _ _) | (refine G.idxImmS rfl rfl (tyy rfl) (tyy rfl) Zl Zj rfl Zo ?_; intro _ _) | (refine G.idxImmB rfl rfl (tyy rfl) (tyy rfl) Zl Zj rfl Zo ?_; intro _ _ _) | (refine G.idxRow' rfl rfl (tyy rfl) (tyy rfl) Za Zj rfl Zo ?_; intro _ _) | (refine G.idxImmN rfl rfl (tyy rfl) (tyy rfl) Zl Zj rfl Zo ?_; intro _ _ _ _ _)) | (refine G.atSlc ?_; first | refine G.dropStr rfl rfl (tyy rfl) rfl Zj Zo ?_ | refine G.takeStr rfl rfl (tyy rfl) rfl Zj Zo ?_ | refine G.sliceStr rfl rfl rfl (tyy rfl) rfl Zj Zj Zo rfl ?_))
  refine G.nilRow 9 1 ?_
  refine G.go ?_
  refine G.loop (σ := Nat × Option Addr × Nat) (fun x => [(17, .int .i64 x.1), (16, .int .i64 mm), (15, .slice lA mm lc), (7, .slice x.2.1 x.1 x.2.2), (1, .int .i64 n)])
    (fun x => [.row (.slice x.2.1 x.1 x.2.2) 9 1 (strsR ((K.take x.1).map fun s => s.take n))]) (fun x _ => x.1 <= mm) (fun x => mm - x.1) ⟨0, none, 0⟩ ⟨rfl, rfl, rfl, rfl, rfl, trivial⟩ Zu (Nat.zero_le _) ?_
  rintro ⟨i, A, c⟩ h3 hle3 hi
  simp only at hi
  refine G.norm (by (try dsimp only) <;> exact rfl) (by (try dsimp only) <;> exact rfl) ?_
  have hL3 : HSl h3 (.slice lA mm lc) 1 (strsR K) := hL.mono (by solve | repeat first | assumption | exact Zr _ | refine Zq ?_ Zp)
  have hrl : ((K.take i).map fun s => s.take n).length = i := by rw [List.length_map, List.length_take]; omega
  by_cases hlt : i < mm
  . have sC := law06_cut (strAt K i) (hKs _ (strAt_in (by omega))) n hn
    have hc1 : ((K.take i).map fun s => s.take n) ++ [(strAt K i).take n] = (K.take (i + 1)).map fun s => s.take n := by
      rw [<- take_snoc (L := K) (by omega), List.map_append]; rfl
    generalize (K.take i).map (fun s => s.take n) = L1 at *
    repeat' (first | (refine G.atIdx ?_; refine G.idxImmS rfl rfl (tyy rfl) (tyy rfl) hL3 Zj rfl (by omega) ?_; intro _ _) | (show G _ (.ops .seq _ (⟨some _, .call { callee := .value (.func 15), args := _, argTypes := _ }, _, _, _, none⟩ :: _) :: _) _ _ _; refine G.call callCut6 rfl rfl (sC _) Ze ?_; rintro _ h4 H4 ⟨rfl, rfl⟩ hle4) | (refine G.atApp ?_; refine G.append1S rfl rfl (tyy rfl) (tyy rfl) rfl rfl Za Za rfl Zo ?_; intro _; refine G.rowForm Take.hd ?_; rintro _ _ rfl) | (refine G.atCode ?_; first | refine G.seq ?_ | refine G.region ?_ | refine G.block ?_ | refine G.skip ?_ | refine G.exit rfl ?_ | refine G.ret ?_ | (refine G.cond rfl ?_ ?_ <;> intro hc <;> (try simp only [tests, reduceCtorEq] at hc) <;> (try exact Zf))) | refine G.endOps ?_ | refine G.endStill ?_ | refine G.endHeld ?_ | refine G.back ?_ | refine G.endBlk ?_ | (refine G.atBin ?_; first | (refine G.atAdd ?_; first | refine G.arith rfl rfl rfl rfl rfl Zi ?_ | refine G.catStr rfl rfl rfl Zo ?_ | refine G.op rfl rfl ?_) | refine G.op rfl rfl ?_ ) | refine G.op rfl rfl ?_ | (refine G.atLen ?_; first | refine G.lenStr rfl (tyy rfl) rfl ?_ | refine G.lenSlice rfl (tyy rfl) rfl ?_ | refine G.lenRowB rfl (tyy rfl) Za rfl ?_ | refine G.lenRowS rfl (tyy rfl) Za rfl ?_ | refine G.lenRow rfl (tyy rfl) Za rfl ?_ | refine G.lenImmB rfl (tyy rfl) Zl rfl ?_ | refine G.lenImmI rfl (tyy rfl) Zl rfl ?_ | refine G.lenImmS rfl (tyy rfl) Zl rfl ?_ | refine G.lenImm rfl (tyy rfl) Zl rfl ?_) | (refine G.atLoad ?_; first | refine G.loadOwn1 rfl (tyy rfl) rfl rfl Za rfl rfl ?_ | refine G.loadOwnA rfl (tyy rfl) rfl rfl Za rfl rfl ?_ | refine G.loadImm1 rfl (tyy rfl) rfl rfl Zp rfl ?_ | refine G.loadImmA rfl (tyy rfl) rfl rfl Zp Zp rfl ?_ | refine G.loadRowS rfl (tyy rfl) Zp Za Zo rfl ?_ | (refine G.loadRowB rfl (tyy rfl) Zp Za Zo rfl ?_; intro _)) | (refine G.atBsl ?_; refine G.buildSlice (tyy rfl) (tyy rfl) rfl rfl rfl rfl ?_; intro _) | (refine G.atApp ?_; first | (refine G.append1S rfl rfl (tyy rfl) (tyy rfl) rfl rfl Za Za rfl Zo ?_; intro _) | (refine G.appendImmS rfl rfl (tyy rfl) (tyy rfl) rfl rfl Za Zl rfl Zo ?_; intro _) | (refine G.append1B rfl rfl (tyy rfl) (tyy rfl) rfl rfl Za Za rfl Zo Zo ?_; intro _) | (refine G.appendStr rfl rfl (tyy rfl) (tyy rfl) (tyy rfl) rfl rfl Za rfl Zo ?_; intro _) | (refine G.append1 rfl rfl (tyy rfl) (tyy rfl) rfl rfl Za Za rfl rfl rfl Zo ?_; intro _; refine G.rowForm Take.hd ?_; rintro _ _ rfl)) | (refine G.atIdx ?_; first | (refine G.idxImmI rfl rfl (tyy rfl) (tyy rfl) Zl Zp Zj rfl Zo ?_; intro _ _ _) | (refine G.idxImmS rfl rfl (tyy rfl) (tyy rfl) Zl Zj rfl Zo ?_; intro _ _) | (refine G.idxImmB rfl rfl (tyy rfl) (tyy rfl) Zl Zj rfl Zo ?_; intro _ _ _) | (refine G.idxRow' rfl rfl (tyy rfl) (tyy rfl) Za Zj rfl Zo ?_; intro _ _) | (refine G.idxImmN rfl rfl (tyy rfl) (tyy rfl) Zl Zj rfl Zo ?_; intro _ _ _ _ _)) | (refine G.atSlc ?_; first | refine G.dropStr rfl rfl (tyy rfl) rfl Zj Zo ?_ | refine G.takeStr rfl rfl (tyy rfl) rfl Zj Zo ?_ | refine G.sliceStr rfl rfl rfl (tyy rfl) rfl Zj Zj Zo rfl ?_))
    all_goals first | (exfalso; omega) | skip
    have hll : (strsR (L1 ++ [(strAt K i).take n])).length = i + 1 := by rw [strsR_length, List.length_append, hrl]; rfl
    rw [hll, hc1]
    exact G.again ⟨i + 1, _, _⟩ ⟨sint (by simp), rfl, rfl, rfl, rfl, trivial⟩ Zu (by simp only; omega) (by solve | repeat first | assumption | exact Zr _ | refine Zq ?_ Zp) (by simp only; omega)
  . obtain rfl : i = mm := by omega
    rw [<- hKl, List.take_length] at hrl ⊢
    rw [hrl]
    repeat' (first | (refine G.atCode ?_; first | refine G.seq ?_ | refine G.region ?_ | refine G.block ?_ | refine G.skip ?_ | refine G.exit rfl ?_ | refine G.ret ?_ | (refine G.cond rfl ?_ ?_ <;> intro hc <;> (try simp only [tests, reduceCtorEq] at hc) <;> (try exact Zf))) | refine G.endOps ?_ | refine G.endStill ?_ | refine G.endHeld ?_ | refine G.back ?_ | refine G.endBlk ?_ | (refine G.atBin ?_; first | (refine G.atAdd ?_; first | refine G.arith rfl rfl rfl rfl rfl Zi ?_ | refine G.catStr rfl rfl rfl Zo ?_ | refine G.op rfl rfl ?_) | refine G.op rfl rfl ?_ ) | refine G.op rfl rfl ?_ | (refine G.atLen ?_; first | refine G.lenStr rfl (tyy rfl) rfl ?_ | refine G.lenSlice rfl (tyy rfl) rfl ?_ | refine G.lenRowB rfl (tyy rfl) Za rfl ?_ | refine G.lenRowS rfl (tyy rfl) Za rfl ?_ | refine G.lenRow rfl (tyy rfl) Za rfl ?_ | refine G.lenImmB rfl (tyy rfl) Zl rfl ?_ | refine G.lenImmI rfl (tyy rfl) Zl rfl ?_ | refine G.lenImmS rfl (tyy rfl) Zl rfl ?_ | refine G.lenImm rfl (tyy rfl) Zl rfl ?_) | (refine G.atLoad ?_; first | refine G.loadOwn1 rfl (tyy rfl) rfl rfl Za rfl rfl ?_ | refine G.loadOwnA rfl (tyy rfl) rfl rfl Za rfl rfl ?_ | refine G.loadImm1 rfl (tyy rfl) rfl rfl Zp rfl ?_ | refine G.loadImmA rfl (tyy rfl) rfl rfl Zp Zp rfl ?_ | refine G.loadRowS rfl (tyy rfl) Zp Za Zo rfl ?_ | (refine G.loadRowB rfl (tyy rfl) Zp Za Zo rfl ?_; intro _)) | (refine G.atBsl ?_; refine G.buildSlice (tyy rfl) (tyy rfl) rfl rfl rfl rfl ?_; intro _) | (refine G.atApp ?_; first | (refine G.append1S rfl rfl (tyy rfl) (tyy rfl) rfl rfl Za Za rfl Zo ?_; intro _) | (refine G.appendImmS rfl rfl (tyy rfl) (tyy rfl) rfl rfl Za Zl rfl Zo ?_; intro _) | (refine G.append1B rfl rfl (tyy rfl) (tyy rfl) rfl rfl Za Za rfl Zo Zo ?_; intro _) | (refine G.appendStr rfl rfl (tyy rfl) (tyy rfl) (tyy rfl) rfl rfl Za rfl Zo ?_; intro _) | (refine G.append1 rfl rfl (tyy rfl) (tyy rfl) rfl rfl Za Za rfl rfl rfl Zo ?_; intro _; refine G.rowForm Take.hd ?_; rintro _ _ rfl)) | (refine G.atIdx ?_; first | (refine G.idxImmI rfl rfl (tyy rfl) (tyy rfl) Zl Zp Zj rfl Zo ?_; intro _ _ _) | (refine G.idxImmS rfl rfl (tyy rfl) (tyy rfl) Zl Zj rfl Zo ?_; intro _ _) | (refine G.idxImmB rfl rfl (tyy rfl) (tyy rfl) Zl Zj rfl Zo ?_; intro _ _ _) | (refine G.idxRow' rfl rfl (tyy rfl) (tyy rfl) Za Zj rfl Zo ?_; intro _ _) | (refine G.idxImmN rfl rfl (tyy rfl) (tyy rfl) Zl Zj rfl Zo ?_; intro _ _ _ _ _)) | (refine G.atSlc ?_; first | refine G.dropStr rfl rfl (tyy rfl) rfl Zj Zo ?_ | refine G.takeStr rfl rfl (tyy rfl) rfl Zj Zo ?_ | refine G.sliceStr rfl rfl rfl (tyy rfl) rfl Zj Zj Zo rfl ?_))
    all_goals first | (exfalso; omega) | exact G.done1 rfl rfl _ Zu ⟨A, c, rfl, rfl⟩
theorem law06_alikeN (h : Heap) : Spec Tryz.prog 29 [.pointer none, .pointer none] h [] (fun u _ H' => u = .bool true /\ H' = []) := by
  refine Spec.enter Tryz.func29 rfl rfl ?_; intro w0
  repeat' (first | (show G _ (.ops .seq _ (⟨some _, .call { callee := .value (.func 33), args := _, argTypes := _ }, _, _, _, none⟩ :: _) :: _) _ _ _; refine G.call callLeft6 rfl rfl (jo_LeftN _) Ze ?_; rintro _ h7 H7 ⟨rfl, rfl⟩ hle7) | (show G _ (.ops .seq _ (⟨some _, .call { callee := .value (.func 62), args := _, argTypes := _ }, _, _, _, none⟩ :: _) :: _) _ _ _; refine G.call callLen6 rfl rfl (jo_LenN _) Ze ?_; rintro _ h8 H8 ⟨rfl, rfl⟩ hle8) | (show G _ (.ops .seq _ (⟨some _, .call { callee := .value (.func 32), args := _, argTypes := _ }, _, _, _, none⟩ :: _) :: _) _ _ _; refine G.call callGen6 rfl rfl (jo_GenN _) Ze ?_; rintro _ h9 H9 ⟨rfl, rfl⟩ hle9) | (refine G.atCode ?_; first | refine G.seq ?_ | refine G.region ?_ | refine G.block ?_ | refine G.skip ?_ | refine G.drawAuto mixedOk rfl Zw ?_ | refine G.drawAll slB Zw mixedOk Zw ?_ | refine G.anyIn mixedOk ?_ | refine G.exit rfl ?_ | refine G.ret ?_ | (refine G.cond rfl ?_ ?_ <;> intro hc <;> (try simp only [tests, reduceCtorEq] at hc) <;> (try exact Zf))) | refine G.endOps ?_ | refine G.endStill ?_ | refine G.endHeld ?_ | refine G.back ?_ | refine G.endBlk ?_ | (refine G.atAny ?_; first | refine G.anyAutoX slB rfl rfl Zw Zg Zd ?_ | refine G.anyOne rfl Zw Zg Zu ?_ | refine G.anyAuto slB rfl Zw Zg Zu ?_ | refine G.anyEndX Zw ?_ | refine G.anyEnd Zw Zg Zu ?_ | refine G.anyTwo rfl Zw Zg Zu ?_ ?_) | (refine G.atGd ?_; first | refine G.guardYes rfl rfl ?_ | refine G.guardNoS rfl rfl rfl ?_ | refine G.guardU rfl rfl rfl ?_ | (refine G.guardS rfl rfl rfl ?_ ?_ <;> intro hc <;> (try simp only [tests, reduceCtorEq] at hc) <;> (try exact Zf)) | refine G.guardNo rfl rfl ?_ (by rintro i ⟨⟩; rfl) | (refine G.guard rfl rfl ?_ ?_ (by rintro i ⟨⟩; rfl) <;> intro hc <;> (try simp only [tests, reduceCtorEq] at hc) <;> (try exact Zf))) | (refine G.atBin ?_; first | (refine G.atEql ?_; first | refine G.op rfl rfl ?_ | refine G.eqStr0 rfl rfl rfl ?_ | refine G.eqStr rfl rfl rfl ?_ | refine G.eqPtr rfl rfl (tyy rfl) rfl ?_ | refine G.eqBool rfl rfl (tyy rfl) rfl ?_) | refine G.op rfl rfl ?_ ) | refine G.op rfl rfl ?_ | (refine G.atLoad ?_; first | refine G.loadOwn1 rfl (tyy rfl) rfl rfl Za rfl rfl ?_ | refine G.loadOwnA rfl (tyy rfl) rfl rfl Za rfl rfl ?_ | refine G.loadImm1 rfl (tyy rfl) rfl rfl Zp rfl ?_ | refine G.loadImmA rfl (tyy rfl) rfl rfl Zp Zp rfl ?_ | refine G.loadRowS rfl (tyy rfl) Zp Za Zo rfl ?_ | (refine G.loadRowB rfl (tyy rfl) Zp Za Zo rfl ?_; intro _)) | (refine G.atFld ?_; first | refine G.fieldAddr rfl (tyy rfl) rfl rfl ?_ | refine G.fieldAddrP rfl (tyy rfl) rfl rfl ?_)           )
  all_goals first | (exfalso; simp at *; done) | exact G.done1 rfl rfl [] (SubH.nil _) ⟨rfl, rfl⟩
def jrC (g d m : Nat) (v : Value) (q r : Nat) (lv wv tv : Value) (lim : Bool) (most : Int) (T : List (List Value)) (J : Jn) (D : Dk) : List Chunk := jdC g d m v J D ++ rjC q r lv wv tv lim most T J D
set_option maxRecDepth 8000 in
set_option maxHeartbeats 2000000 in
theorem law06_alike (g d m : Nat) (v : Value) (q r : Nat) (lv wv tv : Value) (lim : Bool) (most : Int) (T : List (List Value)) (J : Jn) (D : Dk) (hI : JI D J) (hlm : LimR lim most D) (h : Heap) :
    Spec Tryz.prog 29 [.pointer (some ⟨g, 0, none⟩), .pointer (some ⟨q, 0, none⟩)] h (jrC g d m v q r lv wv tv lim most T J D) (fun u _ H' => u = .bool true /\ H' = jrC g d m v q r lv wv tv lim most T J D) := by
  have hz : sizeM D <= 8192 := by unfold sizeM; have := hI.ok.n; omega
  have hu := hI.used
  have sL := jo_Left g d m v J D hI.n4 hI.ok.n hI.lim hI.half (by omega)
  have sQ := rj_Left q r lv wv tv lim most T J D hI.n4 hI.ok.n hlm hI.lim hI.half (by omega)
  have sN := jo_Len g d J
  have sG := jo_Gen g d J
  generalize leftM D J = lf at *
  unfold jrC
  unfold jdC rjC rjB rkD jnC dkC at *
  generalize waitL D = Ws at *
  unfold rkC at *
  dsimp only [List.cons_append, List.nil_append] at *
  refine Spec.enter Tryz.func29 rfl rfl ?_; intro w0
  repeat' (first | (refine G.atAny ?_; refine G.anyHold 24 slB rfl (H1 := [.blk q [.pointer (some ⟨r, 0, none⟩), .int .i64 J.gen, .int .i64 J.half, .int .i64 J.slot, .int .i64 J.used, .int .i64 J.n, .bool J.closed] 82]) rfl Zw Zg Zu ?_) | (refine G.atAny ?_; first | refine G.anyAutoX slB rfl rfl Zw (by solve | exact Heap.none_le _ | assumption | exact Zr _ | (repeat first | assumption | exact Zr _ | refine Zq ?_ Zp)) Zd ?_ | refine G.anyKeep slB rfl Zw (by solve | exact Heap.none_le _ | assumption | exact Zr _ | (repeat first | assumption | exact Zr _ | refine Zq ?_ Zp)) Zu ?_ | refine G.anyOne rfl Zw (by solve | exact Heap.none_le _ | assumption | exact Zr _ | (repeat first | assumption | exact Zr _ | refine Zq ?_ Zp)) Zu ?_ | refine G.anyTwo rfl Zw (by solve | exact Heap.none_le _ | assumption | exact Zr _ | (repeat first | assumption | exact Zr _ | refine Zq ?_ Zp)) Zu ?_ ?_ | refine G.anyEndX Zw ?_ | refine G.anyEnd Zw (by solve | exact Heap.none_le _ | assumption | exact Zr _ | (repeat first | assumption | exact Zr _ | refine Zq ?_ Zp)) Zu ?_) | (show G _ (.ops .seq _ (⟨some _, .call { callee := .value (.func 62), args := _, argTypes := _ }, _, _, _, none⟩ :: _) :: _) _ _ _; refine G.call callLen6 rfl rfl (sN _) Ze ?_; rintro _ h2 H2 ⟨rfl, rfl⟩ hle2) | (show G _ (.ops .seq _ (⟨some _, .call { callee := .value (.func 32), args := _, argTypes := _ }, _, _, _, none⟩ :: _) :: _) _ _ _; refine G.call callGen6 rfl rfl (sG _) Ze ?_; rintro _ h3 H3 ⟨rfl, rfl⟩ hle3) | (show G _ (.ops .seq _ (⟨some _, .call { callee := .value (.func 33), args := _, argTypes := _ }, _, _, _, none⟩ :: _) :: _) _ _ _; refine G.call callLeft6 rfl rfl (sL _) Ze ?_; rintro _ h4 H4 ⟨rfl, rfl⟩ hle4) | (show G _ (.ops .seq _ (⟨some _, .call { callee := .value (.func 51), args := _, argTypes := _ }, _, _, _, none⟩ :: _) :: _) _ _ _; refine G.call callQLeft rfl rfl (sQ _) Ze ?_; rintro _ h5 H5 ⟨rfl, rfl⟩ hle5) | (refine G.atCode ?_; first | refine G.seq ?_ | refine G.region ?_ | refine G.block ?_ | refine G.skip ?_ | refine G.drawAuto mixedOk rfl Zw ?_ | refine G.drawAll slB Zw mixedOk Zw ?_ | refine G.anyIn mixedOk ?_ | refine G.exit rfl ?_ | refine G.ret ?_ | (refine G.cond rfl ?_ ?_ <;> intro hc <;> (try simp only [tests, reduceCtorEq] at hc) <;> (try exact Zf))) | refine G.endOps ?_ | refine G.endStill ?_ | refine G.endHeld ?_ | refine G.back ?_ | refine G.endBlk ?_ | (refine G.atAny ?_; first | refine G.anyAutoX slB rfl rfl Zw Zg Zd ?_ | refine G.anyOne rfl Zw Zg Zu ?_ | refine G.anyAuto slB rfl Zw Zg Zu ?_ | refine G.anyEndX Zw ?_ | refine G.anyEnd Zw Zg Zu ?_ | refine G.anyTwo rfl Zw Zg Zu ?_ ?_) | (refine G.atGd ?_; first | refine G.guardYes rfl rfl ?_ | refine G.guardNoS rfl rfl rfl ?_ | refine G.guardU rfl rfl rfl ?_ | (refine G.guardS rfl rfl rfl ?_ ?_ <;> intro hc <;> (try simp only [tests, reduceCtorEq] at hc) <;> (try exact Zf)) | refine G.guardNo rfl rfl ?_ (by rintro i ⟨⟩; rfl) | (refine G.guard rfl rfl ?_ ?_ (by rintro i ⟨⟩; rfl) <;> intro hc <;> (try simp only [tests, reduceCtorEq] at hc) <;> (try exact Zf))) | (refine G.atBin ?_; first | (refine G.atEql ?_; first | refine G.op rfl rfl ?_ | refine G.eqStr0 rfl rfl rfl ?_ | refine G.eqStr rfl rfl rfl ?_ | refine G.eqPtr rfl rfl (tyy rfl) rfl ?_ | refine G.eqBool rfl rfl (tyy rfl) rfl ?_) | refine G.op rfl rfl ?_ ) | refine G.op rfl rfl ?_ | (refine G.atLoad ?_; first | refine G.loadOwn1 rfl (tyy rfl) rfl rfl Za rfl rfl ?_ | refine G.loadOwnA rfl (tyy rfl) rfl rfl Za rfl rfl ?_ | refine G.loadImm1 rfl (tyy rfl) rfl rfl Zp rfl ?_ | refine G.loadImmA rfl (tyy rfl) rfl rfl Zp Zp rfl ?_ | refine G.loadRowS rfl (tyy rfl) Zp Za Zo rfl ?_ | (refine G.loadRowB rfl (tyy rfl) Zp Za Zo rfl ?_; intro _)) | (refine G.atFld ?_; first | refine G.fieldAddr rfl (tyy rfl) rfl rfl ?_ | refine G.fieldAddrP rfl (tyy rfl) rfl rfl ?_)           )
  all_goals first | (exfalso; simp at *; done) | exact G.done1 rfl rfl _ Zu ⟨by simp, rfl⟩ | trace_state
theorem JI.shp {D D' : Dk} {J : Jn} (hI : JI D J) (ok : D'.Ok) (wk : D'.Wk) (hl : D'.lasts.length = D.lasts.length) (h0 : 0 <= D'.limit) : JI D' J :=
  ⟨ok, wk, by rw [hl]; exact hI.n4, h0, hI.half, by unfold sizeM; rw [hl]; exact hI.used, hI.n, hI.gen, hI.slot⟩
theorem JI.closed {D : Dk} {J : Jn} (hI : JI D J) : JI D { J with closed := true } := ⟨hI.ok, hI.wk, hI.n4, hI.lim, hI.half, hI.used, hI.n, hI.gen, hI.slot⟩
theorem JI.shp2 {D D' : Dk} {J : Jn} (hI : JI D J) (ok : D'.Ok) (wk : D'.Wk) (s : Shp D D') : JI D' J := hI.shp ok wk s.2 (by rw [s.1]; exact hI.lim)
theorem JI.reset {D : Dk} {J : Jn} (hI : JI D J) (bs : List B8) : JI (resetM D J bs).1 (resetM D J bs).2.1 := by
  have a1 := layJ_ok (allM (J.gen + 1) 0 bs) (firstM D (1 - J.half)) hI.ok
  have a2 := layJ_wk (allM (J.gen + 1) 0 bs) (firstM D (1 - J.half)) hI.wk
  have a3 := layJ_shp (allM (J.gen + 1) 0 bs) D (firstM D (1 - J.half))
  have b1 := layJ_ok [secH (J.gen + 1) (1 - J.half)] (slotM J) a1
  have b2 := layJ_wk [secH (J.gen + 1) (1 - J.half)] (slotM J) a2
  have b3 := a3.trans (layJ_shp [secH (J.gen + 1) (1 - J.half)] (layJ D (firstM D (1 - J.half)) (allM (J.gen + 1) 0 bs)).1 (slotM J))
  have c1 := (hI.shp2 a1 a2 a3).closed
  have c2 := (hI.shp2 b1 b2 b3)
  unfold resetM lay2
  split
  . exact hI
  . split
    . exact hI
    . rename_i _ hlong
      split
      . exact hI
      . rename_i hfull
        split
        . exact c1
        . split
          . exact c2.closed
          . have hlen : ∀ b ∈ bs, b.length <= 262144 := fun b hb => by
              apply Classical.byContradiction
              intro hn
              exact hlong ⟨b, hb, by omega⟩
            rw [fullM_iff] at hfull
            have hz : sizeM (layJ (layJ D (firstM D (1 - J.half)) (allM (J.gen + 1) 0 bs)).1 (slotM J) [secH (J.gen + 1) (1 - J.half)]).1 = sizeM D := by unfold sizeM; rw [b3.2]
            have hnb := needs_len hlen
            have hh := hI.half
            refine ⟨b1, b2, c2.n4, c2.lim, by simp only; omega, by rw [hz]; simp only; omega, hnb, by simp only; omega, ?_⟩
            simp only [slotM]
            split <;> simp
theorem JI.append {D : Dk} {J : Jn} (hI : JI D J) (b : B8) : JI (appendM D J b).1 (appendM D J b).2.1 := by
  have a1 := layJ_ok (cellsM J.gen J.n b) (firstM D J.half + J.used) hI.ok
  have a2 := layJ_wk (cellsM J.gen J.n b) (firstM D J.half + J.used) hI.wk
  have a3 := layJ_shp (cellsM J.gen J.n b) D (firstM D J.half + J.used)
  have c1 := hI.shp2 a1 a2 a3
  unfold appendM
  split
  . exact hI
  . split
    . exact hI
    . rename_i hb
      split
      . exact hI
      . rename_i hl
        split
        . exact c1.closed
        . have hnp := needM_pos (show b.length <= 262144 by omega)
          have hz : sizeM (layJ D (firstM D J.half + J.used) (cellsM J.gen J.n b)).1 = sizeM D := by unfold sizeM; rw [a3.2]
          have hn := hI.n
          unfold leftM at hl
          exact ⟨a1, a2, c1.n4, c1.lim, c1.half, by rw [hz]; simp only; omega, by simp only; omega, c1.gen, c1.slot⟩
theorem JI.opened {D : Dk} (hok : D.Ok) (hwk : D.Wk) (hl : 0 <= D.limit) {D' : Dk} {J : Jn} {bs : List B8} {e : Int} (h : openM D = (D', some J, bs, e)) : JI D' J /\ e = 0 := by
  unfold openM at h
  split at h
  . cases h
  . rename_i h4
    split at h
    . cases h
    . split at h
      . cases h
      . have hr := (headsM_ji hok hwk (by omega) hl).reset (openR D)
        injection h with h1 h2
        injection h2 with h2 h3
        injection h3 with h3 h4
        injection h2 with h2
        rw [h1, h2] at hr
        exact ⟨hr, h4.symm⟩
end Go.Proofs.YtmbpjgjajedonaaGreatDoor
