/- castellanlaw06: same, awake; JournalNil, JournalNeeds, JournalTwice. -/
import Derived.Test.YtmbpjgjajedonaaGreatDoorJoI
import Derived.Test.YtmbpjgjajedonaaGreatDoorJoH
import Derived.Test.YtmbpjgjajedonaaGreatDoorJoE
namespace Go.Proofs.YtmbpjgjajedonaaGreatDoor
set_option linter.all false
set_option maxRecDepth 4000
open Go.RowKit

theorem callAwake6 : Callable Tryz.prog 6 := ⟨_, Tryz.func6, by kernel_rfl, rfl⟩
theorem callSame6 : Callable Tryz.prog 14 := ⟨_, Tryz.func14, by kernel_rfl, rfl⟩
theorem callNeedR6 : Callable Tryz.prog 50 := ⟨_, Tryz.func50, by kernel_rfl, rfl⟩
theorem law06_same (a b : List B8) (ha : a.length <= 1000000000) (hb : b.length <= 1000000000) (va vb : Value) (h : Heap) (hva : HSl h va 1 (strsR a)) (hvb : HSl h vb 1 (strsR b)) :
    Spec Tryz.prog 14 [va, vb] h [] (fun u _ H' => u = .bool (decide (a = b)) /\ H' = []) := by
  refine Spec.enter Tryz.func14 rfl rfl ?_; intro w0
  repeat' (first | (refine G.atCode ?_; refine G.stopLoop ?_) | (refine G.atCode ?_; first | refine G.seq ?_ | refine G.region ?_ | refine G.block ?_ | refine G.skip ?_ | refine G.drawAuto mixedOk rfl Zw ?_ | refine G.drawAll slB Zw mixedOk Zw ?_ | refine G.anyIn mixedOk ?_ | refine G.exit rfl ?_ | refine G.ret ?_ | (refine G.cond rfl ?_ ?_ <;> intro hc <;> (try simp only [tests, reduceCtorEq] at hc) <;> (try exact Zf))) | refine G.endOps ?_ | refine G.endStill ?_ | refine G.endHeld ?_ | refine G.back ?_ | refine G.endBlk ?_ | (refine G.atAny ?_; first | refine G.anyAutoX slB rfl rfl Zw Zg Zd ?_ | refine G.anyOne rfl Zw Zg Zu ?_ | refine G.anyAuto slB rfl Zw Zg Zu ?_ | refine G.anyEndX Zw ?_ | refine G.anyEnd Zw Zg Zu ?_ | refine G.anyTwo rfl Zw Zg Zu ?_ ?_) | (refine G.atBin ?_; first | (refine G.atAdd ?_; first | refine G.arith rfl rfl rfl rfl rfl Zi ?_ | refine G.catStr rfl rfl rfl Zo ?_ | refine G.op rfl rfl ?_) | (refine G.atNeq ?_; first | refine G.op rfl rfl ?_ | refine G.neStr0 rfl rfl rfl ?_ | refine G.neStr rfl rfl rfl ?_ | refine G.nePtr rfl rfl (tyy rfl) rfl ?_ | refine G.neBool rfl rfl (tyy rfl) rfl ?_) | refine G.op rfl rfl ?_ ) | refine G.op rfl rfl ?_ | (refine G.atLen ?_; first | refine G.lenStr rfl (tyy rfl) rfl ?_ | refine G.lenSlice rfl (tyy rfl) rfl ?_ | refine G.lenRowB rfl (tyy rfl) Za rfl ?_ | refine G.lenRowS rfl (tyy rfl) Za rfl ?_ | refine G.lenRow rfl (tyy rfl) Za rfl ?_ | refine G.lenImmB rfl (tyy rfl) Zl rfl ?_ | refine G.lenImmI rfl (tyy rfl) Zl rfl ?_ | refine G.lenImmS rfl (tyy rfl) Zl rfl ?_ | refine G.lenImm rfl (tyy rfl) Zl rfl ?_) | (refine G.atLoad ?_; first | refine G.loadOwn1 rfl (tyy rfl) rfl rfl Za rfl rfl ?_ | refine G.loadOwnA rfl (tyy rfl) rfl rfl Za rfl rfl ?_ | refine G.loadImm1 rfl (tyy rfl) rfl rfl Zp rfl ?_ | refine G.loadImmA rfl (tyy rfl) rfl rfl Zp Zp rfl ?_ | refine G.loadRowS rfl (tyy rfl) Zp Za Zo rfl ?_ | (refine G.loadRowB rfl (tyy rfl) Zp Za Zo rfl ?_; intro _)) | (refine G.atIdx ?_; first | (refine G.idxImmI rfl rfl (tyy rfl) (tyy rfl) Zl Zp Zj rfl Zo ?_; intro _ _ _) | (refine G.idxImmS rfl rfl (tyy rfl) (tyy rfl) Zl Zj rfl Zo ?_; intro _ _) | (refine G.idxImmB rfl rfl (tyy rfl) (tyy rfl) Zl Zj rfl Zo ?_; intro _ _ _) | (refine G.idxRow' rfl rfl (tyy rfl) (tyy rfl) Za Zj rfl Zo ?_; intro _ _) | (refine G.idxImmN rfl rfl (tyy rfl) (tyy rfl) Zl Zj rfl Zo ?_; intro _ _ _ _ _))  )
  . exact G.done1 rfl rfl _ (SubH.nil _) ⟨by rw [decide_eq_false (fun e => by subst e; omega)], rfl⟩
  have hab : a.length = b.length := by omega
  refine G.go ?_
  refine G.loop (σ := Nat) (fun i => [(13, .int .i64 i), (12, .int .i64 a.length), (1, vb), (0, va)]) (fun _ => [])
    (fun i _ => i <= a.length /\ ∀ k, k < i -> strAt a k = strAt b k) (fun i => a.length - i) 0 ⟨rfl, rfl, rfl, rfl, trivial⟩ (SubH.nil _) ⟨Nat.zero_le _, fun k hk => by omega⟩ ?_
  rintro i h1 hle1 ⟨hi, hall⟩
  have hva1 : HSl h1 va 1 (strsR a) := hva.mono (by solve | repeat first | assumption | exact Zr _ | refine Zq ?_ Zp)
  have hvb1 : HSl h1 vb 1 (strsR b) := hvb.mono (by solve | repeat first | assumption | exact Zr _ | refine Zq ?_ Zp)
  by_cases hlt : i < a.length
  . repeat' (first | (refine G.atIdx ?_; refine G.idxImmS rfl rfl (tyy rfl) (tyy rfl) hva1 Zj rfl (by omega) ?_; intro _ _) | (refine G.atIdx ?_; refine G.idxImmS rfl rfl (tyy rfl) (tyy rfl) hvb1 Zj rfl (by omega) ?_; intro _ _) | (refine G.atCode ?_; first | refine G.seq ?_ | refine G.region ?_ | refine G.block ?_ | refine G.skip ?_ | refine G.drawAuto mixedOk rfl Zw ?_ | refine G.drawAll slB Zw mixedOk Zw ?_ | refine G.anyIn mixedOk ?_ | refine G.exit rfl ?_ | refine G.ret ?_ | (refine G.cond rfl ?_ ?_ <;> intro hc <;> (try simp only [tests, reduceCtorEq] at hc) <;> (try exact Zf))) | refine G.endOps ?_ | refine G.endStill ?_ | refine G.endHeld ?_ | refine G.back ?_ | refine G.endBlk ?_ | (refine G.atAny ?_; first | refine G.anyAutoX slB rfl rfl Zw Zg Zd ?_ | refine G.anyOne rfl Zw Zg Zu ?_ | refine G.anyAuto slB rfl Zw Zg Zu ?_ | refine G.anyEndX Zw ?_ | refine G.anyEnd Zw Zg Zu ?_ | refine G.anyTwo rfl Zw Zg Zu ?_ ?_) | (refine G.atBin ?_; first | (refine G.atAdd ?_; first | refine G.arith rfl rfl rfl rfl rfl Zi ?_ | refine G.catStr rfl rfl rfl Zo ?_ | refine G.op rfl rfl ?_) | (refine G.atNeq ?_; first | refine G.op rfl rfl ?_ | refine G.neStr0 rfl rfl rfl ?_ | refine G.neStr rfl rfl rfl ?_ | refine G.nePtr rfl rfl (tyy rfl) rfl ?_ | refine G.neBool rfl rfl (tyy rfl) rfl ?_) | refine G.op rfl rfl ?_ ) | refine G.op rfl rfl ?_ | (refine G.atLen ?_; first | refine G.lenStr rfl (tyy rfl) rfl ?_ | refine G.lenSlice rfl (tyy rfl) rfl ?_ | refine G.lenRowB rfl (tyy rfl) Za rfl ?_ | refine G.lenRowS rfl (tyy rfl) Za rfl ?_ | refine G.lenRow rfl (tyy rfl) Za rfl ?_ | refine G.lenImmB rfl (tyy rfl) Zl rfl ?_ | refine G.lenImmI rfl (tyy rfl) Zl rfl ?_ | refine G.lenImmS rfl (tyy rfl) Zl rfl ?_ | refine G.lenImm rfl (tyy rfl) Zl rfl ?_) | (refine G.atLoad ?_; first | refine G.loadOwn1 rfl (tyy rfl) rfl rfl Za rfl rfl ?_ | refine G.loadOwnA rfl (tyy rfl) rfl rfl Za rfl rfl ?_ | refine G.loadImm1 rfl (tyy rfl) rfl rfl Zp rfl ?_ | refine G.loadImmA rfl (tyy rfl) rfl rfl Zp Zp rfl ?_ | refine G.loadRowS rfl (tyy rfl) Zp Za Zo rfl ?_ | (refine G.loadRowB rfl (tyy rfl) Zp Za Zo rfl ?_; intro _)) | (refine G.atIdx ?_; first | (refine G.idxImmI rfl rfl (tyy rfl) (tyy rfl) Zl Zp Zj rfl Zo ?_; intro _ _ _) | (refine G.idxImmS rfl rfl (tyy rfl) (tyy rfl) Zl Zj rfl Zo ?_; intro _ _) | (refine G.idxImmB rfl rfl (tyy rfl) (tyy rfl) Zl Zj rfl Zo ?_; intro _ _ _) | (refine G.idxRow' rfl rfl (tyy rfl) (tyy rfl) Za Zj rfl Zo ?_; intro _ _) | (refine G.idxImmN rfl rfl (tyy rfl) (tyy rfl) Zl Zj rfl Zo ?_; intro _ _ _ _ _))  )
    . exact G.done1 rfl rfl _ (SubH.nil _) ⟨by rw [decide_eq_false (fun e => by subst e; contradiction)], rfl⟩
    . exact G.again (i + 1) ⟨sint (by simp), rfl, rfl, rfl, trivial⟩ (SubH.nil _) ⟨by omega, fun k hk => by rcases (show k < i \/ k = i by omega) with hh | rfl; exact hall k hh; assumption⟩ (by solve | repeat first | assumption | exact Zr _ | refine Zq ?_ Zp) (by omega)
  . have hab2 : a = b := strAt_ext hab (fun k hk => hall k (by omega))
    repeat' (first | (refine G.atCode ?_; first | refine G.seq ?_ | refine G.region ?_ | refine G.block ?_ | refine G.skip ?_ | refine G.drawAuto mixedOk rfl Zw ?_ | refine G.drawAll slB Zw mixedOk Zw ?_ | refine G.anyIn mixedOk ?_ | refine G.exit rfl ?_ | refine G.ret ?_ | (refine G.cond rfl ?_ ?_ <;> intro hc <;> (try simp only [tests, reduceCtorEq] at hc) <;> (try exact Zf))) | refine G.endOps ?_ | refine G.endStill ?_ | refine G.endHeld ?_ | refine G.back ?_ | refine G.endBlk ?_ | (refine G.atAny ?_; first | refine G.anyAutoX slB rfl rfl Zw Zg Zd ?_ | refine G.anyOne rfl Zw Zg Zu ?_ | refine G.anyAuto slB rfl Zw Zg Zu ?_ | refine G.anyEndX Zw ?_ | refine G.anyEnd Zw Zg Zu ?_ | refine G.anyTwo rfl Zw Zg Zu ?_ ?_) | (refine G.atBin ?_; first | (refine G.atAdd ?_; first | refine G.arith rfl rfl rfl rfl rfl Zi ?_ | refine G.catStr rfl rfl rfl Zo ?_ | refine G.op rfl rfl ?_) | (refine G.atNeq ?_; first | refine G.op rfl rfl ?_ | refine G.neStr0 rfl rfl rfl ?_ | refine G.neStr rfl rfl rfl ?_ | refine G.nePtr rfl rfl (tyy rfl) rfl ?_ | refine G.neBool rfl rfl (tyy rfl) rfl ?_) | refine G.op rfl rfl ?_ ) | refine G.op rfl rfl ?_ | (refine G.atLen ?_; first | refine G.lenStr rfl (tyy rfl) rfl ?_ | refine G.lenSlice rfl (tyy rfl) rfl ?_ | refine G.lenRowB rfl (tyy rfl) Za rfl ?_ | refine G.lenRowS rfl (tyy rfl) Za rfl ?_ | refine G.lenRow rfl (tyy rfl) Za rfl ?_ | refine G.lenImmB rfl (tyy rfl) Zl rfl ?_ | refine G.lenImmI rfl (tyy rfl) Zl rfl ?_ | refine G.lenImmS rfl (tyy rfl) Zl rfl ?_ | refine G.lenImm rfl (tyy rfl) Zl rfl ?_) | (refine G.atLoad ?_; first | refine G.loadOwn1 rfl (tyy rfl) rfl rfl Za rfl rfl ?_ | refine G.loadOwnA rfl (tyy rfl) rfl rfl Za rfl rfl ?_ | refine G.loadImm1 rfl (tyy rfl) rfl rfl Zp rfl ?_ | refine G.loadImmA rfl (tyy rfl) rfl rfl Zp Zp rfl ?_ | refine G.loadRowS rfl (tyy rfl) Zp Za Zo rfl ?_ | (refine G.loadRowB rfl (tyy rfl) Zp Za Zo rfl ?_; intro _)) | (refine G.atIdx ?_; first | (refine G.idxImmI rfl rfl (tyy rfl) (tyy rfl) Zl Zp Zj rfl Zo ?_; intro _ _ _) | (refine G.idxImmS rfl rfl (tyy rfl) (tyy rfl) Zl Zj rfl Zo ?_; intro _ _) | (refine G.idxImmB rfl rfl (tyy rfl) (tyy rfl) Zl Zj rfl Zo ?_; intro _ _ _) | (refine G.idxRow' rfl rfl (tyy rfl) (tyy rfl) Za Zj rfl Zo ?_; intro _ _) | (refine G.idxImmN rfl rfl (tyy rfl) (tyy rfl) Zl Zj rfl Zo ?_; intro _ _ _ _ _))  )
    exact G.done1 rfl rfl _ (SubH.nil _) ⟨by rw [decide_eq_true hab2], rfl⟩
theorem resetM_inv {D : Dk} (J : Jn) (bs : List B8) (hok : D.Ok) (hwk : D.Wk) : (resetM D J bs).1.Ok /\ (resetM D J bs).1.Wk /\ Shp D (resetM D J bs).1 := by
  have a1 := layJ_ok (allM (J.gen + 1) 0 bs) (firstM D (1 - J.half)) hok
  have a2 := layJ_wk (allM (J.gen + 1) 0 bs) (firstM D (1 - J.half)) hwk
  have a3 := layJ_shp (allM (J.gen + 1) 0 bs) D (firstM D (1 - J.half))
  have b1 := layJ_ok [secH (J.gen + 1) (1 - J.half)] (slotM J) a1
  have b2 := layJ_wk [secH (J.gen + 1) (1 - J.half)] (slotM J) a2
  have b3 := layJ_shp [secH (J.gen + 1) (1 - J.half)] (layJ D (firstM D (1 - J.half)) (allM (J.gen + 1) 0 bs)).1 (slotM J)
  unfold resetM lay2
  split
  . exact ⟨hok, hwk, Shp.refl _⟩
  . split
    . exact ⟨hok, hwk, Shp.refl _⟩
    . split
      . exact ⟨hok, hwk, Shp.refl _⟩
      . split
        . exact ⟨a1, a2, a3⟩
        . split
          . exact ⟨b1, b2, a3.trans b3⟩
          . exact ⟨b1, b2, a3.trans b3⟩
theorem openM_inv {D : Dk} (hok : D.Ok) (hwk : D.Wk) : (openM D).1.Ok /\ (openM D).1.Wk /\ Shp D (openM D).1 := by
  have h := resetM_inv (openJ D) (openR D) hok hwk
  unfold openM
  split
  . exact ⟨hok, hwk, Shp.refl _⟩
  . split
    . exact ⟨hok, hwk, Shp.refl _⟩
    . split
      . exact h
      . exact h
theorem appendM_inv {D : Dk} (J : Jn) (b : B8) (hok : D.Ok) (hwk : D.Wk) : (appendM D J b).1.Ok /\ (appendM D J b).1.Wk /\ Shp D (appendM D J b).1 := by
  have a1 := layJ_ok (cellsM J.gen J.n b) (firstM D J.half + J.used) hok
  have a2 := layJ_wk (cellsM J.gen J.n b) (firstM D J.half + J.used) hwk
  have a3 := layJ_shp (cellsM J.gen J.n b) D (firstM D J.half + J.used)
  unfold appendM
  split
  . exact ⟨hok, hwk, Shp.refl _⟩
  . split
    . exact ⟨hok, hwk, Shp.refl _⟩
    . split
      . exact ⟨hok, hwk, Shp.refl _⟩
      . split
        . exact ⟨a1, a2, a3⟩
        . exact ⟨a1, a2, a3⟩
set_option maxRecDepth 8000 in
set_option maxHeartbeats 4000000 in
theorem law06_awake (h : Heap) : Spec Tryz.prog 6 [] h [] (fun u _ H' => u = .bool true /\ H' = []) := by
  obtain ⟨D1, J1, D2, J2, D3, J3, aw⟩ := awk ⟨0, -1, 0⟩
  have ok0 := new_ok 6
  have wk0 : (newM 6).Wk := wk_nil rfl
  have i1 := openM_inv ok0 wk0
  rw [aw.o1] at i1
  have i2 := appendM_inv J1 [97] i1.1 i1.2.1
  rw [aw.ap] at i2
  have hz6 : ∀ {D : Dk}, D.lasts.length = 6 -> sizeM D = 2 := fun h => by unfold sizeM; rw [h]
  obtain ⟨a1, a2, a3, a4, a5, a6, a7⟩ := aw.i1
  obtain ⟨b1, b2, b3, b4, b6, b7⟩ := aw.i2
  have hJI : JI D1 J1 := ⟨i1.1, i1.2.1, by omega, by omega, a3, by omega, by omega, by omega, by omega⟩
  have i3 := crash_ok i2.1 ⟨0, -1, 0⟩
  have i4 := crash_wk i2.2.1 ⟨0, -1, 0⟩
  have i5 := crash_shp D2 ⟨0, -1, 0⟩
  have sN := disk_New 6
  have sO1 := fun d m v h => jo_Open d m v (newM 6) ok0 wk0 (by decide) h
  have sA := fun g d m v h => jo_Append g d m v J1 D1 hJI [97] (by decide) h
  have sG := fun g d h => jo_Gen g d J2 h
  have sL := fun g d m v h => jo_Left g d m v J2 D2 (by omega) (by omega) (by omega) b3 (by omega) h
  have sC := fun d m v h => disk_Crash d m v D2 i2.1 ⟨0, -1, 0⟩ ⟨by decide, by simp [inR]⟩ h
  have sO3 := fun d m v h => jo_Open d m v (crashM D2 ⟨0, -1, 0⟩) i3 i4 (by rw [i5.1]; omega) h
  have sNe := jo_Need 111 (by decide)
  rw [show needI 111 = 2 by decide] at sNe
  simp only [aw.o1, aw.ap, aw.o3, b7, b6] at sO1 sA sO3 sL sG
  generalize newM 6 = D0 at *
  generalize crashM D2 ⟨0, -1, 0⟩ = DC at *
  unfold OpR at sO1 sO3
  dsimp only at sO1 sO3
  unfold jdC jnC dkC at *
  refine Spec.enter Tryz.func6 rfl rfl ?_; intro w0
  repeat' (first | (show G _ (.ops .seq _ (⟨some _, .call { callee := .value (.func 7), args := _, argTypes := _ }, _, _, _, none⟩ :: _) :: _) _ _ _; refine G.call callNewD rfl rfl (sN _) Ze ?_; rintro _ h2 H2 ⟨d, m, v, rfl, rfl⟩ hle2) | (show G _ (.ops .seq _ (⟨some _, .call { callee := .value (.func 11), args := _, argTypes := _ }, _, _, _, none⟩ :: _) :: _) _ _ _; refine G.call callOpen6 rfl rfl (sO1 d m v _) Ze ?_; rintro _ h3 H3 ⟨g, A1, c1, rfl, hs1, rfl⟩ hle3) | (show G _ (.ops .seq _ (⟨some _, .call { callee := .value (.func 16), args := _, argTypes := _ }, _, _, _, none⟩ :: _) :: _) _ _ _; refine G.call callAppend6 rfl rfl (sA g d m v _) Ze ?_; rintro _ h4 H4 ⟨rfl, rfl⟩ hle4) | (show G _ (.ops .seq _ (⟨some _, .call { callee := .value (.func 32), args := _, argTypes := _ }, _, _, _, none⟩ :: _) :: _) _ _ _; refine G.call callGen6 rfl rfl (sG g d _) Ze ?_; rintro _ h5 H5 ⟨rfl, rfl⟩ hle5) | (show G _ (.ops .seq _ (⟨some _, .call { callee := .value (.func 33), args := _, argTypes := _ }, _, _, _, none⟩ :: _) :: _) _ _ _; refine G.call callLeft6 rfl rfl (sL g d m v _) Ze ?_; rintro _ h6 H6 ⟨rfl, rfl⟩ hle6) | (show G _ (.ops .seq _ (⟨some _, .call { callee := .value (.func 23), args := _, argTypes := _ }, _, _, _, none⟩ :: _) :: _) _ _ _; refine G.call callCrash rfl rfl (sC d m v _) Ze ?_; rintro _ h7 H7 rfl hle7) | (show G _ (.ops .seq _ (⟨some _, .call { callee := .value (.func 11), args := _, argTypes := _ }, _, _, _, none⟩ :: _) :: _) _ _ _; refine G.call callOpen6 rfl rfl (sO3 d m v _) Ze ?_; rintro _ h8 H8 ⟨g8, A8, c8, rfl, hs8, rfl⟩ hle8) | (show G _ (.ops .seq _ (⟨some _, .call { callee := .value (.func 34), args := _, argTypes := _ }, _, _, _, none⟩ :: _) :: _) _ _ _; refine G.call callNeed6 rfl rfl (sNe _) Ze ?_; rintro _ h9 H9 ⟨rfl, rfl⟩ hle9) | (refine G.atIdx ?_; refine G.idxImmS rfl rfl (tyy rfl) (tyy rfl) hs8 Zj rfl (by decide) ?_; intro _ _) | (refine G.atCode ?_; first | refine G.seq ?_ | refine G.region ?_ | refine G.block ?_ | refine G.skip ?_ | refine G.exit rfl ?_ | refine G.ret ?_ | (refine G.cond rfl ?_ ?_ <;> intro hc <;> (try simp only [tests, reduceCtorEq] at hc) <;> (try exact Zf))) | refine G.endOps ?_ | refine G.endStill ?_ | refine G.endHeld ?_ | refine G.back ?_ | refine G.endBlk ?_ | (refine G.atGd ?_; first | refine G.guardYes rfl rfl ?_ | refine G.guardNoS rfl rfl rfl ?_ | refine G.guardU rfl rfl rfl ?_ | (refine G.guardS rfl rfl rfl ?_ ?_ <;> intro hc <;> (try simp only [tests, reduceCtorEq] at hc) <;> (try exact Zf)) | refine G.guardNo rfl rfl ?_ (by rintro i ⟨⟩; rfl) | (refine G.guard rfl rfl ?_ ?_ (by rintro i ⟨⟩; rfl) <;> intro hc <;> (try simp only [tests, reduceCtorEq] at hc) <;> (try exact Zf))) | (refine G.atBin ?_; first | (refine G.atEql ?_; first | refine G.op rfl rfl ?_ | refine G.eqStr0 rfl rfl rfl ?_ | refine G.eqStr rfl rfl rfl ?_ | refine G.eqPtr rfl rfl (tyy rfl) rfl ?_ | refine G.eqBool rfl rfl (tyy rfl) rfl ?_) | (refine G.atNeq ?_; first | refine G.op rfl rfl ?_ | refine G.neStr0 rfl rfl rfl ?_ | refine G.neStr rfl rfl rfl ?_ | refine G.nePtr rfl rfl (tyy rfl) rfl ?_ | refine G.neBool rfl rfl (tyy rfl) rfl ?_) | refine G.op rfl rfl ?_ ) | refine G.op rfl rfl ?_ | (refine G.atLen ?_; first | refine G.lenStr rfl (tyy rfl) rfl ?_ | refine G.lenSlice rfl (tyy rfl) rfl ?_ | refine G.lenRowB rfl (tyy rfl) Za rfl ?_ | refine G.lenRowS rfl (tyy rfl) Za rfl ?_ | refine G.lenRow rfl (tyy rfl) Za rfl ?_ | refine G.lenImmB rfl (tyy rfl) Zl rfl ?_ | refine G.lenImmI rfl (tyy rfl) Zl rfl ?_ | refine G.lenImmS rfl (tyy rfl) Zl rfl ?_ | refine G.lenImm rfl (tyy rfl) Zl rfl ?_) | (refine G.atLoad ?_; first | refine G.loadOwn1 rfl (tyy rfl) rfl rfl Za rfl rfl ?_ | refine G.loadOwnA rfl (tyy rfl) rfl rfl Za rfl rfl ?_ | refine G.loadImm1 rfl (tyy rfl) rfl rfl Zp rfl ?_ | refine G.loadImmA rfl (tyy rfl) rfl rfl Zp Zp rfl ?_ | refine G.loadRowS rfl (tyy rfl) Zp Za Zo rfl ?_ | (refine G.loadRowB rfl (tyy rfl) Zp Za Zo rfl ?_; intro _)) | (refine G.atBld ?_; refine G.build (tyy rfl) rfl rfl rfl ?_) | (refine G.atIdx ?_; first | (refine G.idxImmI rfl rfl (tyy rfl) (tyy rfl) Zl Zp Zj rfl Zo ?_; intro _ _ _) | (refine G.idxImmS rfl rfl (tyy rfl) (tyy rfl) Zl Zj rfl Zo ?_; intro _ _) | (refine G.idxImmB rfl rfl (tyy rfl) (tyy rfl) Zl Zj rfl Zo ?_; intro _ _ _) | (refine G.idxRow' rfl rfl (tyy rfl) (tyy rfl) Za Zj rfl Zo ?_; intro _ _) | (refine G.idxImmN rfl rfl (tyy rfl) (tyy rfl) Zl Zj rfl Zo ?_; intro _ _ _ _ _))  )
  all_goals first | (exfalso; simp at *; done) | exact G.done1 rfl rfl _ (SubH.nil _) ⟨rfl, rfl⟩
theorem ref06_Need (n : Int) (hn : n <= 9223372036854775807) (h : Heap) : Spec Tryz.prog 50 [.int .i64 n] h [] (fun u _ H' => u = .int .i64 (needI n) /\ H' = []) := by
  refine Spec.enter Tryz.func50 rfl rfl ?_; intro w0
  repeat' (first | (refine G.minI rfl rfl rfl ?_) | (refine G.maxI rfl rfl rfl ?_) | (refine G.atCode ?_; first | refine G.seq ?_ | refine G.region ?_ | refine G.block ?_ | refine G.skip ?_ | refine G.exit rfl ?_ | refine G.ret ?_ | (refine G.cond rfl ?_ ?_ <;> intro hc <;> (try simp only [tests, reduceCtorEq] at hc) <;> (try exact Zf))) | refine G.endOps ?_ | refine G.endStill ?_ | refine G.endHeld ?_ | refine G.back ?_ | refine G.endBlk ?_ | (refine G.atGd ?_; first | refine G.guardYes rfl rfl ?_ | refine G.guardNoS rfl rfl rfl ?_ | refine G.guardU rfl rfl rfl ?_ | (refine G.guardS rfl rfl rfl ?_ ?_ <;> intro hc <;> (try simp only [tests, reduceCtorEq] at hc) <;> (try exact Zf)) | refine G.guardNo rfl rfl ?_ (by rintro i ⟨⟩; rfl) | (refine G.guard rfl rfl ?_ ?_ (by rintro i ⟨⟩; rfl) <;> intro hc <;> (try simp only [tests, reduceCtorEq] at hc) <;> (try exact Zf))) | (refine G.atBin ?_; first | (refine G.atAdd ?_; first | refine G.arith rfl rfl rfl rfl rfl Zi ?_ | refine G.catStr rfl rfl rfl Zo ?_ | refine G.op rfl rfl ?_) | (refine G.atEql ?_; first | refine G.op rfl rfl ?_ | refine G.eqStr0 rfl rfl rfl ?_ | refine G.eqStr rfl rfl rfl ?_ | refine G.eqPtr rfl rfl (tyy rfl) rfl ?_ | refine G.eqBool rfl rfl (tyy rfl) rfl ?_) | (refine G.atRem ?_; first | (refine G.rem rfl rfl rfl rfl Zo ?_; intro _ _ _) | refine G.remT rfl rfl rfl rfl Zo ?_) | (refine G.atQuo ?_; refine G.quo rfl rfl rfl rfl Zo Zi ?_) | refine G.op rfl rfl ?_ ) | refine G.op rfl rfl ?_              )
  all_goals (refine G.done1 rfl rfl _ (SubH.nil _) ⟨?_, rfl⟩; unfold needI; first | rw [if_pos (by omega)] | (rw [if_neg (by omega)]; congr 1; omega))
inductive Tw (D : Dk) : Prop where
  | bad (e : Int) (he : e ≠ 0) (D' : Dk) (h : openM D = (D', none, [], e)) : Tw D
  | good (D1 : Dk) (J1 : Jn) (bs : List B8) (h1 : openM D = (D1, some J1, bs, 0)) (hn : J1.n = bs.length) (hb : bs.length <= 8192) (hg : J1.gen < 4294967296)
      (h2 : (∃ D2 J2, openM D1 = (D2, some J2, bs, 0) /\ J2.gen = J1.gen + 1) \/ (J1.gen = 4294967295 /\ openM D1 = (D1, none, [], 11))) : Tw D
end Go.Proofs.YtmbpjgjajedonaaGreatDoor
