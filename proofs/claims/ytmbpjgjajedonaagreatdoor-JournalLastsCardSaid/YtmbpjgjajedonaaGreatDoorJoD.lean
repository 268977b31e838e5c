/- Package journal: Need, size, first, Left, Len, Gen, cells, lay. -/
import Derived.Test.YtmbpjgjajedonaaGreatDoorJoR
import Derived.Test.YtmbpjgjajedonaaGreatDoorJoI
namespace Go.Proofs.YtmbpjgjajedonaaGreatDoor
set_option linter.all false
set_option maxRecDepth 4000
open Go.RowKit

theorem callNeed6 : Callable Tryz.prog 34 := ⟨_, Tryz.func34, by kernel_rfl, rfl⟩
theorem callSize6 : Callable Tryz.prog 39 := ⟨_, Tryz.func39, by kernel_rfl, rfl⟩
theorem callFirst6 : Callable Tryz.prog 41 := ⟨_, Tryz.func41, by kernel_rfl, rfl⟩
theorem callLeft6 : Callable Tryz.prog 33 := ⟨_, Tryz.func33, by kernel_rfl, rfl⟩
theorem callGen6 : Callable Tryz.prog 32 := ⟨_, Tryz.func32, by kernel_rfl, rfl⟩
theorem callCells6 : Callable Tryz.prog 48 := ⟨_, Tryz.func48, by kernel_rfl, rfl⟩
theorem callLay6 : Callable Tryz.prog 49 := ⟨_, Tryz.func49, by kernel_rfl, rfl⟩
def needI (n : Int) : Int := if n < 0 \/ 262144 < n then 0 else max 1 ((n + 110 - 1) / 110)
theorem jo_Need (n : Int) (hn : n <= 9223372036854775807) (h : Heap) : Spec Tryz.prog 34 [.int .i64 n] h [] (fun u _ H' => u = .int .i64 (needI n) /\ H' = []) := by
  refine Spec.enter Tryz.func34 rfl rfl ?_; intro w0
  repeat' (first | (refine G.minI rfl rfl rfl ?_) | (refine G.maxI rfl rfl rfl ?_) | (refine G.atCode ?_; first | refine G.seq ?_ | refine G.region ?_ | refine G.block ?_ | refine G.skip ?_ | refine G.exit rfl ?_ | refine G.ret ?_ | (refine G.cond rfl ?_ ?_ <;> intro hc <;> (try simp only [tests, reduceCtorEq] at hc) <;> (try exact Zf))) | refine G.endOps ?_ | refine G.endStill ?_ | refine G.endHeld ?_ | refine G.back ?_ | refine G.endBlk ?_ | (refine G.atGd ?_; first | refine G.guardYes rfl rfl ?_ | refine G.guardNoS rfl rfl rfl ?_ | refine G.guardU rfl rfl rfl ?_ | (refine G.guardS rfl rfl rfl ?_ ?_ <;> intro hc <;> (try simp only [tests, reduceCtorEq] at hc) <;> (try exact Zf)) | refine G.guardNo rfl rfl ?_ (by rintro i ⟨⟩; rfl) | (refine G.guard rfl rfl ?_ ?_ (by rintro i ⟨⟩; rfl) <;> intro hc <;> (try simp only [tests, reduceCtorEq] at hc) <;> (try exact Zf))) | (refine G.atBin ?_; first | (refine G.atAdd ?_; first | refine G.arith rfl rfl rfl rfl rfl Zi ?_ | refine G.catStr rfl rfl rfl Zo ?_ | refine G.op rfl rfl ?_) | (refine G.atSub ?_; first | refine G.arith rfl rfl rfl rfl rfl Zi ?_ | refine G.op rfl rfl ?_) | (refine G.atQuo ?_; refine G.quo rfl rfl rfl rfl Zo Zi ?_) | refine G.op rfl rfl ?_ ) | refine G.op rfl rfl ?_              )
  all_goals (refine G.done1 rfl rfl _ (SubH.nil _) ⟨?_, rfl⟩; unfold needI; first | rw [if_pos (by omega)] | rw [if_neg (by omega)])
theorem needI_nat (n : Nat) : needI n = (needM n : Nat) := by
  unfold needI needM
  split
  . rw [if_pos (by omega)]; rfl
  . rw [if_neg (by omega)]; omega
theorem jo_NeedN (s : B8) (hs : s.length <= 9223372036854775807) (h : Heap) : Spec Tryz.prog 34 [.int .i64 s.length] h [] (fun u _ H' => u = .int .i64 (needM s.length : Nat) /\ H' = []) := by
  have := jo_Need s.length (by omega) h
  rw [needI_nat] at this
  exact this
def jnC (g d : Nat) (J : Jn) : Chunk := .blk g [.pointer (some ⟨d, 0, none⟩), .int .i64 J.gen, .int .i64 J.half, .int .i64 J.slot, .int .i64 J.used, .int .i64 J.n, .bool J.closed, .bool false] 73
def jdC (g d m : Nat) (v : Value) (J : Jn) (D : Dk) : List Chunk := jnC g d J :: dkC d m v D
theorem jo_size (g d m : Nat) (v : Value) (J : Jn) (D : Dk) (h4 : 4 <= D.lasts.length) (h8 : D.lasts.length <= 8192) (h : Heap) : Spec Tryz.prog 39 [.pointer (some ⟨g, 0, none⟩)] h (jdC g d m v J D) (fun u _ H' => u = .int .i64 (sizeM D : Nat) /\ H' = jdC g d m v J D) := by
  have sp := disk_Sectors d m v D
  unfold jdC jnC dkC at *
  refine Spec.enter Tryz.func39 rfl rfl ?_; intro w0
  repeat' (first | (show G _ (.ops .seq _ (⟨some _, .call { callee := .value (.func 36), args := _, argTypes := _ }, _, _, _, none⟩ :: _) :: _) _ _ _; refine G.call callSectors rfl rfl (sp _) Ze ?_; rintro _ h2 H2 ⟨rfl, rfl⟩ hle2) | (refine G.atCode ?_; first | refine G.seq ?_ | refine G.region ?_ | refine G.block ?_ | refine G.skip ?_ | refine G.exit rfl ?_ | refine G.ret ?_ | (refine G.cond rfl ?_ ?_ <;> intro hc <;> (try simp only [tests, reduceCtorEq] at hc) <;> (try exact Zf))) | refine G.endOps ?_ | refine G.endStill ?_ | refine G.endHeld ?_ | refine G.back ?_ | refine G.endBlk ?_ | (refine G.atBin ?_; first | (refine G.atSub ?_; first | refine G.arith rfl rfl rfl rfl rfl Zi ?_ | refine G.op rfl rfl ?_) | (refine G.atQuo ?_; refine G.quo rfl rfl rfl rfl Zo Zi ?_) | refine G.op rfl rfl ?_ ) | refine G.op rfl rfl ?_ | (refine G.atLoad ?_; first | refine G.loadOwn1 rfl (tyy rfl) rfl rfl Za rfl rfl ?_ | refine G.loadOwnA rfl (tyy rfl) rfl rfl Za rfl rfl ?_ | refine G.loadImm1 rfl (tyy rfl) rfl rfl Zp rfl ?_ | refine G.loadImmA rfl (tyy rfl) rfl rfl Zp Zp rfl ?_ | refine G.loadRowS rfl (tyy rfl) Zp Za Zo rfl ?_ | (refine G.loadRowB rfl (tyy rfl) Zp Za Zo rfl ?_; intro _)) | (refine G.atFld ?_; first | refine G.fieldAddr rfl (tyy rfl) rfl rfl ?_ | refine G.fieldAddrP rfl (tyy rfl) rfl rfl ?_)           )
  exact G.done1 rfl rfl _ Zu ⟨by unfold sizeM; congr 1; omega, rfl⟩
theorem jo_first (g d m : Nat) (v : Value) (J : Jn) (D : Dk) (h4 : 4 <= D.lasts.length) (h8 : D.lasts.length <= 8192) (f : Nat) (hf : f <= 1) (h : Heap) : Spec Tryz.prog 41 [.pointer (some ⟨g, 0, none⟩), .int .i64 f] h (jdC g d m v J D) (fun u _ H' => u = .int .i64 (firstM D f : Nat) /\ H' = jdC g d m v J D) := by
  have sp := jo_size g d m v J D h4 h8
  have hz : sizeM D <= 8192 := by unfold sizeM; omega
  unfold firstM
  unfold jdC jnC dkC at *
  rcases (show f = 0 \/ f = 1 by omega) with rfl | rfl
  . refine Spec.enter Tryz.func41 rfl rfl ?_; intro w0
    repeat' (first | (show G _ (.ops .seq _ (⟨some _, .call { callee := .value (.func 39), args := _, argTypes := _ }, _, _, _, none⟩ :: _) :: _) _ _ _; refine G.call callSize6 rfl rfl (sp _) Ze ?_; rintro _ h2 H2 ⟨rfl, rfl⟩ hle2) | (refine G.atCode ?_; first | refine G.seq ?_ | refine G.region ?_ | refine G.block ?_ | refine G.skip ?_ | refine G.exit rfl ?_ | refine G.ret ?_ | (refine G.cond rfl ?_ ?_ <;> intro hc <;> (try simp only [tests, reduceCtorEq] at hc) <;> (try exact Zf))) | refine G.endOps ?_ | refine G.endStill ?_ | refine G.endHeld ?_ | refine G.back ?_ | refine G.endBlk ?_ | (refine G.atBin ?_; first | (refine G.atAdd ?_; first | refine G.arith rfl rfl rfl rfl rfl Zi ?_ | refine G.catStr rfl rfl rfl Zo ?_ | refine G.op rfl rfl ?_) | (refine G.atMul ?_; first | refine G.arith rfl rfl rfl rfl rfl Zi ?_ | refine G.op rfl rfl ?_) | refine G.op rfl rfl ?_ ) | refine G.op rfl rfl ?_              )
    exact G.done1 rfl rfl _ Zu ⟨by first | rfl | (congr 1; omega), rfl⟩
  . refine Spec.enter Tryz.func41 rfl rfl ?_; intro w0
    repeat' (first | (show G _ (.ops .seq _ (⟨some _, .call { callee := .value (.func 39), args := _, argTypes := _ }, _, _, _, none⟩ :: _) :: _) _ _ _; refine G.call callSize6 rfl rfl (sp _) Ze ?_; rintro _ h2 H2 ⟨rfl, rfl⟩ hle2) | (refine G.atCode ?_; first | refine G.seq ?_ | refine G.region ?_ | refine G.block ?_ | refine G.skip ?_ | refine G.exit rfl ?_ | refine G.ret ?_ | (refine G.cond rfl ?_ ?_ <;> intro hc <;> (try simp only [tests, reduceCtorEq] at hc) <;> (try exact Zf))) | refine G.endOps ?_ | refine G.endStill ?_ | refine G.endHeld ?_ | refine G.back ?_ | refine G.endBlk ?_ | (refine G.atBin ?_; first | (refine G.atAdd ?_; first | refine G.arith rfl rfl rfl rfl rfl Zi ?_ | refine G.catStr rfl rfl rfl Zo ?_ | refine G.op rfl rfl ?_) | (refine G.atMul ?_; first | refine G.arith rfl rfl rfl rfl rfl Zi ?_ | refine G.op rfl rfl ?_) | refine G.op rfl rfl ?_ ) | refine G.op rfl rfl ?_              )
    exact G.done1 rfl rfl _ Zu ⟨by first | rfl | (congr 1; omega), rfl⟩
theorem jo_Left (g d m : Nat) (v : Value) (J : Jn) (D : Dk) (h4 : 4 <= D.lasts.length) (h8 : D.lasts.length <= 8192) (hl : 0 <= D.limit) (hf : J.half <= 1) (hu : J.used <= 8192) (h : Heap) : Spec Tryz.prog 33 [.pointer (some ⟨g, 0, none⟩)] h (jdC g d m v J D) (fun u _ H' => u = .int .i64 (leftM D J) /\ H' = jdC g d m v J D) := by
  have s1 := jo_size g d m v J D h4 h8
  have s2 := jo_first g d m v J D h4 h8 J.half hf
  have s3 := disk_Room d m v D
  have hz : sizeM D <= 8192 := by unfold sizeM; omega
  have hr : 0 <= roomM D /\ roomM D <= 8192 := by unfold roomM; omega
  have hfm : firstM D J.half <= 8194 := by unfold firstM; rcases half_mul hf (sizeM D) with hh | hh <;> omega
  unfold leftM
  generalize sizeM D = z at *
  generalize roomM D = r at *
  generalize firstM D J.half = fm at *
  unfold jdC jnC dkC at *
  refine Spec.enter Tryz.func33 rfl rfl ?_; intro w0
  repeat' (first | (refine G.atAny ?_; refine G.anyHold 22 slB rfl (H1 := [.blk g [.pointer (some ⟨d, 0, none⟩), .int .i64 J.gen, .int .i64 J.half, .int .i64 J.slot, .int .i64 J.used, .int .i64 J.n, .bool J.closed, .bool false] 73]) rfl Zw Zg Zu ?_) | (refine G.atAny ?_; first | refine G.anyAutoX slB rfl rfl Zw (by solve | exact Heap.none_le _ | assumption | exact Zr _ | (repeat first | assumption | exact Zr _ | refine Zq ?_ Zp)) Zd ?_ | refine G.anyKeep slB rfl Zw (by solve | exact Heap.none_le _ | assumption | exact Zr _ | (repeat first | assumption | exact Zr _ | refine Zq ?_ Zp)) Zu ?_ | refine G.anyOne rfl Zw (by solve | exact Heap.none_le _ | assumption | exact Zr _ | (repeat first | assumption | exact Zr _ | refine Zq ?_ Zp)) Zu ?_ | refine G.anyTwo rfl Zw (by solve | exact Heap.none_le _ | assumption | exact Zr _ | (repeat first | assumption | exact Zr _ | refine Zq ?_ Zp)) Zu ?_ ?_ | refine G.anyEndX Zw ?_ | refine G.anyEnd Zw (by solve | exact Heap.none_le _ | assumption | exact Zr _ | (repeat first | assumption | exact Zr _ | refine Zq ?_ Zp)) Zu ?_) | (refine G.minI rfl rfl rfl ?_) | (refine G.maxI rfl rfl rfl ?_) | (show G _ (.ops .seq _ (⟨some _, .call { callee := .value (.func 39), args := _, argTypes := _ }, _, _, _, none⟩ :: _) :: _) _ _ _; refine G.call callSize6 rfl rfl (s1 _) Ze ?_; rintro _ h2 H2 ⟨rfl, rfl⟩ hle2) | (show G _ (.ops .seq _ (⟨some _, .call { callee := .value (.func 41), args := _, argTypes := _ }, _, _, _, none⟩ :: _) :: _) _ _ _; refine G.call callFirst6 rfl rfl (s2 _) Ze ?_; rintro _ h2 H2 ⟨rfl, rfl⟩ hle2) | (show G _ (.ops .seq _ (⟨some _, .call { callee := .value (.func 54), args := _, argTypes := _ }, _, _, _, none⟩ :: _) :: _) _ _ _; refine G.call callRoom rfl rfl (s3 _) Ze ?_; rintro _ h2 H2 ⟨rfl, rfl⟩ hle2) | (refine G.atCode ?_; first | refine G.seq ?_ | refine G.region ?_ | refine G.block ?_ | refine G.skip ?_ | refine G.drawAuto mixedOk rfl Zw ?_ | refine G.drawAll slB Zw mixedOk Zw ?_ | refine G.anyIn mixedOk ?_ | refine G.exit rfl ?_ | refine G.ret ?_ | (refine G.cond rfl ?_ ?_ <;> intro hc <;> (try simp only [tests, reduceCtorEq] at hc) <;> (try exact Zf))) | refine G.endOps ?_ | refine G.endStill ?_ | refine G.endHeld ?_ | refine G.back ?_ | refine G.endBlk ?_ | (refine G.atAny ?_; first | refine G.anyAutoX slB rfl rfl Zw Zg Zd ?_ | refine G.anyOne rfl Zw Zg Zu ?_ | refine G.anyAuto slB rfl Zw Zg Zu ?_ | refine G.anyEndX Zw ?_ | refine G.anyEnd Zw Zg Zu ?_ | refine G.anyTwo rfl Zw Zg Zu ?_ ?_) | (refine G.atBin ?_; first | (refine G.atSub ?_; first | refine G.arith rfl rfl rfl rfl rfl Zi ?_ | refine G.op rfl rfl ?_) | (refine G.atEql ?_; first | refine G.op rfl rfl ?_ | refine G.eqStr0 rfl rfl rfl ?_ | refine G.eqStr rfl rfl rfl ?_ | refine G.eqPtr rfl rfl (tyy rfl) rfl ?_ | refine G.eqBool rfl rfl (tyy rfl) rfl ?_) | refine G.op rfl rfl ?_ ) | refine G.op rfl rfl ?_ | (refine G.atLoad ?_; first | refine G.loadOwn1 rfl (tyy rfl) rfl rfl Za rfl rfl ?_ | refine G.loadOwnA rfl (tyy rfl) rfl rfl Za rfl rfl ?_ | refine G.loadImm1 rfl (tyy rfl) rfl rfl Zp rfl ?_ | refine G.loadImmA rfl (tyy rfl) rfl rfl Zp Zp rfl ?_ | refine G.loadRowS rfl (tyy rfl) Zp Za Zo rfl ?_ | (refine G.loadRowB rfl (tyy rfl) Zp Za Zo rfl ?_; intro _)) | (refine G.atFld ?_; first | refine G.fieldAddr rfl (tyy rfl) rfl rfl ?_ | refine G.fieldAddrP rfl (tyy rfl) rfl rfl ?_)           )
  exact G.done1 rfl rfl _ Zu ⟨rfl, rfl⟩
theorem jo_Gen (g d : Nat) (J : Jn) (h : Heap) : Spec Tryz.prog 32 [.pointer (some ⟨g, 0, none⟩)] h [jnC g d J] (fun u _ H' => u = .int .i64 J.gen /\ H' = [jnC g d J]) := by
  unfold jnC
  refine Spec.enter Tryz.func32 rfl rfl ?_; intro w0
  repeat' (first | (refine G.atCode ?_; first | refine G.seq ?_ | refine G.region ?_ | refine G.block ?_ | refine G.skip ?_ | refine G.exit rfl ?_ | refine G.ret ?_ | (refine G.cond rfl ?_ ?_ <;> intro hc <;> (try simp only [tests, reduceCtorEq] at hc) <;> (try exact Zf))) | refine G.endOps ?_ | refine G.endStill ?_ | refine G.endHeld ?_ | refine G.back ?_ | refine G.endBlk ?_ | (refine G.atBin ?_; first | (refine G.atEql ?_; first | refine G.op rfl rfl ?_ | refine G.eqStr0 rfl rfl rfl ?_ | refine G.eqStr rfl rfl rfl ?_ | refine G.eqPtr rfl rfl (tyy rfl) rfl ?_ | refine G.eqBool rfl rfl (tyy rfl) rfl ?_) | refine G.op rfl rfl ?_ ) | refine G.op rfl rfl ?_ | (refine G.atLoad ?_; first | refine G.loadOwn1 rfl (tyy rfl) rfl rfl Za rfl rfl ?_ | refine G.loadOwnA rfl (tyy rfl) rfl rfl Za rfl rfl ?_ | refine G.loadImm1 rfl (tyy rfl) rfl rfl Zp rfl ?_ | refine G.loadImmA rfl (tyy rfl) rfl rfl Zp Zp rfl ?_ | refine G.loadRowS rfl (tyy rfl) Zp Za Zo rfl ?_ | (refine G.loadRowB rfl (tyy rfl) Zp Za Zo rfl ?_; intro _)) | (refine G.atFld ?_; first | refine G.fieldAddr rfl (tyy rfl) rfl rfl ?_ | refine G.fieldAddrP rfl (tyy rfl) rfl rfl ?_)           )
  exact G.done1 rfl rfl _ (SubH.rfl_ _) ⟨rfl, rfl⟩
theorem take_minJ (s : B8) (n : Nat) : s.take (min (n : Int) (s.length : Int)).toNat = s.take n := by
  rw [show (min (n : Int) (s.length : Int)).toNat = min s.length n by omega]
  rcases Nat.le_total s.length n with h | h
  . rw [Nat.min_eq_left h, List.take_of_length_le h, List.take_length]
  . rw [Nat.min_eq_right h]
theorem drop_minJ (s : B8) (n : Nat) : s.drop (min (n : Int) (s.length : Int)).toNat = s.drop n := by
  rw [show (min (n : Int) (s.length : Int)).toNat = min s.length n by omega]
  exact drop_min s n
theorem cells_take (gen q : Nat) (b : B8) (i : Nat) : (List.range i).map (cellAt gen q b) ++ [cellAt gen q b i] = (List.range (i + 1)).map (cellAt gen q b) := by
  rw [List.range_succ, List.map_append]; rfl
set_option maxRecDepth 8000 in
set_option maxHeartbeats 1000000 in
theorem jo_cells (gen q : Nat) (hg : gen < 4294967296) (hq : q < 4294967296) (b : B8) (hb : b.length <= 262144) (h : Heap) :
    Spec Tryz.prog 48 [.int .i64 gen, .int .i64 q, str b] h [] (fun u _ H' => ∃ A c, u = .slice A (cellsM gen q b).length c /\ H' = [.row (.slice A (cellsM gen q b).length c) 9 1 (strsR (cellsM gen q b))]) := by
  have hn := needM_pos hb
  have sN := jo_NeedN b (by omega)
  unfold cellsM
  have hge : ∀ i, i < needM b.length -> ((b.drop (110 * i)).length = b.length - 110 * i) := fun i _ => List.length_drop
  have hsec := fun i (hi : i < needM b.length) => jo_sector ⟨gen, q, i, needM b.length, (b.drop (110 * i)).take 110⟩ ⟨hg, hq, by simp only; omega, by simp only; omega⟩ (by simp only [List.length_take]; omega)
  have hca : ∀ i, secC ⟨gen, q, i, needM b.length, (b.drop (110 * i)).take 110⟩ = cellAt gen q b i := fun i => rfl
  have hct := cells_take gen q b
  generalize needM b.length = N at *
  refine Spec.enter Tryz.func48 rfl rfl ?_; intro w0
  repeat' (first | (show G _ (.ops .seq _ (⟨some _, .call { callee := .value (.func 34), args := _, argTypes := _ }, _, _, _, none⟩ :: _) :: _) _ _ _; refine G.call callNeed6 rfl rfl (sN _) Ze ?_; rintro _ h2 H2 ⟨rfl, rfl⟩ hle2) | (refine G.atCode ?_; refine G.stopLoop ?_) | (refine G.atCode ?_; first | refine G.seq ?_ | refine G.region ?_ | refine G.block ?_ | refine G.skip ?_ | refine G.exit rfl ?_ | refine G.ret ?_ | (refine G.cond rfl ?_ ?_ <;> intro hc <;> (try simp only [tests, reduceCtorEq] at hc) <;> (try exact Zf))) | refine G.endOps ?_ | refine G.endStill ?_ | refine G.endHeld ?_ | refine G.back ?_ | refine G.endBlk ?_ | (refine G.atBin ?_; first | (refine G.atAdd ?_; first | refine G.arith rfl rfl rfl rfl rfl Zi ?_ | refine G.catStr rfl rfl rfl Zo ?_ | refine G.op rfl rfl ?_) | refine G.op rfl rfl ?_ ) | refine G.op rfl rfl ?_ | (refine G.atLen ?_; first | refine G.lenStr rfl (tyy rfl) rfl ?_ | refine G.lenSlice rfl (tyy rfl) rfl ?_ | refine G.lenRowB rfl (tyy rfl) Za rfl ?_ | refine G.lenRowS rfl (tyy rfl) Za rfl ?_ | refine G.lenRow rfl (tyy rfl) Za rfl ?_ | refine G.lenImmB rfl (tyy rfl) Zl rfl ?_ | refine G.lenImmI rfl (tyy rfl) Zl rfl ?_ | refine G.lenImmS rfl (tyy rfl) Zl rfl ?_ | refine G.lenImm rfl (tyy rfl) Zl rfl ?_) | (refine G.atBld ?_; refine G.build (tyy rfl) rfl rfl rfl ?_) | (refine G.atBsl ?_; refine G.buildSlice (tyy rfl) (tyy rfl) rfl rfl rfl rfl ?_; intro _) | (refine G.atApp ?_; first | (refine G.append1S rfl rfl (tyy rfl) (tyy rfl) rfl rfl Za Za rfl Zo ?_; intro _) | (refine G.appendImmS rfl rfl (tyy rfl) (tyy rfl) rfl rfl Za Zl rfl Zo ?_; intro _) | (refine G.append1B rfl rfl (tyy rfl) (tyy rfl) rfl rfl Za Za rfl Zo Zo ?_; intro _) | (refine G.appendStr rfl rfl (tyy rfl) (tyy rfl) (tyy rfl) rfl rfl Za rfl Zo ?_; intro _) | (refine G.append1 rfl rfl (tyy rfl) (tyy rfl) rfl rfl Za Za rfl rfl rfl Zo ?_; intro _; refine G.rowForm Take.hd ?_; rintro _ _ rfl)) | (refine G.atConv ?_; first | refine G.conv rfl (tyy rfl) (tyy rfl) rfl Zi ?_ | (refine G.convBytes rfl (tyy rfl) (tyy rfl) (tyy rfl) rfl Zo ?_; intro _) | refine G.convStr rfl (tyy rfl) (tyy rfl) (tyy rfl) Za rfl ?_ | refine G.convStrBlk1 rfl (tyy rfl) (tyy rfl) (tyy rfl) Za Zo rfl ?_ | refine G.convStrBlk2 rfl (tyy rfl) (tyy rfl) (tyy rfl) Za Zo Zo rfl ?_ | (refine G.convW rfl (tyy rfl) (tyy rfl) rfl ?_; intro hcw; (try simp only [inR] at hcw))) | (refine G.atSlc ?_; first | refine G.dropStr rfl rfl (tyy rfl) rfl Zj Zo ?_ | refine G.takeStr rfl rfl (tyy rfl) rfl Zj Zo ?_ | refine G.sliceStr rfl rfl rfl (tyy rfl) rfl Zj Zj Zo rfl ?_))
  refine G.nilRow 9 1 ?_
  refine G.go ?_
  refine G.loop (σ := Nat × Option Addr × Nat) (fun x => [(15, .int .i64 x.1), (14, .int .i64 N), (8, .int .i64 N), (7, .slice x.2.1 x.1 x.2.2), (2, str (b.drop (110 * x.1))), (1, .int .i64 q), (0, .int .i64 gen)])
    (fun x => [.row (.slice x.2.1 x.1 x.2.2) 9 1 (strsR ((List.range x.1).map (cellAt gen q b)))]) (fun x _ => x.1 <= N) (fun x => N - x.1) ⟨0, none, 0⟩ ⟨rfl, rfl, rfl, rfl, rfl, rfl, rfl, trivial⟩ Zu (Nat.zero_le _) ?_
  rintro ⟨i, A, c⟩ h3 hle3 hi
  simp only at hi
  refine G.norm (by (try dsimp only) <;> exact rfl) (by (try dsimp only) <;> exact rfl) ?_
  by_cases hlt : i < N
  . have hdl := hge i hlt
    have hS := hsec i hlt
    rw [hca] at hS
    have hc1 := hct i
    have hnx : b.drop (110 * (i + 1)) = (b.drop (110 * i)).drop 110 := by rw [List.drop_drop]; rfl
    have hrl : ((List.range i).map (cellAt gen q b)).length = i := by simp
    have hmn : (b.drop (110 * i)).take (min (110 : Int) ((b.drop (110 * i)).length : Int)).toNat = (b.drop (110 * i)).take 110 := take_minJ (b.drop (110 * i)) 110
    have hdm : (b.drop (110 * i)).drop (min (110 : Int) ((b.drop (110 * i)).length : Int)).toNat = (b.drop (110 * i)).drop 110 := drop_minJ (b.drop (110 * i)) 110
    generalize cellAt gen q b i = C at *
    generalize (List.range i).map (cellAt gen q b) = L at *
    generalize b.drop (110 * i) = B at *
    clear hge hsec hca hct sN
    repeat' (first | (refine G.minI rfl rfl rfl ?_) | (refine G.maxI rfl rfl rfl ?_) | (show G _ (.ops .seq _ (⟨some _, .call { callee := .value (.func 69), args := _, argTypes := _ }, _, _, _, none⟩ :: _) :: _) _ _ _; rw [hmn]; refine G.call callSectorC rfl rfl (hS _) Ze ?_; rintro _ h4 H4 ⟨rfl, rfl⟩ hle4) | (refine G.atApp ?_; refine G.append1S rfl rfl (tyy rfl) (tyy rfl) rfl rfl Za Za rfl Zo ?_; intro _; refine G.rowForm Take.hd ?_; rintro _ _ rfl) | (refine G.atCode ?_; first | refine G.seq ?_ | refine G.region ?_ | refine G.block ?_ | refine G.skip ?_ | refine G.exit rfl ?_ | refine G.ret ?_ | (refine G.cond rfl ?_ ?_ <;> intro hc <;> (try simp only [tests, reduceCtorEq] at hc) <;> (try exact Zf))) | refine G.endOps ?_ | refine G.endStill ?_ | refine G.endHeld ?_ | refine G.back ?_ | refine G.endBlk ?_ | (refine G.atBin ?_; first | (refine G.atAdd ?_; first | refine G.arith rfl rfl rfl rfl rfl Zi ?_ | refine G.catStr rfl rfl rfl Zo ?_ | refine G.op rfl rfl ?_) | refine G.op rfl rfl ?_ ) | refine G.op rfl rfl ?_ | (refine G.atLen ?_; first | refine G.lenStr rfl (tyy rfl) rfl ?_ | refine G.lenSlice rfl (tyy rfl) rfl ?_ | refine G.lenRowB rfl (tyy rfl) Za rfl ?_ | refine G.lenRowS rfl (tyy rfl) Za rfl ?_ | refine G.lenRow rfl (tyy rfl) Za rfl ?_ | refine G.lenImmB rfl (tyy rfl) Zl rfl ?_ | refine G.lenImmI rfl (tyy rfl) Zl rfl ?_ | refine G.lenImmS rfl (tyy rfl) Zl rfl ?_ | refine G.lenImm rfl (tyy rfl) Zl rfl ?_) | (refine G.atBld ?_; refine G.build (tyy rfl) rfl rfl rfl ?_) | (refine G.atBsl ?_; refine G.buildSlice (tyy rfl) (tyy rfl) rfl rfl rfl rfl ?_; intro _) | (refine G.atApp ?_; first | (refine G.append1S rfl rfl (tyy rfl) (tyy rfl) rfl rfl Za Za rfl Zo ?_; intro _) | (refine G.appendImmS rfl rfl (tyy rfl) (tyy rfl) rfl rfl Za Zl rfl Zo ?_; intro _) | (refine G.append1B rfl rfl (tyy rfl) (tyy rfl) rfl rfl Za Za rfl Zo Zo ?_; intro _) | (refine G.appendStr rfl rfl (tyy rfl) (tyy rfl) (tyy rfl) rfl rfl Za rfl Zo ?_; intro _) | (refine G.append1 rfl rfl (tyy rfl) (tyy rfl) rfl rfl Za Za rfl rfl rfl Zo ?_; intro _; refine G.rowForm Take.hd ?_; rintro _ _ rfl)) | (refine G.atConv ?_; first | refine G.conv rfl (tyy rfl) (tyy rfl) rfl Zi ?_ | (refine G.convBytes rfl (tyy rfl) (tyy rfl) (tyy rfl) rfl Zo ?_; intro _) | refine G.convStr rfl (tyy rfl) (tyy rfl) (tyy rfl) Za rfl ?_ | refine G.convStrBlk1 rfl (tyy rfl) (tyy rfl) (tyy rfl) Za Zo rfl ?_ | refine G.convStrBlk2 rfl (tyy rfl) (tyy rfl) (tyy rfl) Za Zo Zo rfl ?_ | (refine G.convW rfl (tyy rfl) (tyy rfl) rfl ?_; intro hcw; (try simp only [inR] at hcw))) | (refine G.atSlc ?_; first | refine G.dropStr rfl rfl (tyy rfl) rfl Zj Zo ?_ | refine G.takeStr rfl rfl (tyy rfl) rfl Zj Zo ?_ | refine G.sliceStr rfl rfl rfl (tyy rfl) rfl Zj Zj Zo rfl ?_))
    have hll : (strsR (L ++ [C])).length = i + 1 := by rw [strsR_length, List.length_append, hrl]; rfl
    rw [hll, hc1, hdm, ← hnx]
    exact G.again ⟨i + 1, _, _⟩ ⟨sint (by simp), rfl, rfl, rfl, rfl, rfl, rfl, trivial⟩ Zu (by simp only; omega) (by solve | repeat first | assumption | exact Zr _ | refine Zq ?_ Zp) (by simp only; omega)
  . obtain rfl : i = N := by omega
    have hrl : ((List.range i).map (cellAt gen q b)).length = i := by simp
    rw [hrl]
    repeat' (first | (refine G.atCode ?_; first | refine G.seq ?_ | refine G.region ?_ | refine G.block ?_ | refine G.skip ?_ | refine G.exit rfl ?_ | refine G.ret ?_ | (refine G.cond rfl ?_ ?_ <;> intro hc <;> (try simp only [tests, reduceCtorEq] at hc) <;> (try exact Zf))) | refine G.endOps ?_ | refine G.endStill ?_ | refine G.endHeld ?_ | refine G.back ?_ | refine G.endBlk ?_ | (refine G.atBin ?_; first | (refine G.atAdd ?_; first | refine G.arith rfl rfl rfl rfl rfl Zi ?_ | refine G.catStr rfl rfl rfl Zo ?_ | refine G.op rfl rfl ?_) | refine G.op rfl rfl ?_ ) | refine G.op rfl rfl ?_ | (refine G.atLen ?_; first | refine G.lenStr rfl (tyy rfl) rfl ?_ | refine G.lenSlice rfl (tyy rfl) rfl ?_ | refine G.lenRowB rfl (tyy rfl) Za rfl ?_ | refine G.lenRowS rfl (tyy rfl) Za rfl ?_ | refine G.lenRow rfl (tyy rfl) Za rfl ?_ | refine G.lenImmB rfl (tyy rfl) Zl rfl ?_ | refine G.lenImmI rfl (tyy rfl) Zl rfl ?_ | refine G.lenImmS rfl (tyy rfl) Zl rfl ?_ | refine G.lenImm rfl (tyy rfl) Zl rfl ?_) | (refine G.atBld ?_; refine G.build (tyy rfl) rfl rfl rfl ?_) | (refine G.atBsl ?_; refine G.buildSlice (tyy rfl) (tyy rfl) rfl rfl rfl rfl ?_; intro _) | (refine G.atApp ?_; first | (refine G.append1S rfl rfl (tyy rfl) (tyy rfl) rfl rfl Za Za rfl Zo ?_; intro _) | (refine G.appendImmS rfl rfl (tyy rfl) (tyy rfl) rfl rfl Za Zl rfl Zo ?_; intro _) | (refine G.append1B rfl rfl (tyy rfl) (tyy rfl) rfl rfl Za Za rfl Zo Zo ?_; intro _) | (refine G.appendStr rfl rfl (tyy rfl) (tyy rfl) (tyy rfl) rfl rfl Za rfl Zo ?_; intro _) | (refine G.append1 rfl rfl (tyy rfl) (tyy rfl) rfl rfl Za Za rfl rfl rfl Zo ?_; intro _; refine G.rowForm Take.hd ?_; rintro _ _ rfl)) | (refine G.atConv ?_; first | refine G.conv rfl (tyy rfl) (tyy rfl) rfl Zi ?_ | (refine G.convBytes rfl (tyy rfl) (tyy rfl) (tyy rfl) rfl Zo ?_; intro _) | refine G.convStr rfl (tyy rfl) (tyy rfl) (tyy rfl) Za rfl ?_ | refine G.convStrBlk1 rfl (tyy rfl) (tyy rfl) (tyy rfl) Za Zo rfl ?_ | refine G.convStrBlk2 rfl (tyy rfl) (tyy rfl) (tyy rfl) Za Zo Zo rfl ?_ | (refine G.convW rfl (tyy rfl) (tyy rfl) rfl ?_; intro hcw; (try simp only [inR] at hcw))) | (refine G.atSlc ?_; first | refine G.dropStr rfl rfl (tyy rfl) rfl Zj Zo ?_ | refine G.takeStr rfl rfl (tyy rfl) rfl Zj Zo ?_ | refine G.sliceStr rfl rfl rfl (tyy rfl) rfl Zj Zj Zo rfl ?_))
    exact G.done1 rfl rfl _ Zu ⟨A, c, rfl, rfl⟩
theorem layJ_ok : ∀ (ss : List B8) {D : Dk} (a : Nat), D.Ok -> (layJ D a ss).1.Ok
  | [], D, a, h => by rw [layJ]; exact flush_ok h
  | s :: ss, D, a, h => by
    rw [layJ]
    split
    . exact write_ok h _ _
    . exact layJ_ok ss (a + 1) (write_ok h _ _)
theorem layJ_wk : ∀ (ss : List B8) {D : Dk} (a : Nat), D.Wk -> (layJ D a ss).1.Wk
  | [], D, a, h => by rw [layJ]; exact flush_wk h
  | s :: ss, D, a, h => by
    rw [layJ]
    split
    . exact write_wk h _ _
    . exact layJ_wk ss (a + 1) (write_wk h _ _)
theorem layJ_shp : ∀ (ss : List B8) (D : Dk) (a : Nat), Shp D (layJ D a ss).1
  | [], D, a => by rw [layJ]; exact flush_shp D
  | s :: ss, D, a => by
    rw [layJ]
    split
    . exact write_shp D _ _
    . exact (write_shp D _ _).trans (layJ_shp ss _ (a + 1))
theorem layJ_cons (D : Dk) (a : Nat) (s : B8) (ss : List B8) : layJ D a (s :: ss) = if (writeM D (a : Nat) s).2 ≠ 0 then writeM D (a : Nat) s else layJ (writeM D (a : Nat) s).1 (a + 1) ss := by rw [layJ]
theorem strAt_dropc {L : List B8} {i : Nat} (h : i < L.length) : L.drop i = strAt L i :: L.drop (i + 1) := by
  rw [List.drop_eq_getElem_cons h]
  unfold strAt
  rw [List.getElem?_eq_getElem h]; rfl
set_option maxRecDepth 8000 in
set_option maxHeartbeats 1000000 in
theorem jo_lay (g d m : Nat) (v : Value) (J : Jn) (D : Dk) (hD : D.Ok) (hW : D.Wk) (a : Nat) (ha : a <= 100000) (ss : List B8) (hss : ss.length <= 100000000) (sv : Value) (h : Heap) (hv : HSl h sv 1 (strsR ss)) :
    Spec Tryz.prog 49 [.pointer (some ⟨g, 0, none⟩), .int .i64 a, sv] h (jdC g d m v J D) (fun u _ H' => u = .int .i64 (layJ D a ss).2 /\ H' = jdC g d m v { J with closed := decide ((layJ D a ss).2 ≠ 0) } (layJ D a ss).1) := by
  unfold jdC jnC
  refine Spec.enter Tryz.func49 rfl rfl ?_; intro w0
  repeat' (first | (refine G.atCode ?_; refine G.stopLoop ?_) | (refine G.atCode ?_; first | refine G.seq ?_ | refine G.region ?_ | refine G.block ?_ | refine G.skip ?_ | refine G.exit rfl ?_ | refine G.ret ?_ | (refine G.cond rfl ?_ ?_ <;> intro hc <;> (try simp only [tests, reduceCtorEq] at hc) <;> (try exact Zf))) | refine G.endOps ?_ | refine G.endStill ?_ | refine G.endHeld ?_ | refine G.back ?_ | refine G.endBlk ?_ | (refine G.atBin ?_; first | (refine G.atAdd ?_; first | refine G.arith rfl rfl rfl rfl rfl Zi ?_ | refine G.catStr rfl rfl rfl Zo ?_ | refine G.op rfl rfl ?_) | (refine G.atNeq ?_; first | refine G.op rfl rfl ?_ | refine G.neStr0 rfl rfl rfl ?_ | refine G.neStr rfl rfl rfl ?_ | refine G.nePtr rfl rfl (tyy rfl) rfl ?_ | refine G.neBool rfl rfl (tyy rfl) rfl ?_) | refine G.op rfl rfl ?_ ) | refine G.op rfl rfl ?_ | (refine G.atLen ?_; first | refine G.lenStr rfl (tyy rfl) rfl ?_ | refine G.lenSlice rfl (tyy rfl) rfl ?_ | refine G.lenRowB rfl (tyy rfl) Za rfl ?_ | refine G.lenRowS rfl (tyy rfl) Za rfl ?_ | refine G.lenRow rfl (tyy rfl) Za rfl ?_ | refine G.lenImmB rfl (tyy rfl) Zl rfl ?_ | refine G.lenImmI rfl (tyy rfl) Zl rfl ?_ | refine G.lenImmS rfl (tyy rfl) Zl rfl ?_ | refine G.lenImm rfl (tyy rfl) Zl rfl ?_) | (refine G.atLoad ?_; first | refine G.loadOwn1 rfl (tyy rfl) rfl rfl Za rfl rfl ?_ | refine G.loadOwnA rfl (tyy rfl) rfl rfl Za rfl rfl ?_ | refine G.loadImm1 rfl (tyy rfl) rfl rfl Zp rfl ?_ | refine G.loadImmA rfl (tyy rfl) rfl rfl Zp Zp rfl ?_ | refine G.loadRowS rfl (tyy rfl) Zp Za Zo rfl ?_ | (refine G.loadRowB rfl (tyy rfl) Zp Za Zo rfl ?_; intro _)) | (refine G.atFld ?_; first | refine G.fieldAddr rfl (tyy rfl) rfl rfl ?_ | refine G.fieldAddrP rfl (tyy rfl) rfl rfl ?_) | (refine G.atSto ?_; refine G.storeOwn rfl rfl (tyy rfl) Za rfl rfl rfl rfl ?_) | (refine G.atIdx ?_; first | (refine G.idxImmI rfl rfl (tyy rfl) (tyy rfl) Zl Zp Zj rfl Zo ?_; intro _ _ _) | (refine G.idxImmS rfl rfl (tyy rfl) (tyy rfl) Zl Zj rfl Zo ?_; intro _ _) | (refine G.idxImmB rfl rfl (tyy rfl) (tyy rfl) Zl Zj rfl Zo ?_; intro _ _ _) | (refine G.idxRow' rfl rfl (tyy rfl) (tyy rfl) Za Zj rfl Zo ?_; intro _ _) | (refine G.idxImmN rfl rfl (tyy rfl) (tyy rfl) Zl Zj rfl Zo ?_; intro _ _ _ _ _))  )
  refine G.go ?_
  refine G.loop (σ := Nat × Dk) (fun x => [(13, .int .i64 x.1), (12, .int .i64 ss.length), (11, sv), (1, .int .i64 a), (0, .pointer (some ⟨g, 0, none⟩))])
    (fun x => .blk g [.pointer (some ⟨d, 0, none⟩), .int .i64 J.gen, .int .i64 J.half, .int .i64 J.slot, .int .i64 J.used, .int .i64 J.n, .bool J.closed, .bool false] 73 :: dkC d m v x.2)
    (fun x _ => x.1 <= ss.length /\ x.2.Ok /\ x.2.Wk /\ layJ D a ss = layJ x.2 (a + x.1) (ss.drop x.1)) (fun x => ss.length - x.1) ⟨0, D⟩ ⟨rfl, rfl, rfl, rfl, rfl, trivial⟩ Zu ⟨Nat.zero_le _, hD, hW, rfl⟩ ?_
  rintro ⟨i, E⟩ h1 hle1 ⟨hi, hE, hX, hl⟩
  simp only at hi hE hX hl
  have hl0 := hl
  refine G.norm (by (try dsimp only) <;> exact rfl) (by (try dsimp only) <;> exact rfl) ?_
  rw [hl]
  have hv1 : HSl h1 sv 1 (strsR ss) := hv.mono (by solve | repeat first | assumption | exact Zr _ | refine Zq ?_ Zp)
  by_cases hlt : i < ss.length
  . rw [strAt_dropc hlt, layJ_cons]
    have hw := fun h => disk_Write d m v E hE ((a + i : Nat) : Int) (strAt ss i) h
    have hwo := write_ok hE ((a + i : Nat) : Int) (strAt ss i)
    have hww := write_wk hX ((a + i : Nat) : Int) (strAt ss i)
    rw [strAt_dropc hlt, layJ_cons] at hl
    have hci : ((a + i : Nat) : Int) = (a : Int) + (i : Int) := by omega
    generalize hwm : writeM E ((a + i : Nat) : Int) (strAt ss i) = w at *
    obtain ⟨E2, e⟩ := w
    simp only at hw hwo hww
    rw [hci] at hw
    by_cases he : e = 0
    . subst he
      rw [if_neg (by simp)]
      rw [if_neg (by simp)] at hl
      simp only at hl ⊢
      unfold dkC at hw ⊢
      repeat' (first | (refine G.atIdx ?_; refine G.idxImmS rfl rfl (tyy rfl) (tyy rfl) hv1 Zj rfl (by omega) ?_; intro _ _) | (show G _ (.ops .seq _ (⟨some _, .call { callee := .value (.func 70), args := _, argTypes := _ }, _, _, _, none⟩ :: _) :: _) _ _ _; refine G.call callWriteD rfl rfl (hw _) Ze ?_; rintro _ h2 H2 ⟨rfl, rfl⟩ hle2) | (refine G.atCode ?_; first | refine G.seq ?_ | refine G.region ?_ | refine G.block ?_ | refine G.skip ?_ | refine G.exit rfl ?_ | refine G.ret ?_ | (refine G.cond rfl ?_ ?_ <;> intro hc <;> (try simp only [tests, reduceCtorEq] at hc) <;> (try exact Zf))) | refine G.endOps ?_ | refine G.endStill ?_ | refine G.endHeld ?_ | refine G.back ?_ | refine G.endBlk ?_ | (refine G.atBin ?_; first | (refine G.atAdd ?_; first | refine G.arith rfl rfl rfl rfl rfl Zi ?_ | refine G.catStr rfl rfl rfl Zo ?_ | refine G.op rfl rfl ?_) | (refine G.atNeq ?_; first | refine G.op rfl rfl ?_ | refine G.neStr0 rfl rfl rfl ?_ | refine G.neStr rfl rfl rfl ?_ | refine G.nePtr rfl rfl (tyy rfl) rfl ?_ | refine G.neBool rfl rfl (tyy rfl) rfl ?_) | refine G.op rfl rfl ?_ ) | refine G.op rfl rfl ?_ | (refine G.atLen ?_; first | refine G.lenStr rfl (tyy rfl) rfl ?_ | refine G.lenSlice rfl (tyy rfl) rfl ?_ | refine G.lenRowB rfl (tyy rfl) Za rfl ?_ | refine G.lenRowS rfl (tyy rfl) Za rfl ?_ | refine G.lenRow rfl (tyy rfl) Za rfl ?_ | refine G.lenImmB rfl (tyy rfl) Zl rfl ?_ | refine G.lenImmI rfl (tyy rfl) Zl rfl ?_ | refine G.lenImmS rfl (tyy rfl) Zl rfl ?_ | refine G.lenImm rfl (tyy rfl) Zl rfl ?_) | (refine G.atLoad ?_; first | refine G.loadOwn1 rfl (tyy rfl) rfl rfl Za rfl rfl ?_ | refine G.loadOwnA rfl (tyy rfl) rfl rfl Za rfl rfl ?_ | refine G.loadImm1 rfl (tyy rfl) rfl rfl Zp rfl ?_ | refine G.loadImmA rfl (tyy rfl) rfl rfl Zp Zp rfl ?_ | refine G.loadRowS rfl (tyy rfl) Zp Za Zo rfl ?_ | (refine G.loadRowB rfl (tyy rfl) Zp Za Zo rfl ?_; intro _)) | (refine G.atFld ?_; first | refine G.fieldAddr rfl (tyy rfl) rfl rfl ?_ | refine G.fieldAddrP rfl (tyy rfl) rfl rfl ?_) | (refine G.atSto ?_; refine G.storeOwn rfl rfl (tyy rfl) Za rfl rfl rfl rfl ?_) | (refine G.atIdx ?_; first | (refine G.idxImmI rfl rfl (tyy rfl) (tyy rfl) Zl Zp Zj rfl Zo ?_; intro _ _ _) | (refine G.idxImmS rfl rfl (tyy rfl) (tyy rfl) Zl Zj rfl Zo ?_; intro _ _) | (refine G.idxImmB rfl rfl (tyy rfl) (tyy rfl) Zl Zj rfl Zo ?_; intro _ _ _) | (refine G.idxRow' rfl rfl (tyy rfl) (tyy rfl) Za Zj rfl Zo ?_; intro _ _) | (refine G.idxImmN rfl rfl (tyy rfl) (tyy rfl) Zl Zj rfl Zo ?_; intro _ _ _ _ _))  )
      all_goals first | (exfalso; omega) | exact G.again ⟨i + 1, E2⟩ ⟨sint (by simp), rfl, rfl, rfl, rfl, trivial⟩ Zu ⟨by simp only; omega, hwo, hww, rfl⟩ (by solve | repeat first | assumption | exact Zr _ | refine Zq ?_ Zp) (by simp only; omega)
    . rw [if_pos (by simpa using he)]
      unfold dkC at hw ⊢
      repeat' (first | (refine G.atIdx ?_; refine G.idxImmS rfl rfl (tyy rfl) (tyy rfl) hv1 Zj rfl (by omega) ?_; intro _ _) | (show G _ (.ops .seq _ (⟨some _, .call { callee := .value (.func 70), args := _, argTypes := _ }, _, _, _, none⟩ :: _) :: _) _ _ _; refine G.call callWriteD rfl rfl (hw _) Ze ?_; rintro _ h2 H2 ⟨rfl, rfl⟩ hle2) | (refine G.atCode ?_; first | refine G.seq ?_ | refine G.region ?_ | refine G.block ?_ | refine G.skip ?_ | refine G.exit rfl ?_ | refine G.ret ?_ | (refine G.cond rfl ?_ ?_ <;> intro hc <;> (try simp only [tests, reduceCtorEq] at hc) <;> (try exact Zf))) | refine G.endOps ?_ | refine G.endStill ?_ | refine G.endHeld ?_ | refine G.back ?_ | refine G.endBlk ?_ | (refine G.atBin ?_; first | (refine G.atAdd ?_; first | refine G.arith rfl rfl rfl rfl rfl Zi ?_ | refine G.catStr rfl rfl rfl Zo ?_ | refine G.op rfl rfl ?_) | (refine G.atNeq ?_; first | refine G.op rfl rfl ?_ | refine G.neStr0 rfl rfl rfl ?_ | refine G.neStr rfl rfl rfl ?_ | refine G.nePtr rfl rfl (tyy rfl) rfl ?_ | refine G.neBool rfl rfl (tyy rfl) rfl ?_) | refine G.op rfl rfl ?_ ) | refine G.op rfl rfl ?_ | (refine G.atLen ?_; first | refine G.lenStr rfl (tyy rfl) rfl ?_ | refine G.lenSlice rfl (tyy rfl) rfl ?_ | refine G.lenRowB rfl (tyy rfl) Za rfl ?_ | refine G.lenRowS rfl (tyy rfl) Za rfl ?_ | refine G.lenRow rfl (tyy rfl) Za rfl ?_ | refine G.lenImmB rfl (tyy rfl) Zl rfl ?_ | refine G.lenImmI rfl (tyy rfl) Zl rfl ?_ | refine G.lenImmS rfl (tyy rfl) Zl rfl ?_ | refine G.lenImm rfl (tyy rfl) Zl rfl ?_) | (refine G.atLoad ?_; first | refine G.loadOwn1 rfl (tyy rfl) rfl rfl Za rfl rfl ?_ | refine G.loadOwnA rfl (tyy rfl) rfl rfl Za rfl rfl ?_ | refine G.loadImm1 rfl (tyy rfl) rfl rfl Zp rfl ?_ | refine G.loadImmA rfl (tyy rfl) rfl rfl Zp Zp rfl ?_ | refine G.loadRowS rfl (tyy rfl) Zp Za Zo rfl ?_ | (refine G.loadRowB rfl (tyy rfl) Zp Za Zo rfl ?_; intro _)) | (refine G.atFld ?_; first | refine G.fieldAddr rfl (tyy rfl) rfl rfl ?_ | refine G.fieldAddrP rfl (tyy rfl) rfl rfl ?_) | (refine G.atSto ?_; refine G.storeOwn rfl rfl (tyy rfl) Za rfl rfl rfl rfl ?_) | (refine G.atIdx ?_; first | (refine G.idxImmI rfl rfl (tyy rfl) (tyy rfl) Zl Zp Zj rfl Zo ?_; intro _ _ _) | (refine G.idxImmS rfl rfl (tyy rfl) (tyy rfl) Zl Zj rfl Zo ?_; intro _ _) | (refine G.idxImmB rfl rfl (tyy rfl) (tyy rfl) Zl Zj rfl Zo ?_; intro _ _ _) | (refine G.idxRow' rfl rfl (tyy rfl) (tyy rfl) Za Zj rfl Zo ?_; intro _ _) | (refine G.idxImmN rfl rfl (tyy rfl) (tyy rfl) Zl Zj rfl Zo ?_; intro _ _ _ _ _))  )
      all_goals first | (exfalso; omega) | (rw [decide_eq_true (show e ≠ 0 from he)]; exact G.done1 rfl rfl _ Zu ⟨rfl, rfl⟩)
  . obtain rfl : i = ss.length := by omega
    have hf := fun h => disk_Flush d m v E hE hX h
    rw [List.drop_length, layJ]
    generalize flushM E = w at *
    obtain ⟨E2, e⟩ := w
    simp only [ne_eq, decide_not]
    unfold dkC at hf ⊢
    repeat' (first | (show G _ (.ops .seq _ (⟨some _, .call { callee := .value (.func 71), args := _, argTypes := _ }, _, _, _, none⟩ :: _) :: _) _ _ _; refine G.call callFlushD rfl rfl (hf _) Ze ?_; rintro _ h2 H2 ⟨rfl, rfl⟩ hle2) | (refine G.atCode ?_; first | refine G.seq ?_ | refine G.region ?_ | refine G.block ?_ | refine G.skip ?_ | refine G.exit rfl ?_ | refine G.ret ?_ | (refine G.cond rfl ?_ ?_ <;> intro hc <;> (try simp only [tests, reduceCtorEq] at hc) <;> (try exact Zf))) | refine G.endOps ?_ | refine G.endStill ?_ | refine G.endHeld ?_ | refine G.back ?_ | refine G.endBlk ?_ | (refine G.atBin ?_; first | (refine G.atAdd ?_; first | refine G.arith rfl rfl rfl rfl rfl Zi ?_ | refine G.catStr rfl rfl rfl Zo ?_ | refine G.op rfl rfl ?_) | (refine G.atNeq ?_; first | refine G.op rfl rfl ?_ | refine G.neStr0 rfl rfl rfl ?_ | refine G.neStr rfl rfl rfl ?_ | refine G.nePtr rfl rfl (tyy rfl) rfl ?_ | refine G.neBool rfl rfl (tyy rfl) rfl ?_) | refine G.op rfl rfl ?_ ) | refine G.op rfl rfl ?_ | (refine G.atLen ?_; first | refine G.lenStr rfl (tyy rfl) rfl ?_ | refine G.lenSlice rfl (tyy rfl) rfl ?_ | refine G.lenRowB rfl (tyy rfl) Za rfl ?_ | refine G.lenRowS rfl (tyy rfl) Za rfl ?_ | refine G.lenRow rfl (tyy rfl) Za rfl ?_ | refine G.lenImmB rfl (tyy rfl) Zl rfl ?_ | refine G.lenImmI rfl (tyy rfl) Zl rfl ?_ | refine G.lenImmS rfl (tyy rfl) Zl rfl ?_ | refine G.lenImm rfl (tyy rfl) Zl rfl ?_) | (refine G.atLoad ?_; first | refine G.loadOwn1 rfl (tyy rfl) rfl rfl Za rfl rfl ?_ | refine G.loadOwnA rfl (tyy rfl) rfl rfl Za rfl rfl ?_ | refine G.loadImm1 rfl (tyy rfl) rfl rfl Zp rfl ?_ | refine G.loadImmA rfl (tyy rfl) rfl rfl Zp Zp rfl ?_ | refine G.loadRowS rfl (tyy rfl) Zp Za Zo rfl ?_ | (refine G.loadRowB rfl (tyy rfl) Zp Za Zo rfl ?_; intro _)) | (refine G.atFld ?_; first | refine G.fieldAddr rfl (tyy rfl) rfl rfl ?_ | refine G.fieldAddrP rfl (tyy rfl) rfl rfl ?_) | (refine G.atSto ?_; refine G.storeOwn rfl rfl (tyy rfl) Za rfl rfl rfl rfl ?_) | (refine G.atIdx ?_; first | (refine G.idxImmI rfl rfl (tyy rfl) (tyy rfl) Zl Zp Zj rfl Zo ?_; intro _ _ _) | (refine G.idxImmS rfl rfl (tyy rfl) (tyy rfl) Zl Zj rfl Zo ?_; intro _ _) | (refine G.idxImmB rfl rfl (tyy rfl) (tyy rfl) Zl Zj rfl Zo ?_; intro _ _ _) | (refine G.idxRow' rfl rfl (tyy rfl) (tyy rfl) Za Zj rfl Zo ?_; intro _ _) | (refine G.idxImmN rfl rfl (tyy rfl) (tyy rfl) Zl Zj rfl Zo ?_; intro _ _ _ _ _))  )
    exact G.done1 rfl rfl _ Zu ⟨rfl, rfl⟩
end Go.Proofs.YtmbpjgjajedonaaGreatDoor
