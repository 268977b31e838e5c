/- castellanref06: size, Left, Cells, write. -/
import Derived.Test.YtmbpjgjajedonaaGreatDoorJpB
import Derived.Test.YtmbpjgjajedonaaGreatDoorDkT
import Derived.Test.YtmbpjgjajedonaaGreatDoorDkL
import Derived.Test.YtmbpjgjajedonaaGreatDoorJoJ
namespace Go.Proofs.YtmbpjgjajedonaaGreatDoor
set_option linter.all false
set_option maxRecDepth 4000
open Go.RowKit

theorem callQsize : Callable Tryz.prog 43 := ⟨_, Tryz.func43, by kernel_rfl, rfl⟩
theorem callQLeft : Callable Tryz.prog 51 := ⟨_, Tryz.func51, by kernel_rfl, rfl⟩
theorem callQCells : Callable Tryz.prog 53 := ⟨_, Tryz.func53, by kernel_rfl, rfl⟩
theorem callQwrite : Callable Tryz.prog 52 := ⟨_, Tryz.func52, by kernel_rfl, rfl⟩
def rjB (g r : Nat) (J : Jn) : Chunk := .blk g [.pointer (some ⟨r, 0, none⟩), .int .i64 J.gen, .int .i64 J.half, .int .i64 J.slot, .int .i64 J.used, .int .i64 J.n, .bool J.closed] 82
def rkD (r : Nat) (lv wv tv : Value) (lim : Bool) (most : Int) (T : List (List Value)) (D : Dk) : List Chunk := rkC r lv wv tv lim most T D D.lasts (waitL D)
def rjC (g r : Nat) (lv wv tv : Value) (lim : Bool) (most : Int) (T : List (List Value)) (J : Jn) (D : Dk) : List Chunk := rjB g r J :: rkD r lv wv tv lim most T D
theorem rj_size (g r : Nat) (lv wv tv : Value) (lim : Bool) (most : Int) (T : List (List Value)) (J : Jn) (D : Dk) (h4 : 4 <= D.lasts.length) (h8 : D.lasts.length <= 8192) (h : Heap) :
    Spec Tryz.prog 43 [.pointer (some ⟨g, 0, none⟩)] h (rjC g r lv wv tv lim most T J D) (fun u _ H' => u = .int .i64 (sizeM D : Nat) /\ H' = rjC g r lv wv tv lim most T J D) := by
  unfold rjC rkD rjB
  generalize waitL D = Ws at *
  unfold rkC
  have hsl : (strsR D.lasts).length = D.lasts.length := strsR_length _
  refine Spec.enter Tryz.func43 rfl rfl ?_; intro w0
  repeat' (first | (refine G.atCode ?_; first | refine G.seq ?_ | refine G.region ?_ | refine G.block ?_ | refine G.skip ?_ | refine G.exit rfl ?_ | refine G.ret ?_ | (refine G.cond rfl ?_ ?_ <;> intro hc <;> (try simp only [tests, reduceCtorEq] at hc) <;> (try exact Zf))) | refine G.endOps ?_ | refine G.endStill ?_ | refine G.endHeld ?_ | refine G.back ?_ | refine G.endBlk ?_ | (refine G.atBin ?_; first | (refine G.atSub ?_; first | refine G.arith rfl rfl rfl rfl rfl Zi ?_ | refine G.op rfl rfl ?_) | (refine G.atQuo ?_; refine G.quo rfl rfl rfl rfl Zo Zi ?_) | refine G.op rfl rfl ?_ ) | refine G.op rfl rfl ?_ | (refine G.atLen ?_; first | refine G.lenStr rfl (tyy rfl) rfl ?_ | refine G.lenSlice rfl (tyy rfl) rfl ?_ | refine G.lenRowB rfl (tyy rfl) Za rfl ?_ | refine G.lenRowS rfl (tyy rfl) Za rfl ?_ | refine G.lenRow rfl (tyy rfl) Za rfl ?_ | refine G.lenImmB rfl (tyy rfl) Zl rfl ?_ | refine G.lenImmI rfl (tyy rfl) Zl rfl ?_ | refine G.lenImmS rfl (tyy rfl) Zl rfl ?_ | refine G.lenImm rfl (tyy rfl) Zl rfl ?_) | (refine G.atLoad ?_; first | refine G.loadOwn1 rfl (tyy rfl) rfl rfl Za rfl rfl ?_ | refine G.loadOwnA rfl (tyy rfl) rfl rfl Za rfl rfl ?_ | refine G.loadImm1 rfl (tyy rfl) rfl rfl Zp rfl ?_ | refine G.loadImmA rfl (tyy rfl) rfl rfl Zp Zp rfl ?_ | refine G.loadRowS rfl (tyy rfl) Zp Za Zo rfl ?_ | (refine G.loadRowB rfl (tyy rfl) Zp Za Zo rfl ?_; intro _)) | (refine G.atFld ?_; first | refine G.fieldAddr rfl (tyy rfl) rfl rfl ?_ | refine G.fieldAddrP rfl (tyy rfl) rfl rfl ?_)           )
  exact G.done1 rfl rfl _ Zu ⟨by unfold sizeM; congr 1; omega, rfl⟩
set_option maxRecDepth 8000 in
set_option maxHeartbeats 1000000 in
theorem rj_Left (g r : Nat) (lv wv tv : Value) (lim : Bool) (most : Int) (T : List (List Value)) (J : Jn) (D : Dk) (h4 : 4 <= D.lasts.length) (h8 : D.lasts.length <= 8192) (hlm : LimR lim most D) (h0 : 0 <= D.limit) (hf : J.half <= 1) (hu : J.used <= 8192) (h : Heap) :
    Spec Tryz.prog 51 [.pointer (some ⟨g, 0, none⟩)] h (rjC g r lv wv tv lim most T J D) (fun u _ H' => u = .int .i64 (leftM D J) /\ H' = rjC g r lv wv tv lim most T J D) := by
  have s1 := rj_size g r lv wv tv lim most T J D h4 h8
  have s3 := refd_Room r lv wv tv lim most T D hlm (waitL D)
  have hz : sizeM D <= 8192 := by unfold sizeM; omega
  have hr : 0 <= roomM D /\ roomM D <= 8192 := by unfold roomM; omega
  have hfm : (firstM D J.half : Int) = 2 + (J.half : Int) * (sizeM D : Int) := by unfold firstM; simp
  have hm : (J.half : Int) * (sizeM D : Int) = 0 \/ (J.half : Int) * (sizeM D : Int) = sizeM D := by
    rcases (show J.half = 0 \/ J.half = 1 by omega) with hh | hh <;> rw [hh] <;> simp
  unfold leftM
  rw [hfm]
  unfold rjC rkD rjB at *
  generalize waitL D = Ws at *
  unfold rkC at *
  generalize sizeM D = z at *
  generalize roomM D = rm at *
  generalize hF : (J.half : Int) * (z : Int) = F at *
  refine Spec.enter Tryz.func51 rfl rfl ?_; intro w0
  repeat' (first | (refine G.atAny ?_; refine G.anyHold 9 slB rfl (H1 := [.blk g [.pointer (some ⟨r, 0, none⟩), .int .i64 J.gen, .int .i64 J.half, .int .i64 J.slot, .int .i64 J.used, .int .i64 J.n, .bool J.closed] 82]) rfl Zw Zg Zu ?_) | (refine G.atAny ?_; first | refine G.anyAutoX slB rfl rfl Zw (by solve | exact Heap.none_le _ | assumption | exact Zr _ | (repeat first | assumption | exact Zr _ | refine Zq ?_ Zp)) Zd ?_ | refine G.anyKeep slB rfl Zw (by solve | exact Heap.none_le _ | assumption | exact Zr _ | (repeat first | assumption | exact Zr _ | refine Zq ?_ Zp)) Zu ?_ | refine G.anyOne rfl Zw (by solve | exact Heap.none_le _ | assumption | exact Zr _ | (repeat first | assumption | exact Zr _ | refine Zq ?_ Zp)) Zu ?_ | refine G.anyTwo rfl Zw (by solve | exact Heap.none_le _ | assumption | exact Zr _ | (repeat first | assumption | exact Zr _ | refine Zq ?_ Zp)) Zu ?_ ?_ | refine G.anyEndX Zw ?_ | refine G.anyEnd Zw (by solve | exact Heap.none_le _ | assumption | exact Zr _ | (repeat first | assumption | exact Zr _ | refine Zq ?_ Zp)) Zu ?_) | (show G _ (.ops .seq _ (⟨some _, .call { callee := .value (.func 43), args := _, argTypes := _ }, _, _, _, none⟩ :: _) :: _) _ _ _; refine G.call callQsize rfl rfl (s1 _) Ze ?_; rintro _ h2 H2 ⟨rfl, rfl⟩ hle2) | (refine G.atMul ?_; refine G.arith rfl rfl rfl rfl rfl (by simp only [inR]; rw [hF]; omega) ?_; rw [hF]) | (refine G.atCode ?_; refine G.stopLoop ?_) | (refine G.atCode ?_; first | refine G.seq ?_ | refine G.region ?_ | refine G.block ?_ | refine G.skip ?_ | refine G.drawAuto mixedOk rfl Zw ?_ | refine G.drawAll slB Zw mixedOk Zw ?_ | refine G.anyIn mixedOk ?_ | refine G.exit rfl ?_ | refine G.ret ?_ | (refine G.cond rfl ?_ ?_ <;> intro hc <;> (try simp only [tests, reduceCtorEq] at hc) <;> (try exact Zf))) | refine G.endOps ?_ | refine G.endStill ?_ | refine G.endHeld ?_ | refine G.back ?_ | refine G.endBlk ?_ | (refine G.atAny ?_; first | refine G.anyAutoX slB rfl rfl Zw Zg Zd ?_ | refine G.anyOne rfl Zw Zg Zu ?_ | refine G.anyAuto slB rfl Zw Zg Zu ?_ | refine G.anyEndX Zw ?_ | refine G.anyEnd Zw Zg Zu ?_ | refine G.anyTwo rfl Zw Zg Zu ?_ ?_) | (refine G.atGd ?_; first | refine G.guardYes rfl rfl ?_ | refine G.guardNoS rfl rfl rfl ?_ | refine G.guardU rfl rfl rfl ?_ | (refine G.guardS rfl rfl rfl ?_ ?_ <;> intro hc <;> (try simp only [tests, reduceCtorEq] at hc) <;> (try exact Zf)) | refine G.guardNo rfl rfl ?_ (by rintro i ⟨⟩; rfl) | (refine G.guard rfl rfl ?_ ?_ (by rintro i ⟨⟩; rfl) <;> intro hc <;> (try simp only [tests, reduceCtorEq] at hc) <;> (try exact Zf))) | (refine G.atBin ?_; first | (refine G.atAdd ?_; first | refine G.arith rfl rfl rfl rfl rfl Zi ?_ | refine G.catStr rfl rfl rfl Zo ?_ | refine G.op rfl rfl ?_) | (refine G.atMul ?_; first | refine G.arith rfl rfl rfl rfl rfl Zi ?_ | refine G.op rfl rfl ?_) | refine G.op rfl rfl ?_ ) | refine G.op rfl rfl ?_ | (refine G.atLoad ?_; first | refine G.loadOwn1 rfl (tyy rfl) rfl rfl Za rfl rfl ?_ | refine G.loadOwnA rfl (tyy rfl) rfl rfl Za rfl rfl ?_ | refine G.loadImm1 rfl (tyy rfl) rfl rfl Zp rfl ?_ | refine G.loadImmA rfl (tyy rfl) rfl rfl Zp Zp rfl ?_ | refine G.loadRowS rfl (tyy rfl) Zp Za Zo rfl ?_ | (refine G.loadRowB rfl (tyy rfl) Zp Za Zo rfl ?_; intro _)) | (refine G.atFld ?_; first | refine G.fieldAddr rfl (tyy rfl) rfl rfl ?_ | refine G.fieldAddrP rfl (tyy rfl) rfl rfl ?_)           )
  refine G.go ?_
  refine G.loop (σ := Nat) (fun k => [(5, .int .i64 (2 + F + (J.used : Int) + (k : Int))), (4, .int .i64 k), (3, .int .i64 (2 + F)), (0, .pointer (some ⟨g, 0, none⟩))])
    (fun _ => [.blk g [.pointer (some ⟨r, 0, none⟩), .int .i64 J.gen, .int .i64 J.half, .int .i64 J.slot, .int .i64 J.used, .int .i64 J.n, .bool J.closed] 82, .blk r [lv, wv, .bool lim, .int .i64 most, .bool D.off, .int .i64 D.left, .int .u64 D.loss.keep, .int .i64 D.loss.torn, .int .i64 D.loss.pos, tv] 68, .row lv 9 1 (strsR D.lasts), .row wv 9 1 (strsR Ws), .row tv 91 3 T])
    (fun k _ => (k : Int) <= max 0 (min (z : Int) (rm - (2 + F)) - J.used)) (fun k => 8200 - k) 0 ⟨sint (by omega), rfl, rfl, rfl, trivial⟩ Zu (by omega) ?_
  rintro k h5 hle5 hk
  repeat' (first | (show G _ (.ops .seq _ (⟨some _, .call { callee := .value (.func 43), args := _, argTypes := _ }, _, _, _, none⟩ :: _) :: _) _ _ _; refine G.call callQsize rfl rfl (s1 _) Ze ?_; rintro _ h2 H2 ⟨rfl, rfl⟩ hle2) | (show G _ (.ops .seq _ (⟨some _, .call { callee := .value (.func 57), args := _, argTypes := _ }, _, _, _, none⟩ :: _) :: _) _ _ _; refine G.call callRRoom rfl rfl (s3 _) Ze ?_; rintro _ h3 H3 ⟨rfl, rfl⟩ hle3) | (refine G.atCode ?_; first | refine G.seq ?_ | refine G.region ?_ | refine G.block ?_ | refine G.skip ?_ | refine G.drawAuto mixedOk rfl Zw ?_ | refine G.drawAll slB Zw mixedOk Zw ?_ | refine G.anyIn mixedOk ?_ | refine G.exit rfl ?_ | refine G.ret ?_ | (refine G.cond rfl ?_ ?_ <;> intro hc <;> (try simp only [tests, reduceCtorEq] at hc) <;> (try exact Zf))) | refine G.endOps ?_ | refine G.endStill ?_ | refine G.endHeld ?_ | refine G.back ?_ | refine G.endBlk ?_ | (refine G.atAny ?_; first | refine G.anyAutoX slB rfl rfl Zw Zg Zd ?_ | refine G.anyOne rfl Zw Zg Zu ?_ | refine G.anyAuto slB rfl Zw Zg Zu ?_ | refine G.anyEndX Zw ?_ | refine G.anyEnd Zw Zg Zu ?_ | refine G.anyTwo rfl Zw Zg Zu ?_ ?_) | (refine G.atGd ?_; first | refine G.guardYes rfl rfl ?_ | refine G.guardNoS rfl rfl rfl ?_ | refine G.guardU rfl rfl rfl ?_ | (refine G.guardS rfl rfl rfl ?_ ?_ <;> intro hc <;> (try simp only [tests, reduceCtorEq] at hc) <;> (try exact Zf)) | refine G.guardNo rfl rfl ?_ (by rintro i ⟨⟩; rfl) | (refine G.guard rfl rfl ?_ ?_ (by rintro i ⟨⟩; rfl) <;> intro hc <;> (try simp only [tests, reduceCtorEq] at hc) <;> (try exact Zf))) | (refine G.atBin ?_; first | (refine G.atAdd ?_; first | refine G.arith rfl rfl rfl rfl rfl Zi ?_ | refine G.catStr rfl rfl rfl Zo ?_ | refine G.op rfl rfl ?_) | (refine G.atMul ?_; first | refine G.arith rfl rfl rfl rfl rfl Zi ?_ | refine G.op rfl rfl ?_) | refine G.op rfl rfl ?_ ) | refine G.op rfl rfl ?_ | (refine G.atLoad ?_; first | refine G.loadOwn1 rfl (tyy rfl) rfl rfl Za rfl rfl ?_ | refine G.loadOwnA rfl (tyy rfl) rfl rfl Za rfl rfl ?_ | refine G.loadImm1 rfl (tyy rfl) rfl rfl Zp rfl ?_ | refine G.loadImmA rfl (tyy rfl) rfl rfl Zp Zp rfl ?_ | refine G.loadRowS rfl (tyy rfl) Zp Za Zo rfl ?_ | (refine G.loadRowB rfl (tyy rfl) Zp Za Zo rfl ?_; intro _)) | (refine G.atFld ?_; first | refine G.fieldAddr rfl (tyy rfl) rfl rfl ?_ | refine G.fieldAddrP rfl (tyy rfl) rfl rfl ?_)           )
  all_goals first
    | (exfalso; omega)
    | exact G.again (k + 1) ⟨sint (by omega), sint (by simp), rfl, rfl, trivial⟩ Zu (by omega) (by solve | repeat first | assumption | exact Zr _ | refine Zq ?_ Zp) (by omega)
    | exact G.done1 rfl rfl _ Zu ⟨by congr 1; omega, rfl⟩
    | trace_state
set_option maxRecDepth 8000 in
set_option maxHeartbeats 1000000 in
theorem rj_Cells (gen q : Nat) (hg : gen < 4294967296) (hq : q < 4294967296) (b : B8) (hb : b.length <= 262144) (h : Heap) :
    Spec Tryz.prog 53 [.int .i64 gen, .int .i64 q, str b] h [] (fun u _ H' => ∃ A c, u = .slice A (cellsM gen q b).length c /\ H' = [.row (.slice A (cellsM gen q b).length c) 9 1 (strsR (cellsM gen q b))]) := by
  have hn := needM_pos hb
  have sN := ref06_Need b.length (by omega)
  rw [needI_nat] at sN
  have hnl : 110 * (needM b.length) <= b.length + 110 := by unfold needM; rw [if_neg (by omega)]; omega
  unfold cellsM
  have hsec := fun i (hi : i < needM b.length) => ref06_Sector ⟨gen, q, i, needM b.length, (b.drop (110 * i)).take 110⟩ ⟨hg, hq, by simp only; omega, by simp only; omega⟩ (by simp only [List.length_take]; omega)
  have hca : ∀ i, secC ⟨gen, q, i, needM b.length, (b.drop (110 * i)).take 110⟩ = cellAt gen q b i := fun i => rfl
  have hct := cells_take gen q b
  generalize needM b.length = N at *
  refine Spec.enter Tryz.func53 rfl rfl ?_; intro w0
  repeat' (first | (show G _ (.ops .seq _ (⟨some _, .call { callee := .value (.func 50), args := _, argTypes := _ }, _, _, _, none⟩ :: _) :: _) _ _ _; refine G.call callNeedR6 rfl rfl (sN _) Ze ?_; rintro _ h2 H2 ⟨rfl, rfl⟩ hle2) | (refine G.atCode ?_; refine G.stopLoop ?_) | (refine G.atCode ?_; first | refine G.seq ?_ | refine G.region ?_ | refine G.block ?_ | refine G.skip ?_ | refine G.exit rfl ?_ | refine G.ret ?_ | (refine G.cond rfl ?_ ?_ <;> intro hc <;> (try simp only [tests, reduceCtorEq] at hc) <;> (try exact Zf))) | refine G.endOps ?_ | refine G.endStill ?_ | refine G.endHeld ?_ | refine G.back ?_ | refine G.endBlk ?_ | (refine G.atBin ?_; first | (refine G.atAdd ?_; first | refine G.arith rfl rfl rfl rfl rfl Zi ?_ | refine G.catStr rfl rfl rfl Zo ?_ | refine G.op rfl rfl ?_) | (refine G.atMul ?_; first | refine G.arith rfl rfl rfl rfl rfl Zi ?_ | refine G.op rfl rfl ?_) | refine G.op rfl rfl ?_ ) | refine G.op rfl rfl ?_ | (refine G.atLen ?_; first | refine G.lenStr rfl (tyy rfl) rfl ?_ | refine G.lenSlice rfl (tyy rfl) rfl ?_ | refine G.lenRowB rfl (tyy rfl) Za rfl ?_ | refine G.lenRowS rfl (tyy rfl) Za rfl ?_ | refine G.lenRow rfl (tyy rfl) Za rfl ?_ | refine G.lenImmB rfl (tyy rfl) Zl rfl ?_ | refine G.lenImmI rfl (tyy rfl) Zl rfl ?_ | refine G.lenImmS rfl (tyy rfl) Zl rfl ?_ | refine G.lenImm rfl (tyy rfl) Zl rfl ?_) | (refine G.atBld ?_; refine G.build (tyy rfl) rfl rfl rfl ?_) | (refine G.atBsl ?_; refine G.buildSlice (tyy rfl) (tyy rfl) rfl rfl rfl rfl ?_; intro _) | (refine G.atApp ?_; first | (refine G.append1S rfl rfl (tyy rfl) (tyy rfl) rfl rfl Za Za rfl Zo ?_; intro _) | (refine G.appendImmS rfl rfl (tyy rfl) (tyy rfl) rfl rfl Za Zl rfl Zo ?_; intro _) | (refine G.append1B rfl rfl (tyy rfl) (tyy rfl) rfl rfl Za Za rfl Zo Zo ?_; intro _) | (refine G.appendStr rfl rfl (tyy rfl) (tyy rfl) (tyy rfl) rfl rfl Za rfl Zo ?_; intro _) | (refine G.append1 rfl rfl (tyy rfl) (tyy rfl) rfl rfl Za Za rfl rfl rfl Zo ?_; intro _; refine G.rowForm Take.hd ?_; rintro _ _ rfl)) | (refine G.atSlc ?_; first | refine G.dropStr rfl rfl (tyy rfl) rfl Zj Zo ?_ | refine G.takeStr rfl rfl (tyy rfl) rfl Zj Zo ?_ | refine G.sliceStr rfl rfl rfl (tyy rfl) rfl Zj Zj Zo rfl ?_))
  refine G.nilRow 9 1 ?_
  refine G.go ?_
  refine G.loop (σ := Nat × Option Addr × Nat) (fun x => [(9, .int .i64 x.1), (8, .int .i64 N), (7, .slice x.2.1 x.1 x.2.2), (2, str b), (1, .int .i64 q), (0, .int .i64 gen)])
    (fun x => [.row (.slice x.2.1 x.1 x.2.2) 9 1 (strsR ((List.range x.1).map (cellAt gen q b)))]) (fun x _ => x.1 <= N) (fun x => N - x.1) ⟨0, none, 0⟩ ⟨rfl, rfl, rfl, rfl, rfl, rfl, trivial⟩ Zu (Nat.zero_le _) ?_
  rintro ⟨i, A, c⟩ h3 hle3 hi
  simp only at hi
  refine G.norm (by (try dsimp only) <;> exact rfl) (by (try dsimp only) <;> exact rfl) ?_
  by_cases hlt : i < N
  . have hS := hsec i hlt
    rw [hca] at hS
    unfold Cl.valsI at hS
    dsimp only at hS
    have hc1 := hct i
    have hrl : ((List.range i).map (cellAt gen q b)).length = i := by simp
    have hmn : (b.drop (110 * (i : Int)).toNat).take ((min (b.length : Int) (110 * (i : Int) + 110)).toNat - (110 * (i : Int)).toNat) = (b.drop (110 * i)).take 110 := by
      rw [show (110 * (i : Int)).toNat = 110 * i by omega]
      have hd : (b.drop (110 * i)).length = b.length - 110 * i := List.length_drop
      rcases Nat.le_total (b.length) (110 * i + 110) with hh | hh
      . rw [List.take_of_length_le (by omega), List.take_of_length_le (by omega)]
      . congr 1; omega
    generalize cellAt gen q b i = C at *
    generalize (List.range i).map (cellAt gen q b) = L at *
    clear hsec hca hct sN
    repeat' (first | (refine G.minI rfl rfl rfl ?_) | (refine G.maxI rfl rfl rfl ?_) | (show G _ (.ops .seq _ (⟨some _, .call { callee := .value (.func 68), args := _, argTypes := _ }, _, _, _, none⟩ :: _) :: _) _ _ _; rw [hmn]; refine G.call callRSector rfl rfl (hS _) Ze ?_; rintro _ h4 H4 ⟨rfl, rfl⟩ hle4) | (refine G.atApp ?_; refine G.append1S rfl rfl (tyy rfl) (tyy rfl) rfl rfl Za Za rfl Zo ?_; intro _; refine G.rowForm Take.hd ?_; rintro _ _ rfl) | (refine G.atCode ?_; first | refine G.seq ?_ | refine G.region ?_ | refine G.block ?_ | refine G.skip ?_ | refine G.exit rfl ?_ | refine G.ret ?_ | (refine G.cond rfl ?_ ?_ <;> intro hc <;> (try simp only [tests, reduceCtorEq] at hc) <;> (try exact Zf))) | refine G.endOps ?_ | refine G.endStill ?_ | refine G.endHeld ?_ | refine G.back ?_ | refine G.endBlk ?_ | (refine G.atBin ?_; first | (refine G.atAdd ?_; first | refine G.arith rfl rfl rfl rfl rfl Zi ?_ | refine G.catStr rfl rfl rfl Zo ?_ | refine G.op rfl rfl ?_) | (refine G.atMul ?_; first | refine G.arith rfl rfl rfl rfl rfl Zi ?_ | refine G.op rfl rfl ?_) | refine G.op rfl rfl ?_ ) | refine G.op rfl rfl ?_ | (refine G.atLen ?_; first | refine G.lenStr rfl (tyy rfl) rfl ?_ | refine G.lenSlice rfl (tyy rfl) rfl ?_ | refine G.lenRowB rfl (tyy rfl) Za rfl ?_ | refine G.lenRowS rfl (tyy rfl) Za rfl ?_ | refine G.lenRow rfl (tyy rfl) Za rfl ?_ | refine G.lenImmB rfl (tyy rfl) Zl rfl ?_ | refine G.lenImmI rfl (tyy rfl) Zl rfl ?_ | refine G.lenImmS rfl (tyy rfl) Zl rfl ?_ | refine G.lenImm rfl (tyy rfl) Zl rfl ?_) | (refine G.atBld ?_; refine G.build (tyy rfl) rfl rfl rfl ?_) | (refine G.atBsl ?_; refine G.buildSlice (tyy rfl) (tyy rfl) rfl rfl rfl rfl ?_; intro _) | (refine G.atApp ?_; first | (refine G.append1S rfl rfl (tyy rfl) (tyy rfl) rfl rfl Za Za rfl Zo ?_; intro _) | (refine G.appendImmS rfl rfl (tyy rfl) (tyy rfl) rfl rfl Za Zl rfl Zo ?_; intro _) | (refine G.append1B rfl rfl (tyy rfl) (tyy rfl) rfl rfl Za Za rfl Zo Zo ?_; intro _) | (refine G.appendStr rfl rfl (tyy rfl) (tyy rfl) (tyy rfl) rfl rfl Za rfl Zo ?_; intro _) | (refine G.append1 rfl rfl (tyy rfl) (tyy rfl) rfl rfl Za Za rfl rfl rfl Zo ?_; intro _; refine G.rowForm Take.hd ?_; rintro _ _ rfl)) | (refine G.atSlc ?_; first | refine G.dropStr rfl rfl (tyy rfl) rfl Zj Zo ?_ | refine G.takeStr rfl rfl (tyy rfl) rfl Zj Zo ?_ | refine G.sliceStr rfl rfl rfl (tyy rfl) rfl Zj Zj Zo rfl ?_))
    all_goals first | (exfalso; omega) | skip
    have hll : (strsR (L ++ [C])).length = i + 1 := by rw [strsR_length, List.length_append, hrl]; rfl
    rw [hll, hc1]
    exact G.again ⟨i + 1, _, _⟩ ⟨sint (by simp), rfl, rfl, rfl, rfl, rfl, trivial⟩ Zu (by simp only; omega) (by solve | repeat first | assumption | exact Zr _ | refine Zq ?_ Zp) (by simp only; omega)
  . obtain rfl : i = N := by omega
    have hrl : ((List.range i).map (cellAt gen q b)).length = i := by simp
    rw [hrl]
    repeat' (first | (refine G.atCode ?_; first | refine G.seq ?_ | refine G.region ?_ | refine G.block ?_ | refine G.skip ?_ | refine G.exit rfl ?_ | refine G.ret ?_ | (refine G.cond rfl ?_ ?_ <;> intro hc <;> (try simp only [tests, reduceCtorEq] at hc) <;> (try exact Zf))) | refine G.endOps ?_ | refine G.endStill ?_ | refine G.endHeld ?_ | refine G.back ?_ | refine G.endBlk ?_ | (refine G.atBin ?_; first | (refine G.atAdd ?_; first | refine G.arith rfl rfl rfl rfl rfl Zi ?_ | refine G.catStr rfl rfl rfl Zo ?_ | refine G.op rfl rfl ?_) | (refine G.atMul ?_; first | refine G.arith rfl rfl rfl rfl rfl Zi ?_ | refine G.op rfl rfl ?_) | refine G.op rfl rfl ?_ ) | refine G.op rfl rfl ?_ | (refine G.atLen ?_; first | refine G.lenStr rfl (tyy rfl) rfl ?_ | refine G.lenSlice rfl (tyy rfl) rfl ?_ | refine G.lenRowB rfl (tyy rfl) Za rfl ?_ | refine G.lenRowS rfl (tyy rfl) Za rfl ?_ | refine G.lenRow rfl (tyy rfl) Za rfl ?_ | refine G.lenImmB rfl (tyy rfl) Zl rfl ?_ | refine G.lenImmI rfl (tyy rfl) Zl rfl ?_ | refine G.lenImmS rfl (tyy rfl) Zl rfl ?_ | refine G.lenImm rfl (tyy rfl) Zl rfl ?_) | (refine G.atBld ?_; refine G.build (tyy rfl) rfl rfl rfl ?_) | (refine G.atBsl ?_; refine G.buildSlice (tyy rfl) (tyy rfl) rfl rfl rfl rfl ?_; intro _) | (refine G.atApp ?_; first | (refine G.append1S rfl rfl (tyy rfl) (tyy rfl) rfl rfl Za Za rfl Zo ?_; intro _) | (refine G.appendImmS rfl rfl (tyy rfl) (tyy rfl) rfl rfl Za Zl rfl Zo ?_; intro _) | (refine G.append1B rfl rfl (tyy rfl) (tyy rfl) rfl rfl Za Za rfl Zo Zo ?_; intro _) | (refine G.appendStr rfl rfl (tyy rfl) (tyy rfl) (tyy rfl) rfl rfl Za rfl Zo ?_; intro _) | (refine G.append1 rfl rfl (tyy rfl) (tyy rfl) rfl rfl Za Za rfl rfl rfl Zo ?_; intro _; refine G.rowForm Take.hd ?_; rintro _ _ rfl)) | (refine G.atSlc ?_; first | refine G.dropStr rfl rfl (tyy rfl) rfl Zj Zo ?_ | refine G.takeStr rfl rfl (tyy rfl) rfl Zj Zo ?_ | refine G.sliceStr rfl rfl rfl (tyy rfl) rfl Zj Zj Zo rfl ?_))
    all_goals first | (exfalso; omega) | exact G.done1 rfl rfl _ Zu ⟨A, c, rfl, rfl⟩
def layT : Dk -> Nat -> List B8 -> List Tr
  | D, _, [] => flushT D
  | D, a, s :: l => if (writeM D (a : Nat) s).2 ≠ 0 then writeT D (a : Nat) s else layT (writeM D (a : Nat) s).1 (a + 1) l
theorem writeT_ok {D : Dk} {i : Int} {s : B8} (h : (writeM D i s).2 = 0) : writeT D i s = [] := by
  unfold writeM at h
  unfold writeT
  split
  . rfl
  . rename_i h1
    rw [if_neg h1] at h
    split
    . rfl
    . rename_i h2
      rw [if_neg h2] at h
      split
      . rfl
      . rename_i h3
        rw [if_neg h3] at h
        unfold cutT
        split
        . rename_i h4
          rw [if_pos h4] at h
          cases h
        . rfl
theorem cutT_len {D : Dk} (h : D.lasts.length <= 8192) : (cutT D).length <= 8192 := by
  unfold cutT
  split
  . have := loseTo_len (cutM D).1 (cutM D).1.loss (cutM D).1.lasts.length
    have e : (cutM D).1.lasts.length = D.lasts.length := (shp_cut D).2
    unfold loseT
    omega
  . exact Nat.zero_le _
theorem writeT_len {D : Dk} (h : D.lasts.length <= 8192) (i : Int) (s : B8) : (writeT D i s).length <= 8192 := by
  unfold writeT
  split
  . exact Nat.zero_le _
  . split
    . exact Nat.zero_le _
    . split
      . exact Nat.zero_le _
      . exact cutT_len (D := putD D i s) h
theorem layT_len : ∀ (ss : List B8) {D : Dk} (a : Nat), D.lasts.length <= 8192 -> (layT D a ss).length <= 8192
  | [], D, a, h => by
    rw [layT]; unfold flushT; split
    . exact Nat.zero_le _
    . exact cutT_len h
  | s :: ss, D, a, h => by
    rw [layT]; split
    . exact writeT_len h _ _
    . exact layT_len ss (a + 1) (by rw [(write_shp D (a : Nat) s).2]; exact h)
theorem layT_cons (D : Dk) (a : Nat) (s : B8) (ss : List B8) : layT D a (s :: ss) = if (writeM D (a : Nat) s).2 ≠ 0 then writeT D (a : Nat) s else layT (writeM D (a : Nat) s).1 (a + 1) ss := by rw [layT]
set_option maxRecDepth 8000 in
set_option maxHeartbeats 1000000 in
theorem rj_write (g r : Nat) (lv wv tv : Value) (lim : Bool) (most : Int) (T : List (List Value)) (hT : T.length <= 900000000) (J : Jn) (D : Dk) (hD : D.Ok) (hlm : LimR lim most D) (a : Nat) (ha : a <= 100000) (ss : List B8) (hss : ss.length <= 100000000) (sv : Value) (h : Heap) (hv : HSl h sv 1 (strsR ss)) :
    Spec Tryz.prog 52 [.pointer (some ⟨g, 0, none⟩), .int .i64 a, sv] h (rjC g r lv wv tv lim most T J D)
      (fun u _ H' => ∃ tv', u = .int .i64 (layJ D a ss).2 /\ H' = rjC g r lv wv tv' lim most (T ++ trR (layT D a ss)) { J with closed := decide ((layJ D a ss).2 ≠ 0) } (layJ D a ss).1) := by
  unfold rjC rjB
  refine Spec.enter Tryz.func52 rfl rfl ?_; intro w0
  repeat' (first | (refine G.atCode ?_; refine G.stopLoop ?_) | (refine G.atCode ?_; first | refine G.seq ?_ | refine G.region ?_ | refine G.block ?_ | refine G.skip ?_ | refine G.exit rfl ?_ | refine G.ret ?_ | (refine G.cond rfl ?_ ?_ <;> intro hc <;> (try simp only [tests, reduceCtorEq] at hc) <;> (try exact Zf))) | refine G.endOps ?_ | refine G.endStill ?_ | refine G.endHeld ?_ | refine G.back ?_ | refine G.endBlk ?_ | (refine G.atBin ?_; first | (refine G.atAdd ?_; first | refine G.arith rfl rfl rfl rfl rfl Zi ?_ | refine G.catStr rfl rfl rfl Zo ?_ | refine G.op rfl rfl ?_) | (refine G.atNeq ?_; first | refine G.op rfl rfl ?_ | refine G.neStr0 rfl rfl rfl ?_ | refine G.neStr rfl rfl rfl ?_ | refine G.nePtr rfl rfl (tyy rfl) rfl ?_ | refine G.neBool rfl rfl (tyy rfl) rfl ?_) | refine G.op rfl rfl ?_ ) | refine G.op rfl rfl ?_ | (refine G.atLen ?_; first | refine G.lenStr rfl (tyy rfl) rfl ?_ | refine G.lenSlice rfl (tyy rfl) rfl ?_ | refine G.lenRowB rfl (tyy rfl) Za rfl ?_ | refine G.lenRowS rfl (tyy rfl) Za rfl ?_ | refine G.lenRow rfl (tyy rfl) Za rfl ?_ | refine G.lenImmB rfl (tyy rfl) Zl rfl ?_ | refine G.lenImmI rfl (tyy rfl) Zl rfl ?_ | refine G.lenImmS rfl (tyy rfl) Zl rfl ?_ | refine G.lenImm rfl (tyy rfl) Zl rfl ?_) | (refine G.atLoad ?_; first | refine G.loadOwn1 rfl (tyy rfl) rfl rfl Za rfl rfl ?_ | refine G.loadOwnA rfl (tyy rfl) rfl rfl Za rfl rfl ?_ | refine G.loadImm1 rfl (tyy rfl) rfl rfl Zp rfl ?_ | refine G.loadImmA rfl (tyy rfl) rfl rfl Zp Zp rfl ?_ | refine G.loadRowS rfl (tyy rfl) Zp Za Zo rfl ?_ | (refine G.loadRowB rfl (tyy rfl) Zp Za Zo rfl ?_; intro _)) | (refine G.atFld ?_; first | refine G.fieldAddr rfl (tyy rfl) rfl rfl ?_ | refine G.fieldAddrP rfl (tyy rfl) rfl rfl ?_) | (refine G.atSto ?_; refine G.storeOwn rfl rfl (tyy rfl) Za rfl rfl rfl rfl ?_) | (refine G.atIdx ?_; first | (refine G.idxImmI rfl rfl (tyy rfl) (tyy rfl) Zl Zp Zj rfl Zo ?_; intro _ _ _) | (refine G.idxImmS rfl rfl (tyy rfl) (tyy rfl) Zl Zj rfl Zo ?_; intro _ _) | (refine G.idxImmB rfl rfl (tyy rfl) (tyy rfl) Zl Zj rfl Zo ?_; intro _ _ _) | (refine G.idxRow' rfl rfl (tyy rfl) (tyy rfl) Za Zj rfl Zo ?_; intro _ _) | (refine G.idxImmN rfl rfl (tyy rfl) (tyy rfl) Zl Zj rfl Zo ?_; intro _ _ _ _ _))  )
  refine G.go ?_
  refine G.loop (σ := Nat × Dk × Value) (fun x => [(13, .int .i64 x.1), (12, .int .i64 ss.length), (11, sv), (1, .int .i64 a), (0, .pointer (some ⟨g, 0, none⟩))])
    (fun x => .blk g [.pointer (some ⟨r, 0, none⟩), .int .i64 J.gen, .int .i64 J.half, .int .i64 J.slot, .int .i64 J.used, .int .i64 J.n, .bool J.closed] 82 :: rkD r lv wv x.2.2 lim most T x.2.1)
    (fun x _ => x.1 <= ss.length /\ x.2.1.Ok /\ LimR lim most x.2.1 /\ layJ D a ss = layJ x.2.1 (a + x.1) (ss.drop x.1) /\ layT D a ss = layT x.2.1 (a + x.1) (ss.drop x.1)) (fun x => ss.length - x.1) ⟨0, D, tv⟩ ⟨rfl, rfl, rfl, rfl, rfl, trivial⟩ Zu ⟨Nat.zero_le _, hD, hlm, rfl, rfl⟩ ?_
  rintro ⟨i, E, tv⟩ h1 hle1 ⟨hi, hE, hX, hl, ht⟩
  simp only at hi hE hX hl ht
  have hl0 := hl
  have ht0 := ht
  refine G.norm (by (try dsimp only) <;> exact rfl) (by (try dsimp only) <;> exact rfl) ?_
  rw [hl, ht]
  have hv1 : HSl h1 sv 1 (strsR ss) := hv.mono (by solve | repeat first | assumption | exact Zr _ | refine Zq ?_ Zp)
  by_cases hlt : i < ss.length
  . rw [strAt_dropc hlt, layJ_cons, layT_cons]
    have hw := fun h => reft_Write r lv wv tv lim most T (by omega) E hE hX ((a + i : Nat) : Int) (strAt ss i) h
    have hwo := write_ok hE ((a + i : Nat) : Int) (strAt ss i)
    have hwl := (write_shp E ((a + i : Nat) : Int) (strAt ss i)).lim hX
    have hwt := writeT_ok (D := E) (i := ((a + i : Nat) : Int)) (s := strAt ss i)
    rw [strAt_dropc hlt, layJ_cons] at hl
    rw [strAt_dropc hlt, layT_cons] at ht
    have hci : ((a + i : Nat) : Int) = (a : Int) + (i : Int) := by omega
    generalize hwm : writeM E ((a + i : Nat) : Int) (strAt ss i) = w at *
    obtain ⟨E2, e⟩ := w
    simp only at hw hwo hwl hwt
    generalize writeT E ((a + i : Nat) : Int) (strAt ss i) = WT at *
    rw [hci] at hw
    by_cases he : e = 0
    . subst he
      rw [hwt rfl] at hw
      rw [if_neg (by simp), if_neg (by simp)]
      rw [if_neg (by simp)] at hl ht
      simp only at hl ht ⊢
      unfold rkD
      generalize waitL E = Ws at *
      generalize hW2 : waitL E2 = Ws2 at *
      unfold rkC at hw ⊢
      repeat' (first | (refine G.atIdx ?_; refine G.idxImmS rfl rfl (tyy rfl) (tyy rfl) hv1 Zj rfl (by omega) ?_; intro _ _) | (show G _ (.ops .seq _ (⟨some _, .call { callee := .value (.func 72), args := _, argTypes := _ }, _, _, _, none⟩ :: _) :: _) _ _ _; refine G.call callRWrite rfl rfl (hw _) Ze ?_; rintro _ h2 H2 ⟨tv2, T2, hT2, rfl, rfl⟩ hle2) | (refine G.atCode ?_; first | refine G.seq ?_ | refine G.region ?_ | refine G.block ?_ | refine G.skip ?_ | refine G.exit rfl ?_ | refine G.ret ?_ | (refine G.cond rfl ?_ ?_ <;> intro hc <;> (try simp only [tests, reduceCtorEq] at hc) <;> (try exact Zf))) | refine G.endOps ?_ | refine G.endStill ?_ | refine G.endHeld ?_ | refine G.back ?_ | refine G.endBlk ?_ | (refine G.atBin ?_; first | (refine G.atAdd ?_; first | refine G.arith rfl rfl rfl rfl rfl Zi ?_ | refine G.catStr rfl rfl rfl Zo ?_ | refine G.op rfl rfl ?_) | (refine G.atNeq ?_; first | refine G.op rfl rfl ?_ | refine G.neStr0 rfl rfl rfl ?_ | refine G.neStr rfl rfl rfl ?_ | refine G.nePtr rfl rfl (tyy rfl) rfl ?_ | refine G.neBool rfl rfl (tyy rfl) rfl ?_) | refine G.op rfl rfl ?_ ) | refine G.op rfl rfl ?_ | (refine G.atLen ?_; first | refine G.lenStr rfl (tyy rfl) rfl ?_ | refine G.lenSlice rfl (tyy rfl) rfl ?_ | refine G.lenRowB rfl (tyy rfl) Za rfl ?_ | refine G.lenRowS rfl (tyy rfl) Za rfl ?_ | refine G.lenRow rfl (tyy rfl) Za rfl ?_ | refine G.lenImmB rfl (tyy rfl) Zl rfl ?_ | refine G.lenImmI rfl (tyy rfl) Zl rfl ?_ | refine G.lenImmS rfl (tyy rfl) Zl rfl ?_ | refine G.lenImm rfl (tyy rfl) Zl rfl ?_) | (refine G.atLoad ?_; first | refine G.loadOwn1 rfl (tyy rfl) rfl rfl Za rfl rfl ?_ | refine G.loadOwnA rfl (tyy rfl) rfl rfl Za rfl rfl ?_ | refine G.loadImm1 rfl (tyy rfl) rfl rfl Zp rfl ?_ | refine G.loadImmA rfl (tyy rfl) rfl rfl Zp Zp rfl ?_ | refine G.loadRowS rfl (tyy rfl) Zp Za Zo rfl ?_ | (refine G.loadRowB rfl (tyy rfl) Zp Za Zo rfl ?_; intro _)) | (refine G.atFld ?_; first | refine G.fieldAddr rfl (tyy rfl) rfl rfl ?_ | refine G.fieldAddrP rfl (tyy rfl) rfl rfl ?_) | (refine G.atSto ?_; refine G.storeOwn rfl rfl (tyy rfl) Za rfl rfl rfl rfl ?_) | (refine G.atIdx ?_; first | (refine G.idxImmI rfl rfl (tyy rfl) (tyy rfl) Zl Zp Zj rfl Zo ?_; intro _ _ _) | (refine G.idxImmS rfl rfl (tyy rfl) (tyy rfl) Zl Zj rfl Zo ?_; intro _ _) | (refine G.idxImmB rfl rfl (tyy rfl) (tyy rfl) Zl Zj rfl Zo ?_; intro _ _ _) | (refine G.idxRow' rfl rfl (tyy rfl) (tyy rfl) Za Zj rfl Zo ?_; intro _ _) | (refine G.idxImmN rfl rfl (tyy rfl) (tyy rfl) Zl Zj rfl Zo ?_; intro _ _ _ _ _))  )
      all_goals rw [<- trR_nil] at hT2
      all_goals subst hT2
      all_goals subst hW2
      all_goals first | (exfalso; omega) | exact G.again ⟨i + 1, E2, tv2⟩ ⟨sint (by simp), rfl, rfl, rfl, rfl, trivial⟩ Zu ⟨by simp only; omega, hwo, hwl, rfl, rfl⟩ (by solve | repeat first | assumption | exact Zr _ | refine Zq ?_ Zp) (by simp only; omega)
    . rw [if_pos (by simpa using he), if_pos (by simpa using he)]
      unfold rkD
      generalize waitL E = Ws at *
      generalize waitL (E2, e).1 = Ws2 at *
      generalize waitL E2 = Ws2 at *
      unfold rkC at hw ⊢
      repeat' (first | (refine G.atIdx ?_; refine G.idxImmS rfl rfl (tyy rfl) (tyy rfl) hv1 Zj rfl (by omega) ?_; intro _ _) | (show G _ (.ops .seq _ (⟨some _, .call { callee := .value (.func 72), args := _, argTypes := _ }, _, _, _, none⟩ :: _) :: _) _ _ _; refine G.call callRWrite rfl rfl (hw _) Ze ?_; rintro _ h2 H2 ⟨tv2, T2, rfl, rfl, rfl⟩ hle2) | (refine G.atCode ?_; first | refine G.seq ?_ | refine G.region ?_ | refine G.block ?_ | refine G.skip ?_ | refine G.exit rfl ?_ | refine G.ret ?_ | (refine G.cond rfl ?_ ?_ <;> intro hc <;> (try simp only [tests, reduceCtorEq] at hc) <;> (try exact Zf))) | refine G.endOps ?_ | refine G.endStill ?_ | refine G.endHeld ?_ | refine G.back ?_ | refine G.endBlk ?_ | (refine G.atBin ?_; first | (refine G.atAdd ?_; first | refine G.arith rfl rfl rfl rfl rfl Zi ?_ | refine G.catStr rfl rfl rfl Zo ?_ | refine G.op rfl rfl ?_) | (refine G.atNeq ?_; first | refine G.op rfl rfl ?_ | refine G.neStr0 rfl rfl rfl ?_ | refine G.neStr rfl rfl rfl ?_ | refine G.nePtr rfl rfl (tyy rfl) rfl ?_ | refine G.neBool rfl rfl (tyy rfl) rfl ?_) | refine G.op rfl rfl ?_ ) | refine G.op rfl rfl ?_ | (refine G.atLen ?_; first | refine G.lenStr rfl (tyy rfl) rfl ?_ | refine G.lenSlice rfl (tyy rfl) rfl ?_ | refine G.lenRowB rfl (tyy rfl) Za rfl ?_ | refine G.lenRowS rfl (tyy rfl) Za rfl ?_ | refine G.lenRow rfl (tyy rfl) Za rfl ?_ | refine G.lenImmB rfl (tyy rfl) Zl rfl ?_ | refine G.lenImmI rfl (tyy rfl) Zl rfl ?_ | refine G.lenImmS rfl (tyy rfl) Zl rfl ?_ | refine G.lenImm rfl (tyy rfl) Zl rfl ?_) | (refine G.atLoad ?_; first | refine G.loadOwn1 rfl (tyy rfl) rfl rfl Za rfl rfl ?_ | refine G.loadOwnA rfl (tyy rfl) rfl rfl Za rfl rfl ?_ | refine G.loadImm1 rfl (tyy rfl) rfl rfl Zp rfl ?_ | refine G.loadImmA rfl (tyy rfl) rfl rfl Zp Zp rfl ?_ | refine G.loadRowS rfl (tyy rfl) Zp Za Zo rfl ?_ | (refine G.loadRowB rfl (tyy rfl) Zp Za Zo rfl ?_; intro _)) | (refine G.atFld ?_; first | refine G.fieldAddr rfl (tyy rfl) rfl rfl ?_ | refine G.fieldAddrP rfl (tyy rfl) rfl rfl ?_) | (refine G.atSto ?_; refine G.storeOwn rfl rfl (tyy rfl) Za rfl rfl rfl rfl ?_) | (refine G.atIdx ?_; first | (refine G.idxImmI rfl rfl (tyy rfl) (tyy rfl) Zl Zp Zj rfl Zo ?_; intro _ _ _) | (refine G.idxImmS rfl rfl (tyy rfl) (tyy rfl) Zl Zj rfl Zo ?_; intro _ _) | (refine G.idxImmB rfl rfl (tyy rfl) (tyy rfl) Zl Zj rfl Zo ?_; intro _ _ _) | (refine G.idxRow' rfl rfl (tyy rfl) (tyy rfl) Za Zj rfl Zo ?_; intro _ _) | (refine G.idxImmN rfl rfl (tyy rfl) (tyy rfl) Zl Zj rfl Zo ?_; intro _ _ _ _ _))  )
      all_goals first | (exfalso; omega) | (rw [decide_eq_true (show e ≠ 0 from he)]; exact G.done1 rfl rfl _ Zu ⟨tv2, rfl, rfl⟩)
  . obtain rfl : i = ss.length := by omega
    have hf := fun h => reft_Flush r lv wv tv lim most T (by omega) E hE h
    rw [List.drop_length, layJ, layT]
    generalize flushM E = w at *
    generalize flushT E = FT at *
    obtain ⟨E2, e⟩ := w
    simp only [ne_eq, decide_not]
    dsimp only at hf ⊢
    unfold rkD
    generalize waitL E = Ws at *
    generalize waitL E2 = Ws2 at *
    unfold rkC at hf ⊢
    repeat' (first | (show G _ (.ops .seq _ (⟨some _, .call { callee := .value (.func 73), args := _, argTypes := _ }, _, _, _, none⟩ :: _) :: _) _ _ _; refine G.call callRFlush rfl rfl (hf _) Ze ?_; rintro _ h2 H2 ⟨tv2, T2, rfl, rfl, rfl⟩ hle2) | (refine G.atCode ?_; first | refine G.seq ?_ | refine G.region ?_ | refine G.block ?_ | refine G.skip ?_ | refine G.exit rfl ?_ | refine G.ret ?_ | (refine G.cond rfl ?_ ?_ <;> intro hc <;> (try simp only [tests, reduceCtorEq] at hc) <;> (try exact Zf))) | refine G.endOps ?_ | refine G.endStill ?_ | refine G.endHeld ?_ | refine G.back ?_ | refine G.endBlk ?_ | (refine G.atBin ?_; first | (refine G.atAdd ?_; first | refine G.arith rfl rfl rfl rfl rfl Zi ?_ | refine G.catStr rfl rfl rfl Zo ?_ | refine G.op rfl rfl ?_) | (refine G.atNeq ?_; first | refine G.op rfl rfl ?_ | refine G.neStr0 rfl rfl rfl ?_ | refine G.neStr rfl rfl rfl ?_ | refine G.nePtr rfl rfl (tyy rfl) rfl ?_ | refine G.neBool rfl rfl (tyy rfl) rfl ?_) | refine G.op rfl rfl ?_ ) | refine G.op rfl rfl ?_ | (refine G.atLen ?_; first | refine G.lenStr rfl (tyy rfl) rfl ?_ | refine G.lenSlice rfl (tyy rfl) rfl ?_ | refine G.lenRowB rfl (tyy rfl) Za rfl ?_ | refine G.lenRowS rfl (tyy rfl) Za rfl ?_ | refine G.lenRow rfl (tyy rfl) Za rfl ?_ | refine G.lenImmB rfl (tyy rfl) Zl rfl ?_ | refine G.lenImmI rfl (tyy rfl) Zl rfl ?_ | refine G.lenImmS rfl (tyy rfl) Zl rfl ?_ | refine G.lenImm rfl (tyy rfl) Zl rfl ?_) | (refine G.atLoad ?_; first | refine G.loadOwn1 rfl (tyy rfl) rfl rfl Za rfl rfl ?_ | refine G.loadOwnA rfl (tyy rfl) rfl rfl Za rfl rfl ?_ | refine G.loadImm1 rfl (tyy rfl) rfl rfl Zp rfl ?_ | refine G.loadImmA rfl (tyy rfl) rfl rfl Zp Zp rfl ?_ | refine G.loadRowS rfl (tyy rfl) Zp Za Zo rfl ?_ | (refine G.loadRowB rfl (tyy rfl) Zp Za Zo rfl ?_; intro _)) | (refine G.atFld ?_; first | refine G.fieldAddr rfl (tyy rfl) rfl rfl ?_ | refine G.fieldAddrP rfl (tyy rfl) rfl rfl ?_) | (refine G.atSto ?_; refine G.storeOwn rfl rfl (tyy rfl) Za rfl rfl rfl rfl ?_) | (refine G.atIdx ?_; first | (refine G.idxImmI rfl rfl (tyy rfl) (tyy rfl) Zl Zp Zj rfl Zo ?_; intro _ _ _) | (refine G.idxImmS rfl rfl (tyy rfl) (tyy rfl) Zl Zj rfl Zo ?_; intro _ _) | (refine G.idxImmB rfl rfl (tyy rfl) (tyy rfl) Zl Zj rfl Zo ?_; intro _ _ _) | (refine G.idxRow' rfl rfl (tyy rfl) (tyy rfl) Za Zj rfl Zo ?_; intro _ _) | (refine G.idxImmN rfl rfl (tyy rfl) (tyy rfl) Zl Zj rfl Zo ?_; intro _ _ _ _ _))  )
    all_goals first | (exfalso; omega) | exact G.done1 rfl rfl _ Zu ⟨tv2, rfl, rfl⟩
end Go.Proofs.YtmbpjgjajedonaaGreatDoor
