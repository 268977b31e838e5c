/- The document's disk, over the same model: what it is in memory; the functions that ask and set. -/
import Derived.Test.YtmbpjgjajedonaaGreatDoorDkG
namespace Go.Proofs.YtmbpjgjajedonaaGreatDoor
set_option linter.all false
set_option maxRecDepth 4000
open Go.RowKit

theorem callRRoom : Callable Tryz.prog 57 := ⟨_, Tryz.func57, by kernel_rfl, rfl⟩
theorem callRRead : Callable Tryz.prog 44 := ⟨_, Tryz.func44, by kernel_rfl, rfl⟩
theorem callRFails : Callable Tryz.prog 91 := ⟨_, Tryz.func91, by kernel_rfl, rfl⟩
theorem callRWrite : Callable Tryz.prog 72 := ⟨_, Tryz.func72, by kernel_rfl, rfl⟩
theorem callRFlush : Callable Tryz.prog 73 := ⟨_, Tryz.func73, by kernel_rfl, rfl⟩
theorem callRLose : Callable Tryz.prog 60 := ⟨_, Tryz.func60, by kernel_rfl, rfl⟩
theorem callRCrash : Callable Tryz.prog 24 := ⟨_, Tryz.func24, by kernel_rfl, rfl⟩
theorem callRCut : Callable Tryz.prog 10 := ⟨_, Tryz.func10, by kernel_rfl, rfl⟩
theorem callROn : Callable Tryz.prog 19 := ⟨_, Tryz.func19, by kernel_rfl, rfl⟩
theorem callRNewD : Callable Tryz.prog 8 := ⟨_, Tryz.func8, by kernel_rfl, rfl⟩

def waitAt (W : Wl) (i : Nat) : List UInt8 := (wGet W (i : Nat)).getD []
def waitL (D : Dk) : List (List UInt8) := (List.range D.lasts.length).map (waitAt D.W)
theorem waitL_len (D : Dk) : (waitL D).length = D.lasts.length := by simp [waitL]
theorem waitL_at (D : Dk) {i : Nat} (h : i < D.lasts.length) : strAt (waitL D) i = waitAt D.W i := by unfold strAt waitL; simp [h]
theorem waitAt_nil {D : Dk} (hD : D.Ok) (i : Nat) : (waitAt D.W i).length = 0 ↔ wGet D.W (i : Nat) = none := by
  unfold waitAt
  cases hw : wGet D.W (i : Nat) with
  | none => simp
  | some s =>
    have := wGet_len hD.w hw
    simp only [Option.getD_some]
    constructor
    . intro h; omega
    . intro h; cases h
def rkC (r : Nat) (lv wv tv : Value) (lim : Bool) (most : Int) (T : List (List Value)) (D : Dk) (L Ws : List (List UInt8)) : List Chunk :=
  [.blk r [lv, wv, .bool lim, .int .i64 most, .bool D.off, .int .i64 D.left, .int .u64 D.loss.keep, .int .i64 D.loss.torn, .int .i64 D.loss.pos, tv] 68, .row lv 9 1 (strsR L), .row wv 9 1 (strsR Ws), .row tv 91 3 T]
def LimR (lim : Bool) (most : Int) (D : Dk) : Prop := (lim = true /\ most = D.limit) \/ (lim = false /\ D.limit = D.lasts.length)

theorem refd_Room (r : Nat) (lv wv tv : Value) (lim : Bool) (most : Int) (T : List (List Value)) (D : Dk) (hlim : LimR lim most D) (Ws : List (List UInt8)) (h : Heap) :
    Spec Tryz.prog 57 [.pointer (some ⟨r, 0, none⟩)] h (rkC r lv wv tv lim most T D D.lasts Ws) (fun u _ H' => u = .int .i64 (roomM D) /\ H' = rkC r lv wv tv lim most T D D.lasts Ws) := by
  unfold rkC
  refine Spec.enter Tryz.func57 rfl rfl ?_; intro w0
  rcases hlim with ⟨rfl, rfl⟩ | ⟨rfl, hl⟩
  . repeat' (first | (refine G.atCode ?_; first | refine G.seq ?_ | refine G.region ?_ | refine G.block ?_ | refine G.skip ?_ | refine G.exit rfl ?_ | refine G.ret ?_ | (refine G.cond rfl ?_ ?_ <;> intro hc <;> (try simp only [tests, reduceCtorEq] at hc) <;> (try exact Zf))) | refine G.endOps ?_ | refine G.endStill ?_ | refine G.endHeld ?_ | refine G.back ?_ | refine G.endBlk ?_ | (refine G.atGd ?_; first | refine G.guardYes rfl rfl ?_ | refine G.guardNoS rfl rfl rfl ?_ | refine G.guardU rfl rfl rfl ?_ | (refine G.guardS rfl rfl rfl ?_ ?_ <;> intro hc <;> (try simp only [tests, reduceCtorEq] at hc) <;> (try exact Zf)) | refine G.guardNo rfl rfl ?_ (by rintro i ⟨⟩; rfl) | (refine G.guard rfl rfl ?_ ?_ (by rintro i ⟨⟩; rfl) <;> intro hc <;> (try simp only [tests, reduceCtorEq] at hc) <;> (try exact Zf))) | (refine G.atBin ?_; first | refine G.op rfl rfl ?_ ) | refine G.op rfl rfl ?_ | (refine G.atLen ?_; first | refine G.lenStr rfl (tyy rfl) rfl ?_ | refine G.lenSlice rfl (tyy rfl) rfl ?_ | refine G.lenRowB rfl (tyy rfl) Za rfl ?_ | refine G.lenRowS rfl (tyy rfl) Za rfl ?_ | refine G.lenRow rfl (tyy rfl) Za rfl ?_ | refine G.lenImmB rfl (tyy rfl) Zl rfl ?_ | refine G.lenImmI rfl (tyy rfl) Zl rfl ?_ | refine G.lenImmS rfl (tyy rfl) Zl rfl ?_ | refine G.lenImm rfl (tyy rfl) Zl rfl ?_) | (refine G.atLoad ?_; first | refine G.loadOwn1 rfl (tyy rfl) rfl rfl Za rfl rfl ?_ | refine G.loadOwnA rfl (tyy rfl) rfl rfl Za rfl rfl ?_ | refine G.loadImm1 rfl (tyy rfl) rfl rfl Zp rfl ?_ | refine G.loadImmA rfl (tyy rfl) rfl rfl Zp Zp rfl ?_ | refine G.loadRowS rfl (tyy rfl) Zp Za Zo rfl ?_ | (refine G.loadRowB rfl (tyy rfl) Zp Za Zo rfl ?_; intro _)) | (refine G.atFld ?_; first | refine G.fieldAddr rfl (tyy rfl) rfl rfl ?_ | refine G.fieldAddrP rfl (tyy rfl) rfl rfl ?_)           )
    all_goals exact G.done1 rfl rfl _ (SubH.rfl_ _) ⟨by unfold roomM; congr 1; omega, rfl⟩
  . repeat' (first | (refine G.atCode ?_; first | refine G.seq ?_ | refine G.region ?_ | refine G.block ?_ | refine G.skip ?_ | refine G.exit rfl ?_ | refine G.ret ?_ | (refine G.cond rfl ?_ ?_ <;> intro hc <;> (try simp only [tests, reduceCtorEq] at hc) <;> (try exact Zf))) | refine G.endOps ?_ | refine G.endStill ?_ | refine G.endHeld ?_ | refine G.back ?_ | refine G.endBlk ?_ | (refine G.atGd ?_; first | refine G.guardYes rfl rfl ?_ | refine G.guardNoS rfl rfl rfl ?_ | refine G.guardU rfl rfl rfl ?_ | (refine G.guardS rfl rfl rfl ?_ ?_ <;> intro hc <;> (try simp only [tests, reduceCtorEq] at hc) <;> (try exact Zf)) | refine G.guardNo rfl rfl ?_ (by rintro i ⟨⟩; rfl) | (refine G.guard rfl rfl ?_ ?_ (by rintro i ⟨⟩; rfl) <;> intro hc <;> (try simp only [tests, reduceCtorEq] at hc) <;> (try exact Zf))) | (refine G.atBin ?_; first | refine G.op rfl rfl ?_ ) | refine G.op rfl rfl ?_ | (refine G.atLen ?_; first | refine G.lenStr rfl (tyy rfl) rfl ?_ | refine G.lenSlice rfl (tyy rfl) rfl ?_ | refine G.lenRowB rfl (tyy rfl) Za rfl ?_ | refine G.lenRowS rfl (tyy rfl) Za rfl ?_ | refine G.lenRow rfl (tyy rfl) Za rfl ?_ | refine G.lenImmB rfl (tyy rfl) Zl rfl ?_ | refine G.lenImmI rfl (tyy rfl) Zl rfl ?_ | refine G.lenImmS rfl (tyy rfl) Zl rfl ?_ | refine G.lenImm rfl (tyy rfl) Zl rfl ?_) | (refine G.atLoad ?_; first | refine G.loadOwn1 rfl (tyy rfl) rfl rfl Za rfl rfl ?_ | refine G.loadOwnA rfl (tyy rfl) rfl rfl Za rfl rfl ?_ | refine G.loadImm1 rfl (tyy rfl) rfl rfl Zp rfl ?_ | refine G.loadImmA rfl (tyy rfl) rfl rfl Zp Zp rfl ?_ | refine G.loadRowS rfl (tyy rfl) Zp Za Zo rfl ?_ | (refine G.loadRowB rfl (tyy rfl) Zp Za Zo rfl ?_; intro _)) | (refine G.atFld ?_; first | refine G.fieldAddr rfl (tyy rfl) rfl rfl ?_ | refine G.fieldAddrP rfl (tyy rfl) rfl rfl ?_)           )
    all_goals exact G.done1 rfl rfl _ (SubH.rfl_ _) ⟨by unfold roomM; congr 1; omega, rfl⟩
theorem refd_On (r : Nat) (lv wv tv : Value) (lim : Bool) (most : Int) (T : List (List Value)) (D : Dk) (L Ws : List (List UInt8)) (h : Heap) :
    Spec Tryz.prog 19 [.pointer (some ⟨r, 0, none⟩)] h (rkC r lv wv tv lim most T D L Ws) (fun _ _ H' => H' = rkC r lv wv tv lim most T { D with off := false, left := 0 } L Ws) := by
  unfold rkC
  refine Spec.enter Tryz.func19 rfl rfl ?_; intro w0
  repeat' (first | (refine G.atCode ?_; first | refine G.seq ?_ | refine G.region ?_ | refine G.block ?_ | refine G.skip ?_ | refine G.exit rfl ?_ | refine G.ret ?_ | (refine G.cond rfl ?_ ?_ <;> intro hc <;> (try simp only [tests, reduceCtorEq] at hc) <;> (try exact Zf))) | refine G.endOps ?_ | refine G.endStill ?_ | refine G.endHeld ?_ | refine G.back ?_ | refine G.endBlk ?_ | refine G.op rfl rfl ?_ | (refine G.atFld ?_; first | refine G.fieldAddr rfl (tyy rfl) rfl rfl ?_ | refine G.fieldAddrP rfl (tyy rfl) rfl rfl ?_) | (refine G.atSto ?_; refine G.storeOwn rfl rfl (tyy rfl) Za rfl rfl rfl rfl ?_)          )
  refine G.done0 (w0 := ⟨w0, [], h⟩) rfl ?_
  exact ⟨_, SubH.rfl_ _, rfl⟩
theorem refd_Cut (r : Nat) (lv wv tv : Value) (lim : Bool) (most : Int) (T : List (List Value)) (D : Dk) (L Ws : List (List UInt8)) (n : Int) (l : Ls) (h : Heap) :
    Spec Tryz.prog 10 [.pointer (some ⟨r, 0, none⟩), .int .i64 n, .agg l.vals.toArray] h (rkC r lv wv tv lim most T D L Ws) (fun _ _ H' => H' = rkC r lv wv tv lim most T { D with left := max 0 n, loss := l } L Ws) := by
  unfold rkC
  refine Spec.enter Tryz.func10 rfl rfl ?_; intro w0
  repeat' (first | (refine G.minI rfl rfl rfl ?_) | (refine G.maxI rfl rfl rfl ?_) | (refine G.atCode ?_; first | refine G.seq ?_ | refine G.region ?_ | refine G.block ?_ | refine G.skip ?_ | refine G.exit rfl ?_ | refine G.ret ?_ | (refine G.cond rfl ?_ ?_ <;> intro hc <;> (try simp only [tests, reduceCtorEq] at hc) <;> (try exact Zf))) | refine G.endOps ?_ | refine G.endStill ?_ | refine G.endHeld ?_ | refine G.back ?_ | refine G.endBlk ?_ | refine G.op rfl rfl ?_ | (refine G.atLoad ?_; first | refine G.loadOwn1 rfl (tyy rfl) rfl rfl Za rfl rfl ?_ | refine G.loadOwnA rfl (tyy rfl) rfl rfl Za rfl rfl ?_ | refine G.loadImm1 rfl (tyy rfl) rfl rfl Zp rfl ?_ | refine G.loadImmA rfl (tyy rfl) rfl rfl Zp Zp rfl ?_ | refine G.loadRowS rfl (tyy rfl) Zp Za Zo rfl ?_ | (refine G.loadRowB rfl (tyy rfl) Zp Za Zo rfl ?_; intro _)) | (refine G.atFld ?_; first | refine G.fieldAddr rfl (tyy rfl) rfl rfl ?_ | refine G.fieldAddrP rfl (tyy rfl) rfl rfl ?_) | (refine G.atSto ?_; refine G.storeOwn rfl rfl (tyy rfl) Za rfl rfl rfl rfl ?_) | (refine G.atBox ?_; refine G.box rfl rfl rfl ?_; intro _)        )
  refine G.done0 (w0 := ⟨w0, [], h⟩) rfl ?_
  exact ⟨_, Zu, rfl⟩
set_option maxRecDepth 8000 in
theorem refd_Read (r : Nat) (lv wv tv : Value) (lim : Bool) (most : Int) (T : List (List Value)) (D : Dk) (hD : D.Ok) (i : Int) (h : Heap) :
    Spec Tryz.prog 44 [.pointer (some ⟨r, 0, none⟩), .int .i64 i] h (rkC r lv wv tv lim most T D D.lasts (waitL D)) (fun u _ H' => u = .tuple #[str (readM D i).1, .int .i64 (readM D i).2] /\ H' = rkC r lv wv tv lim most T D D.lasts (waitL D)) := by
  have hsl : (strsR D.lasts).length = D.lasts.length := strsR_length _
  have hwl := waitL_len D
  by_cases hoff : D.off = true
  . have ef : failsM D i = 10 := by unfold failsM; rw [if_pos hoff]
    have e : readM D i = ([], 10) := by unfold readM; rw [ef]; rfl
    rw [e]
    unfold rkC
    rw [hoff]
    refine Spec.enter Tryz.func44 rfl rfl ?_; intro w0
    repeat' (first | (refine G.atCode ?_; first | refine G.seq ?_ | refine G.region ?_ | refine G.block ?_ | refine G.skip ?_ | refine G.exit rfl ?_ | refine G.ret ?_ | (refine G.cond rfl ?_ ?_ <;> intro hc <;> (try simp only [tests, reduceCtorEq] at hc) <;> (try exact Zf))) | refine G.endOps ?_ | refine G.endStill ?_ | refine G.endHeld ?_ | refine G.back ?_ | refine G.endBlk ?_ | (refine G.atGd ?_; first | refine G.guardYes rfl rfl ?_ | refine G.guardNoS rfl rfl rfl ?_ | refine G.guardU rfl rfl rfl ?_ | (refine G.guardS rfl rfl rfl ?_ ?_ <;> intro hc <;> (try simp only [tests, reduceCtorEq] at hc) <;> (try exact Zf)) | refine G.guardNo rfl rfl ?_ (by rintro i ⟨⟩; rfl) | (refine G.guard rfl rfl ?_ ?_ (by rintro i ⟨⟩; rfl) <;> intro hc <;> (try simp only [tests, reduceCtorEq] at hc) <;> (try exact Zf))) | (refine G.atBin ?_; first | (refine G.atNeq ?_; first | refine G.op rfl rfl ?_ | refine G.neStr0 rfl rfl rfl ?_ | refine G.neStr rfl rfl rfl ?_ | refine G.nePtr rfl rfl (tyy rfl) rfl ?_ | refine G.neBool rfl rfl (tyy rfl) rfl ?_) | refine G.op rfl rfl ?_ ) | refine G.op rfl rfl ?_ | (refine G.atLen ?_; first | refine G.lenStr rfl (tyy rfl) rfl ?_ | refine G.lenSlice rfl (tyy rfl) rfl ?_ | refine G.lenRowB rfl (tyy rfl) Za rfl ?_ | refine G.lenRowS rfl (tyy rfl) Za rfl ?_ | refine G.lenRow rfl (tyy rfl) Za rfl ?_ | refine G.lenImmB rfl (tyy rfl) Zl rfl ?_ | refine G.lenImmI rfl (tyy rfl) Zl rfl ?_ | refine G.lenImmS rfl (tyy rfl) Zl rfl ?_ | refine G.lenImm rfl (tyy rfl) Zl rfl ?_) | (refine G.atLoad ?_; first | refine G.loadOwn1 rfl (tyy rfl) rfl rfl Za rfl rfl ?_ | refine G.loadOwnA rfl (tyy rfl) rfl rfl Za rfl rfl ?_ | refine G.loadImm1 rfl (tyy rfl) rfl rfl Zp rfl ?_ | refine G.loadImmA rfl (tyy rfl) rfl rfl Zp Zp rfl ?_ | refine G.loadRowS rfl (tyy rfl) Zp Za Zo rfl ?_ | (refine G.loadRowB rfl (tyy rfl) Zp Za Zo rfl ?_; intro _)) | (refine G.atFld ?_; first | refine G.fieldAddr rfl (tyy rfl) rfl rfl ?_ | refine G.fieldAddrP rfl (tyy rfl) rfl rfl ?_) | (refine G.atIdx ?_; first | (refine G.idxImmI rfl rfl (tyy rfl) (tyy rfl) Zl Zp Zj rfl Zo ?_; intro _ _ _) | (refine G.idxImmS rfl rfl (tyy rfl) (tyy rfl) Zl Zj rfl Zo ?_; intro _ _) | (refine G.idxImmB rfl rfl (tyy rfl) (tyy rfl) Zl Zj rfl Zo ?_; intro _ _ _) | (refine G.idxRow' rfl rfl (tyy rfl) (tyy rfl) Za Zj rfl Zo ?_; intro _ _) | (refine G.idxImmN rfl rfl (tyy rfl) (tyy rfl) Zl Zj rfl Zo ?_; intro _ _ _ _ _))  )
    exact G.done2 rfl rfl rfl _ Zu ⟨rfl, rfl⟩
  . have hoff' : D.off = false := by simpa using hoff
    by_cases hr : i < 0 \/ D.lasts.length <= i
    . have ef : failsM D i = 2 := by unfold failsM; rw [if_neg hoff, if_pos hr]
      have e : readM D i = ([], 2) := by unfold readM; rw [ef]; rfl
      rw [e]
      unfold rkC
      rw [hoff']
      refine Spec.enter Tryz.func44 rfl rfl ?_; intro w0
      repeat' (first | (refine G.atCode ?_; first | refine G.seq ?_ | refine G.region ?_ | refine G.block ?_ | refine G.skip ?_ | refine G.exit rfl ?_ | refine G.ret ?_ | (refine G.cond rfl ?_ ?_ <;> intro hc <;> (try simp only [tests, reduceCtorEq] at hc) <;> (try exact Zf))) | refine G.endOps ?_ | refine G.endStill ?_ | refine G.endHeld ?_ | refine G.back ?_ | refine G.endBlk ?_ | (refine G.atGd ?_; first | refine G.guardYes rfl rfl ?_ | refine G.guardNoS rfl rfl rfl ?_ | refine G.guardU rfl rfl rfl ?_ | (refine G.guardS rfl rfl rfl ?_ ?_ <;> intro hc <;> (try simp only [tests, reduceCtorEq] at hc) <;> (try exact Zf)) | refine G.guardNo rfl rfl ?_ (by rintro i ⟨⟩; rfl) | (refine G.guard rfl rfl ?_ ?_ (by rintro i ⟨⟩; rfl) <;> intro hc <;> (try simp only [tests, reduceCtorEq] at hc) <;> (try exact Zf))) | (refine G.atBin ?_; first | (refine G.atNeq ?_; first | refine G.op rfl rfl ?_ | refine G.neStr0 rfl rfl rfl ?_ | refine G.neStr rfl rfl rfl ?_ | refine G.nePtr rfl rfl (tyy rfl) rfl ?_ | refine G.neBool rfl rfl (tyy rfl) rfl ?_) | refine G.op rfl rfl ?_ ) | refine G.op rfl rfl ?_ | (refine G.atLen ?_; first | refine G.lenStr rfl (tyy rfl) rfl ?_ | refine G.lenSlice rfl (tyy rfl) rfl ?_ | refine G.lenRowB rfl (tyy rfl) Za rfl ?_ | refine G.lenRowS rfl (tyy rfl) Za rfl ?_ | refine G.lenRow rfl (tyy rfl) Za rfl ?_ | refine G.lenImmB rfl (tyy rfl) Zl rfl ?_ | refine G.lenImmI rfl (tyy rfl) Zl rfl ?_ | refine G.lenImmS rfl (tyy rfl) Zl rfl ?_ | refine G.lenImm rfl (tyy rfl) Zl rfl ?_) | (refine G.atLoad ?_; first | refine G.loadOwn1 rfl (tyy rfl) rfl rfl Za rfl rfl ?_ | refine G.loadOwnA rfl (tyy rfl) rfl rfl Za rfl rfl ?_ | refine G.loadImm1 rfl (tyy rfl) rfl rfl Zp rfl ?_ | refine G.loadImmA rfl (tyy rfl) rfl rfl Zp Zp rfl ?_ | refine G.loadRowS rfl (tyy rfl) Zp Za Zo rfl ?_ | (refine G.loadRowB rfl (tyy rfl) Zp Za Zo rfl ?_; intro _)) | (refine G.atFld ?_; first | refine G.fieldAddr rfl (tyy rfl) rfl rfl ?_ | refine G.fieldAddrP rfl (tyy rfl) rfl rfl ?_) | (refine G.atIdx ?_; first | (refine G.idxImmI rfl rfl (tyy rfl) (tyy rfl) Zl Zp Zj rfl Zo ?_; intro _ _ _) | (refine G.idxImmS rfl rfl (tyy rfl) (tyy rfl) Zl Zj rfl Zo ?_; intro _ _) | (refine G.idxImmB rfl rfl (tyy rfl) (tyy rfl) Zl Zj rfl Zo ?_; intro _ _ _) | (refine G.idxRow' rfl rfl (tyy rfl) (tyy rfl) Za Zj rfl Zo ?_; intro _ _) | (refine G.idxImmN rfl rfl (tyy rfl) (tyy rfl) Zl Zj rfl Zo ?_; intro _ _ _ _ _))  )
      all_goals exact G.done2 rfl rfl rfl _ Zu ⟨rfl, rfl⟩
    . have ef : failsM D i = 0 := by unfold failsM; rw [if_neg hoff, if_neg hr]
      obtain ⟨j, rfl⟩ := Int.eq_ofNat_of_zero_le (show 0 <= i by omega)
      have e : readM D j = ((wGet D.W j).getD (strAt D.lasts j), 0) := by unfold readM; rw [ef, if_neg (by simp)]; rfl
      have hj : j < D.lasts.length := by omega
      have hat := waitL_at D hj
      have hz := waitAt_nil hD j
      rw [e]
      generalize waitL D = Ws at *
      unfold rkC
      rw [hoff']
      refine Spec.enter Tryz.func44 rfl rfl ?_; intro w0
      repeat' (first | (refine G.atIdx ?_; refine G.idxRow' rfl rfl (tyy rfl) (tyy rfl) Za Zj rfl (by rw [strsR_length]; omega) ?_; intro _ _) | (refine G.atCode ?_; first | refine G.seq ?_ | refine G.region ?_ | refine G.block ?_ | refine G.skip ?_ | refine G.exit rfl ?_ | refine G.ret ?_ | (refine G.cond rfl ?_ ?_ <;> intro hc <;> (try simp only [tests, reduceCtorEq] at hc) <;> (try exact Zf))) | refine G.endOps ?_ | refine G.endStill ?_ | refine G.endHeld ?_ | refine G.back ?_ | refine G.endBlk ?_ | (refine G.atGd ?_; first | refine G.guardYes rfl rfl ?_ | refine G.guardNoS rfl rfl rfl ?_ | refine G.guardU rfl rfl rfl ?_ | (refine G.guardS rfl rfl rfl ?_ ?_ <;> intro hc <;> (try simp only [tests, reduceCtorEq] at hc) <;> (try exact Zf)) | refine G.guardNo rfl rfl ?_ (by rintro i ⟨⟩; rfl) | (refine G.guard rfl rfl ?_ ?_ (by rintro i ⟨⟩; rfl) <;> intro hc <;> (try simp only [tests, reduceCtorEq] at hc) <;> (try exact Zf))) | (refine G.atBin ?_; first | (refine G.atNeq ?_; first | refine G.op rfl rfl ?_ | refine G.neStr0 rfl rfl rfl ?_ | refine G.neStr rfl rfl rfl ?_ | refine G.nePtr rfl rfl (tyy rfl) rfl ?_ | refine G.neBool rfl rfl (tyy rfl) rfl ?_) | refine G.op rfl rfl ?_ ) | refine G.op rfl rfl ?_ | (refine G.atLen ?_; first | refine G.lenStr rfl (tyy rfl) rfl ?_ | refine G.lenSlice rfl (tyy rfl) rfl ?_ | refine G.lenRowB rfl (tyy rfl) Za rfl ?_ | refine G.lenRowS rfl (tyy rfl) Za rfl ?_ | refine G.lenRow rfl (tyy rfl) Za rfl ?_ | refine G.lenImmB rfl (tyy rfl) Zl rfl ?_ | refine G.lenImmI rfl (tyy rfl) Zl rfl ?_ | refine G.lenImmS rfl (tyy rfl) Zl rfl ?_ | refine G.lenImm rfl (tyy rfl) Zl rfl ?_) | (refine G.atLoad ?_; first | refine G.loadOwn1 rfl (tyy rfl) rfl rfl Za rfl rfl ?_ | refine G.loadOwnA rfl (tyy rfl) rfl rfl Za rfl rfl ?_ | refine G.loadImm1 rfl (tyy rfl) rfl rfl Zp rfl ?_ | refine G.loadImmA rfl (tyy rfl) rfl rfl Zp Zp rfl ?_ | refine G.loadRowS rfl (tyy rfl) Zp Za Zo rfl ?_ | (refine G.loadRowB rfl (tyy rfl) Zp Za Zo rfl ?_; intro _)) | (refine G.atFld ?_; first | refine G.fieldAddr rfl (tyy rfl) rfl rfl ?_ | refine G.fieldAddrP rfl (tyy rfl) rfl rfl ?_) | (refine G.atIdx ?_; first | (refine G.idxImmI rfl rfl (tyy rfl) (tyy rfl) Zl Zp Zj rfl Zo ?_; intro _ _ _) | (refine G.idxImmS rfl rfl (tyy rfl) (tyy rfl) Zl Zj rfl Zo ?_; intro _ _) | (refine G.idxImmB rfl rfl (tyy rfl) (tyy rfl) Zl Zj rfl Zo ?_; intro _ _ _) | (refine G.idxRow' rfl rfl (tyy rfl) (tyy rfl) Za Zj rfl Zo ?_; intro _ _) | (refine G.idxImmN rfl rfl (tyy rfl) (tyy rfl) Zl Zj rfl Zo ?_; intro _ _ _ _ _))  )
      . cases hw : wGet D.W (j : Nat) with
        | none => exact absurd (hz.2 hw) (by rw [<- hat]; assumption)
        | some s =>
          have e1 : waitAt D.W j = s := by unfold waitAt; rw [hw]; rfl
          exact G.done2 rfl rfl rfl _ Zu ⟨by rw [hat, e1]; rfl, rfl⟩
      . have hw : wGet D.W (j : Nat) = none := hz.1 (by rw [<- hat]; assumption)
        rw [hw]
        exact G.done2 rfl rfl rfl _ Zu ⟨rfl, rfl⟩
end Go.Proofs.YtmbpjgjajedonaaGreatDoor
