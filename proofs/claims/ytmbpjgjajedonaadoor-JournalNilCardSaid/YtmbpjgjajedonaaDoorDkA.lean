/- Package disk: what a disk is; the functions that ask and set. -/
import Derived.Test.YtmbpjgjajedonaaDoorLtQ
import Derived.Test.YtmbpjgjajedonaaDoorTy
namespace Go.Proofs.YtmbpjgjajedonaaDoor
set_option linter.all false
set_option maxRecDepth 4000
open Go.RowKit

structure Ls where
  keep : Nat
  torn : Int
  pos : Int
structure Dk where
  lasts : List (List UInt8)
  W : List (Int × List UInt8 × Nat)
  c : Nat
  limit : Int
  off : Bool
  left : Int
  loss : Ls
def wE (W : List (Int × List UInt8 × Nat)) : List (Int × Value × Nat) := W.map fun x => (x.1, str x.2.1, x.2.2)
def Ls.vals (l : Ls) : List Value := [.int .u64 l.keep, .int .i64 l.torn, .int .i64 l.pos]
def dkC (d m : Nat) (v : Value) (D : Dk) : List Chunk := [.blk d [v, .map (some m), .int .i64 D.limit, .bool D.off, .int .i64 D.left, .int .u64 D.loss.keep, .int .i64 D.loss.torn, .int .i64 D.loss.pos] 44, .row v 9 1 (strsR D.lasts), .obj m (mapO (wE D.W) D.c)]
structure Dk.Ok (D : Dk) : Prop where
  l : ∀ x ∈ D.lasts, x.length = 128
  w : ∀ x ∈ D.W, x.2.1.length = 128
  n : D.lasts.length <= 8192
  left : 0 <= D.left /\ D.left <= 9223372036854775807
  ls : D.loss.keep < 18446744073709551616 /\ inR .i64 D.loss.pos
def roomM (D : Dk) : Int := min D.limit D.lasts.length
def failsM (D : Dk) (i : Int) : Int := if D.off then 10 else if i < 0 \/ D.lasts.length <= i then 2 else 0
def cutM (D : Dk) : Dk × Bool := if D.left = 0 then (D, false) else ({ D with left := D.left - 1 }, decide (D.left - 1 = 0))
theorem callSectors : Callable Tryd.prog 19 := ⟨_, Tryd.func19, by kernel_rfl, rfl⟩
theorem callRoom : Callable Tryd.prog 28 := ⟨_, Tryd.func28, by kernel_rfl, rfl⟩
theorem callFails : Callable Tryd.prog 33 := ⟨_, Tryd.func33, by kernel_rfl, rfl⟩
theorem callCutD : Callable Tryd.prog 49 := ⟨_, Tryd.func49, by kernel_rfl, rfl⟩
theorem callOn : Callable Tryd.prog 32 := ⟨_, Tryd.func32, by kernel_rfl, rfl⟩
theorem disk_Sectors (d m : Nat) (v : Value) (D : Dk) (h : Heap) : Spec Tryd.prog 19 [.pointer (some ⟨d, 0, none⟩)] h (dkC d m v D) (fun u _ H' => u = .int .i64 D.lasts.length /\ H' = dkC d m v D) := by
  unfold dkC
  refine Spec.enter Tryd.func19 rfl rfl ?_; intro w0
  repeat' (first | (refine G.atCode ?_; first | refine G.seq ?_ | refine G.region ?_ | refine G.block ?_ | refine G.skip ?_ | refine G.exit rfl ?_ | refine G.ret ?_ | (refine G.cond rfl ?_ ?_ <;> intro hc <;> (try simp only [tests, reduceCtorEq] at hc) <;> (try exact Zf))) | refine G.endOps ?_ | refine G.endStill ?_ | refine G.endHeld ?_ | refine G.back ?_ | refine G.endBlk ?_ | (refine G.atBin ?_; first | (refine G.atEql ?_; first | refine G.op rfl rfl ?_ | refine G.eqStr0 rfl rfl rfl ?_ | refine G.eqStr rfl rfl rfl ?_ | refine G.eqPtr rfl rfl (tyy rfl) rfl ?_ | refine G.eqBool rfl rfl (tyy rfl) rfl ?_) | refine G.op rfl rfl ?_ ) | refine G.op rfl rfl ?_ | (refine G.atLen ?_; first | refine G.lenStr rfl (tyy rfl) rfl ?_ | refine G.lenSlice rfl (tyy rfl) rfl ?_ | refine G.lenRowB rfl (tyy rfl) Za rfl ?_ | refine G.lenRowS rfl (tyy rfl) Za rfl ?_ | refine G.lenRow rfl (tyy rfl) Za rfl ?_ | refine G.lenImmB rfl (tyy rfl) Zl rfl ?_ | refine G.lenImmI rfl (tyy rfl) Zl rfl ?_ | refine G.lenImmS rfl (tyy rfl) Zl rfl ?_ | refine G.lenImm rfl (tyy rfl) Zl rfl ?_) | (refine G.atLoad ?_; first | refine G.loadOwn1 rfl (tyy rfl) rfl rfl Za rfl rfl ?_ | refine G.loadOwnA rfl (tyy rfl) rfl rfl Za rfl rfl ?_ | refine G.loadImm1 rfl (tyy rfl) rfl rfl Zp rfl ?_ | refine G.loadImmA rfl (tyy rfl) rfl rfl Zp Zp rfl ?_ | refine G.loadRowS rfl (tyy rfl) Zp Za Zo rfl ?_ | (refine G.loadRowB rfl (tyy rfl) Zp Za Zo rfl ?_; intro _)) | (refine G.atFld ?_; first | refine G.fieldAddr rfl (tyy rfl) rfl rfl ?_ | refine G.fieldAddrP rfl (tyy rfl) rfl rfl ?_)           )
  exact G.done1 rfl rfl _ (SubH.rfl_ _) ⟨rfl, rfl⟩
theorem disk_Room (d m : Nat) (v : Value) (D : Dk) (h : Heap) : Spec Tryd.prog 28 [.pointer (some ⟨d, 0, none⟩)] h (dkC d m v D) (fun u _ H' => u = .int .i64 (roomM D) /\ H' = dkC d m v D) := by
  unfold dkC
  refine Spec.enter Tryd.func28 rfl rfl ?_; intro w0
  repeat' (first | (refine G.minI rfl rfl rfl ?_) | (refine G.maxI rfl rfl rfl ?_) | (refine G.atCode ?_; first | refine G.seq ?_ | refine G.region ?_ | refine G.block ?_ | refine G.skip ?_ | refine G.drawAuto mixedOk rfl Zw ?_ | refine G.drawAll slB Zw mixedOk Zw ?_ | refine G.anyIn mixedOk ?_ | refine G.exit rfl ?_ | refine G.ret ?_ | (refine G.cond rfl ?_ ?_ <;> intro hc <;> (try simp only [tests, reduceCtorEq] at hc) <;> (try exact Zf))) | refine G.endOps ?_ | refine G.endStill ?_ | refine G.endHeld ?_ | refine G.back ?_ | refine G.endBlk ?_ | (refine G.atAny ?_; first | refine G.anyAutoX slB rfl rfl Zw Zg Zd ?_ | refine G.anyOne rfl Zw Zg Zu ?_ | refine G.anyAuto slB rfl Zw Zg Zu ?_ | refine G.anyEndX Zw ?_ | refine G.anyEnd Zw Zg Zu ?_ | refine G.anyTwo rfl Zw Zg Zu ?_ ?_) | (refine G.atBin ?_; first | (refine G.atEql ?_; first | refine G.op rfl rfl ?_ | refine G.eqStr0 rfl rfl rfl ?_ | refine G.eqStr rfl rfl rfl ?_ | refine G.eqPtr rfl rfl (tyy rfl) rfl ?_ | refine G.eqBool rfl rfl (tyy rfl) rfl ?_) | refine G.op rfl rfl ?_ ) | refine G.op rfl rfl ?_ | (refine G.atLen ?_; first | refine G.lenStr rfl (tyy rfl) rfl ?_ | refine G.lenSlice rfl (tyy rfl) rfl ?_ | refine G.lenRowB rfl (tyy rfl) Za rfl ?_ | refine G.lenRowS rfl (tyy rfl) Za rfl ?_ | refine G.lenRow rfl (tyy rfl) Za rfl ?_ | refine G.lenImmB rfl (tyy rfl) Zl rfl ?_ | refine G.lenImmI rfl (tyy rfl) Zl rfl ?_ | refine G.lenImmS rfl (tyy rfl) Zl rfl ?_ | refine G.lenImm rfl (tyy rfl) Zl rfl ?_) | (refine G.atLoad ?_; first | refine G.loadOwn1 rfl (tyy rfl) rfl rfl Za rfl rfl ?_ | refine G.loadOwnA rfl (tyy rfl) rfl rfl Za rfl rfl ?_ | refine G.loadImm1 rfl (tyy rfl) rfl rfl Zp rfl ?_ | refine G.loadImmA rfl (tyy rfl) rfl rfl Zp Zp rfl ?_ | refine G.loadRowS rfl (tyy rfl) Zp Za Zo rfl ?_ | (refine G.loadRowB rfl (tyy rfl) Zp Za Zo rfl ?_; intro _)) | (refine G.atFld ?_; first | refine G.fieldAddr rfl (tyy rfl) rfl rfl ?_ | refine G.fieldAddrP rfl (tyy rfl) rfl rfl ?_)           )
  exact G.done1 rfl rfl _ (SubH.rfl_ _) ⟨rfl, rfl⟩
theorem disk_fails (d m : Nat) (v : Value) (D : Dk) (i : Int) (h : Heap) : Spec Tryd.prog 33 [.pointer (some ⟨d, 0, none⟩), .int .i64 i] h (dkC d m v D) (fun u _ H' => u = .int .i64 (failsM D i) /\ H' = dkC d m v D) := by
  unfold dkC
  refine Spec.enter Tryd.func33 rfl rfl ?_; intro w0
  repeat' (first | (refine G.atCode ?_; first | refine G.seq ?_ | refine G.region ?_ | refine G.block ?_ | refine G.skip ?_ | refine G.exit rfl ?_ | refine G.ret ?_ | (refine G.cond rfl ?_ ?_ <;> intro hc <;> (try simp only [tests, reduceCtorEq] at hc) <;> (try exact Zf))) | refine G.endOps ?_ | refine G.endStill ?_ | refine G.endHeld ?_ | refine G.back ?_ | refine G.endBlk ?_ | (refine G.atGd ?_; first | refine G.guardYes rfl rfl ?_ | refine G.guardNoS rfl rfl rfl ?_ | refine G.guardU rfl rfl rfl ?_ | (refine G.guardS rfl rfl rfl ?_ ?_ <;> intro hc <;> (try simp only [tests, reduceCtorEq] at hc) <;> (try exact Zf)) | refine G.guardNo rfl rfl ?_ (by rintro i ⟨⟩; rfl) | (refine G.guard rfl rfl ?_ ?_ (by rintro i ⟨⟩; rfl) <;> intro hc <;> (try simp only [tests, reduceCtorEq] at hc) <;> (try exact Zf))) | (refine G.atBin ?_; first | (refine G.atEql ?_; first | refine G.op rfl rfl ?_ | refine G.eqStr0 rfl rfl rfl ?_ | refine G.eqStr rfl rfl rfl ?_ | refine G.eqPtr rfl rfl (tyy rfl) rfl ?_ | refine G.eqBool rfl rfl (tyy rfl) rfl ?_) | refine G.op rfl rfl ?_ ) | refine G.op rfl rfl ?_ | (refine G.atLen ?_; first | refine G.lenStr rfl (tyy rfl) rfl ?_ | refine G.lenSlice rfl (tyy rfl) rfl ?_ | refine G.lenRowB rfl (tyy rfl) Za rfl ?_ | refine G.lenRowS rfl (tyy rfl) Za rfl ?_ | refine G.lenRow rfl (tyy rfl) Za rfl ?_ | refine G.lenImmB rfl (tyy rfl) Zl rfl ?_ | refine G.lenImmI rfl (tyy rfl) Zl rfl ?_ | refine G.lenImmS rfl (tyy rfl) Zl rfl ?_ | refine G.lenImm rfl (tyy rfl) Zl rfl ?_) | (refine G.atLoad ?_; first | refine G.loadOwn1 rfl (tyy rfl) rfl rfl Za rfl rfl ?_ | refine G.loadOwnA rfl (tyy rfl) rfl rfl Za rfl rfl ?_ | refine G.loadImm1 rfl (tyy rfl) rfl rfl Zp rfl ?_ | refine G.loadImmA rfl (tyy rfl) rfl rfl Zp Zp rfl ?_ | refine G.loadRowS rfl (tyy rfl) Zp Za Zo rfl ?_ | (refine G.loadRowB rfl (tyy rfl) Zp Za Zo rfl ?_; intro _)) | (refine G.atFld ?_; first | refine G.fieldAddr rfl (tyy rfl) rfl rfl ?_ | refine G.fieldAddrP rfl (tyy rfl) rfl rfl ?_)           )
  all_goals (
    refine G.done1 rfl rfl _ (SubH.rfl_ _) ⟨?_, rfl⟩
    unfold failsM
    try simp only [strsR_length] at *
    first
      | rw [if_pos Zp]
      | (rw [if_neg (by simp_all), if_pos (by omega)])
      | (rw [if_neg (by simp_all), if_neg (by omega)]))
theorem disk_cut (d m : Nat) (v : Value) (D : Dk) (hD : D.Ok) (h : Heap) : Spec Tryd.prog 49 [.pointer (some ⟨d, 0, none⟩)] h (dkC d m v D) (fun u _ H' => u = .bool (cutM D).2 /\ H' = dkC d m v (cutM D).1) := by
  have hl := hD.left
  unfold dkC
  refine Spec.enter Tryd.func49 rfl rfl ?_; intro w0
  repeat' (first | (refine G.atCode ?_; first | refine G.seq ?_ | refine G.region ?_ | refine G.block ?_ | refine G.skip ?_ | refine G.exit rfl ?_ | refine G.ret ?_ | (refine G.cond rfl ?_ ?_ <;> intro hc <;> (try simp only [tests, reduceCtorEq] at hc) <;> (try exact Zf))) | refine G.endOps ?_ | refine G.endStill ?_ | refine G.endHeld ?_ | refine G.back ?_ | refine G.endBlk ?_ | (refine G.atBin ?_; first | (refine G.atSub ?_; first | refine G.arith rfl rfl rfl rfl rfl Zi ?_ | refine G.op rfl rfl ?_) | (refine G.atEql ?_; first | refine G.op rfl rfl ?_ | refine G.eqStr0 rfl rfl rfl ?_ | refine G.eqStr rfl rfl rfl ?_ | refine G.eqPtr rfl rfl (tyy rfl) rfl ?_ | refine G.eqBool rfl rfl (tyy rfl) rfl ?_) | refine G.op rfl rfl ?_ ) | refine G.op rfl rfl ?_ | (refine G.atLoad ?_; first | refine G.loadOwn1 rfl (tyy rfl) rfl rfl Za rfl rfl ?_ | refine G.loadOwnA rfl (tyy rfl) rfl rfl Za rfl rfl ?_ | refine G.loadImm1 rfl (tyy rfl) rfl rfl Zp rfl ?_ | refine G.loadImmA rfl (tyy rfl) rfl rfl Zp Zp rfl ?_ | refine G.loadRowS rfl (tyy rfl) Zp Za Zo rfl ?_ | (refine G.loadRowB rfl (tyy rfl) Zp Za Zo rfl ?_; intro _)) | (refine G.atFld ?_; first | refine G.fieldAddr rfl (tyy rfl) rfl rfl ?_ | refine G.fieldAddrP rfl (tyy rfl) rfl rfl ?_) | (refine G.atSto ?_; refine G.storeOwn rfl rfl (tyy rfl) Za rfl rfl rfl rfl ?_)          )
  . have e : cutM D = (D, false) := by unfold cutM; rw [if_pos Zp]
    rw [e]
    exact G.done1 rfl rfl _ (SubH.rfl_ _) ⟨rfl, rfl⟩
  . have e : cutM D = ({ D with left := D.left - 1 }, decide (D.left - 1 = 0)) := by unfold cutM; rw [if_neg Zp]
    rw [e]
    exact G.done1 rfl rfl _ (SubH.rfl_ _) ⟨rfl, rfl⟩
theorem disk_On (d m : Nat) (v : Value) (D : Dk) (h : Heap) : Spec Tryd.prog 32 [.pointer (some ⟨d, 0, none⟩)] h (dkC d m v D) (fun _ _ H' => H' = dkC d m v { D with off := false, left := 0 }) := by
  unfold dkC
  refine Spec.enter Tryd.func32 rfl rfl ?_; intro w0
  repeat' (first | (refine G.atCode ?_; first | refine G.seq ?_ | refine G.region ?_ | refine G.block ?_ | refine G.skip ?_ | refine G.exit rfl ?_ | refine G.ret ?_ | (refine G.cond rfl ?_ ?_ <;> intro hc <;> (try simp only [tests, reduceCtorEq] at hc) <;> (try exact Zf))) | refine G.endOps ?_ | refine G.endStill ?_ | refine G.endHeld ?_ | refine G.back ?_ | refine G.endBlk ?_ | (refine G.atBin ?_; first | (refine G.atNeq ?_; first | refine G.op rfl rfl ?_ | refine G.neStr0 rfl rfl rfl ?_ | refine G.neStr rfl rfl rfl ?_ | refine G.nePtr rfl rfl (tyy rfl) rfl ?_ | refine G.neBool rfl rfl (tyy rfl) rfl ?_) | refine G.op rfl rfl ?_ ) | refine G.op rfl rfl ?_ | (refine G.atFld ?_; first | refine G.fieldAddr rfl (tyy rfl) rfl rfl ?_ | refine G.fieldAddrP rfl (tyy rfl) rfl rfl ?_) | (refine G.atSto ?_; refine G.storeOwn rfl rfl (tyy rfl) Za rfl rfl rfl rfl ?_)          )
  refine G.done0 (w0 := ⟨w0, [], h⟩) rfl ?_
  exact ⟨_, SubH.rfl_ _, rfl⟩
end Go.Proofs.YtmbpjgjajedonaaDoor
