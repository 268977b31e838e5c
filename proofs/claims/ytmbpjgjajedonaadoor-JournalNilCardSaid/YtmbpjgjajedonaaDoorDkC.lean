/- Package disk: Crash, Read, Write; the law's own test; a disk that is none. -/
import Derived.Test.YtmbpjgjajedonaaDoorDkB
namespace Go.Proofs.YtmbpjgjajedonaaDoor
set_option linter.all false
set_option maxRecDepth 4000
open Go.RowKit

theorem callFail5 : Callable Tryd.prog 50 := ⟨_, Tryd.func50, by kernel_rfl, rfl⟩
theorem callCrash : Callable Tryd.prog 18 := ⟨_, Tryd.func18, by kernel_rfl, rfl⟩
theorem callReadD : Callable Tryd.prog 20 := ⟨_, Tryd.func20, by kernel_rfl, rfl⟩
theorem callWriteD : Callable Tryd.prog 38 := ⟨_, Tryd.func38, by kernel_rfl, rfl⟩
theorem callFlushD : Callable Tryd.prog 39 := ⟨_, Tryd.func39, by kernel_rfl, rfl⟩
def wPut (q : Int) (s : List UInt8) : List (Int × List UInt8 × Nat) -> Nat -> List (Int × List UInt8 × Nat)
  | [], c => [(q, s, c)]
  | (j, x, b) :: W, c => if q = j then (j, s, b) :: W else (j, x, b) :: wPut q s W c
theorem mFind_shift (q : Int) : ∀ (es : List (Int × Value × Nat)) (i : Nat), mFind q es (i + 1) = (mFind q es i).map fun p => (p.1 + 1, p.2)
  | [], _ => rfl
  | (j, v, b) :: es, i => by
    by_cases h : q = j
    . simp [mFind, h]
    . simp only [mFind, if_neg h]; exact mFind_shift q es (i + 1)
theorem mPut_cons (q : Int) (v : Value) (j : Int) (x : Value) (b : Nat) (es : List (Int × Value × Nat)) (c : Nat) : mPut q v ((j, x, b) :: es) c = if q = j then (j, v, b) :: es else (j, x, b) :: mPut q v es c := by
  by_cases h : q = j
  . simp [mPut, mFind, h]
  . simp only [mPut, mFind, if_neg h, Nat.zero_add]
    rw [mFind_shift q es 0]
    cases hf : mFind q es 0 with
    | none => simp
    | some p => obtain ⟨i, u⟩ := p; simp
theorem wE_put (q : Int) (s : List UInt8) : ∀ (W : List (Int × List UInt8 × Nat)) (c : Nat), mPut q (str s) (wE W) c = wE (wPut q s W c)
  | [], c => rfl
  | (j, x, b) :: W, c => by
    have ih := wE_put q s W c
    simp only [wE] at ih
    simp only [wE, List.map_cons, mPut_cons, wPut]
    by_cases h : q = j
    . simp [h]
    . simp [h, ih]
theorem wPut_get (q : Int) (s : List UInt8) (i : Int) : ∀ (W : List (Int × List UInt8 × Nat)) (c : Nat), wGet (wPut q s W c) i = if i = q then some s else wGet W i
  | [], c => by simp [wPut, wGet]
  | (j, x, b) :: W, c => by
    have ih := wPut_get q s i W c
    simp only [wPut]
    by_cases h : q = j
    . subst h
      by_cases hi : i = q <;> simp [wGet, hi]
    . rw [if_neg h]
      simp only [wGet]
      by_cases hj : i = j
      . have : ¬ i = q := fun e => h (e.symm.trans hj)
        simp [hj]
        exact fun e => absurd e.symm h
      . rw [if_neg hj, if_neg hj]; exact ih
theorem wPut_len {q : Int} {s : List UInt8} (hs : s.length = 128) : ∀ {W : List (Int × List UInt8 × Nat)} {c : Nat}, (∀ x ∈ W, x.2.1.length = 128) -> ∀ x ∈ wPut q s W c, x.2.1.length = 128
  | [], c, _, x, hx => by simp only [wPut, List.mem_singleton] at hx; subst hx; exact hs
  | (j, y, b) :: W, c, h, x, hx => by
    simp only [wPut] at hx
    split at hx
    . rcases List.mem_cons.1 hx with rfl | hx
      . exact hs
      . exact h x (by simp [hx])
    . rcases List.mem_cons.1 hx with rfl | hx
      . exact h (j, y, b) (by simp)
      . exact wPut_len hs (fun z hz => h z (by simp [hz])) x hx
def putD (D : Dk) (i : Int) (s : List UInt8) : Dk := { D with W := wPut i s D.W D.c, c := mTick i (wE D.W) D.c }
def failM (D : Dk) : Dk := { loseM D D.loss with off := true }
def crashM (D : Dk) (l : Ls) : Dk := { (if D.off then D else loseM D l) with off := false, left := 0 }
def readM (D : Dk) (i : Int) : List UInt8 × Int := if failsM D i ≠ 0 then ([], failsM D i) else ((wGet D.W i).getD (strAt D.lasts i.toNat), 0)
def writeM (D : Dk) (i : Int) (s : List UInt8) : Dk × Int :=
  if failsM D i ≠ 0 then (D, failsM D i) else if s.length ≠ 128 then (D, 2) else if roomM D <= i then (D, 11) else
  if (cutM (putD D i s)).2 then (failM (cutM (putD D i s)).1, 10) else ((cutM (putD D i s)).1, 0)
theorem loseAt_len {D : Dk} (hD : D.Ok) (l : Ls) {i : Nat} (hi : i < D.lasts.length) : (loseAt D.W l D.lasts i).length = 128 := by
  have hx : (strAt D.lasts i).length = 128 := by unfold strAt; simp [hi, hD.l]
  unfold loseAt
  cases hw : wGet D.W (i : Int) with
  | none => exact hx
  | some s =>
    have hs := wGet_len hD.w hw
    simp only [loseOne]
    split
    . rw [List.length_append, List.length_take, List.length_drop]; omega
    . split
      . exact hs
      . exact hx
theorem Dk.Ok.lose {D : Dk} (hD : D.Ok) (l : Ls) : (loseM D l).Ok := by
  refine ⟨fun x hx => ?_, fun x hx => by simp [loseM] at hx, by simp [loseM]; exact hD.n, hD.left, hD.ls⟩
  simp only [loseM, List.mem_map, List.mem_range] at hx
  obtain ⟨i, hi, rfl⟩ := hx
  exact loseAt_len hD l hi
theorem Dk.Ok.put {D : Dk} (hD : D.Ok) (i : Int) {s : List UInt8} (hs : s.length = 128) : (putD D i s).Ok := ⟨hD.l, wPut_len hs hD.w, hD.n, hD.left, hD.ls⟩
theorem Dk.Ok.cut {D : Dk} (hD : D.Ok) : (cutM D).1.Ok := by
  unfold cutM
  have := hD.left
  split
  . exact hD
  . exact ⟨hD.l, hD.w, hD.n, by simp only; omega, hD.ls⟩

theorem disk_fail (d m : Nat) (v : Value) (D : Dk) (hD : D.Ok) (h : Heap) : Spec Tryd.prog 50 [.pointer (some ⟨d, 0, none⟩)] h (dkC d m v D) (fun u _ H' => u = .int .i64 10 /\ H' = dkC d m v (failM D)) := by
  have sp := disk_lose d m v D hD D.loss hD.ls
  unfold dkC at sp ⊢
  refine Spec.enter Tryd.func50 rfl rfl ?_; intro w0
  repeat' (first | (show G _ (.ops .seq _ (⟨some _, .call { callee := .value (.func 31), args := _, argTypes := _ }, _, _, _, none⟩ :: _) :: _) _ _ _; refine G.call callLose rfl rfl (sp _) Ze ?_; rintro _ h2 H2 rfl hle2) | (refine G.atCode ?_; first | refine G.seq ?_ | refine G.region ?_ | refine G.block ?_ | refine G.skip ?_ | refine G.exit rfl ?_ | refine G.ret ?_ | (refine G.cond rfl ?_ ?_ <;> intro hc <;> (try simp only [tests, reduceCtorEq] at hc) <;> (try exact Zf))) | refine G.endOps ?_ | refine G.endStill ?_ | refine G.endHeld ?_ | refine G.back ?_ | refine G.endBlk ?_ | refine G.op rfl rfl ?_ | (refine G.atLoad ?_; first | refine G.loadOwn1 rfl (tyy rfl) rfl rfl Za rfl rfl ?_ | refine G.loadOwnA rfl (tyy rfl) rfl rfl Za rfl rfl ?_ | refine G.loadImm1 rfl (tyy rfl) rfl rfl Zp rfl ?_ | refine G.loadImmA rfl (tyy rfl) rfl rfl Zp Zp rfl ?_ | refine G.loadRowS rfl (tyy rfl) Zp Za Zo rfl ?_ | (refine G.loadRowB rfl (tyy rfl) Zp Za Zo rfl ?_; intro _)) | (refine G.atFld ?_; first | refine G.fieldAddr rfl (tyy rfl) rfl rfl ?_ | refine G.fieldAddrP rfl (tyy rfl) rfl rfl ?_) | (refine G.atSto ?_; refine G.storeOwn rfl rfl (tyy rfl) Za rfl rfl rfl rfl ?_)          )
  exact G.done1 rfl rfl _ Zu ⟨rfl, rfl⟩
theorem fails_ok {D : Dk} {i : Int} (h : failsM D i = 0) : D.off = false /\ 0 <= i /\ i < D.lasts.length := by
  unfold failsM at h
  split at h
  . cases h
  . rename_i h1
    split at h
    . cases h
    . exact ⟨by simpa using h1, by omega, by omega⟩
theorem disk_Crash (d m : Nat) (v : Value) (D : Dk) (hD : D.Ok) (l : Ls) (hl : l.keep < 18446744073709551616 /\ inR .i64 l.pos) (h : Heap) :
    Spec Tryd.prog 18 [.pointer (some ⟨d, 0, none⟩), .agg l.vals.toArray] h (dkC d m v D) (fun _ _ H' => H' = dkC d m v (crashM D l)) := by
  have sp := disk_lose d m v D hD l hl
  have so := disk_On d m v (loseM D l)
  have so2 := disk_On d m v D
  unfold dkC at sp so so2 ⊢
  refine Spec.enter Tryd.func18 rfl rfl ?_; intro w0
  repeat' (first | (show G _ (.ops .seq _ (⟨some _, .call { callee := .value (.func 31), args := _, argTypes := _ }, _, _, _, none⟩ :: _) :: _) _ _ _; refine G.call callLose rfl rfl (sp _) Ze ?_; rintro _ h2 H2 rfl hle2) | (show G _ (.ops .seq _ (⟨some _, .call { callee := .value (.func 32), args := _, argTypes := _ }, _, _, _, none⟩ :: _) :: _) _ _ _; refine G.call callOn rfl rfl (so _) Ze ?_; rintro _ h3 H3 rfl hle3) | (show G _ (.ops .seq _ (⟨some _, .call { callee := .value (.func 32), args := _, argTypes := _ }, _, _, _, none⟩ :: _) :: _) _ _ _; refine G.call callOn rfl rfl (so2 _) Ze ?_; rintro _ h3 H3 rfl hle3) | (refine G.atCode ?_; first | refine G.seq ?_ | refine G.region ?_ | refine G.block ?_ | refine G.skip ?_ | refine G.exit rfl ?_ | refine G.ret ?_ | (refine G.cond rfl ?_ ?_ <;> intro hc <;> (try simp only [tests, reduceCtorEq] at hc) <;> (try exact Zf))) | refine G.endOps ?_ | refine G.endStill ?_ | refine G.endHeld ?_ | refine G.back ?_ | refine G.endBlk ?_ | (refine G.atBin ?_; first | (refine G.atEql ?_; first | refine G.op rfl rfl ?_ | refine G.eqStr0 rfl rfl rfl ?_ | refine G.eqStr rfl rfl rfl ?_ | refine G.eqPtr rfl rfl (tyy rfl) rfl ?_ | refine G.eqBool rfl rfl (tyy rfl) rfl ?_) | refine G.op rfl rfl ?_ ) | refine G.op rfl rfl ?_ | (refine G.atLoad ?_; first | refine G.loadOwn1 rfl (tyy rfl) rfl rfl Za rfl rfl ?_ | refine G.loadOwnA rfl (tyy rfl) rfl rfl Za rfl rfl ?_ | refine G.loadImm1 rfl (tyy rfl) rfl rfl Zp rfl ?_ | refine G.loadImmA rfl (tyy rfl) rfl rfl Zp Zp rfl ?_ | refine G.loadRowS rfl (tyy rfl) Zp Za Zo rfl ?_ | (refine G.loadRowB rfl (tyy rfl) Zp Za Zo rfl ?_; intro _)) | (refine G.atFld ?_; first | refine G.fieldAddr rfl (tyy rfl) rfl rfl ?_ | refine G.fieldAddrP rfl (tyy rfl) rfl rfl ?_) | (refine G.atBox ?_; refine G.box rfl rfl rfl ?_; intro _)        )
  . have e : crashM D l = { loseM D l with off := false, left := 0 } := by
      unfold crashM
      rw [if_neg (by simp_all)]
    rw [e]
    refine G.done0 (w0 := ⟨w0, [], h⟩) rfl ?_
    exact ⟨_, Zu, rfl⟩
  . have e : crashM D l = { D with off := false, left := 0 } := by
      unfold crashM
      rw [if_pos Zp]
    rw [e]
    refine G.done0 (w0 := ⟨w0, [], h⟩) rfl ?_
    exact ⟨_, Zu, rfl⟩
set_option maxRecDepth 8000 in
theorem disk_Read (d m : Nat) (v : Value) (D : Dk) (i : Int) (h : Heap) :
    Spec Tryd.prog 20 [.pointer (some ⟨d, 0, none⟩), .int .i64 i] h (dkC d m v D) (fun u _ H' => u = .tuple #[str (readM D i).1, .int .i64 (readM D i).2] /\ H' = dkC d m v D) := by
  have sp := disk_fails d m v D i
  obtain ⟨hg1, hg2⟩ := wE_get i D.W
  by_cases hf : failsM D i = 0
  . have e : readM D i = ((wGet D.W i).getD (strAt D.lasts i.toNat), 0) := by unfold readM; rw [if_neg (by simp [hf])]
    obtain ⟨f1, f2, f3⟩ := fails_ok hf
    have hsl : (strsR D.lasts).length = D.lasts.length := strsR_length _
    rw [e]
    cases hw : wGet D.W i with
    | none =>
      rw [hw] at hg1 hg2
      unfold dkC at sp ⊢
      refine Spec.enter Tryd.func20 rfl rfl ?_; intro w0
      repeat' (first | (show G _ (.ops .seq _ (⟨some _, .call { callee := .value (.func 33), args := _, argTypes := _ }, _, _, _, none⟩ :: _) :: _) _ _ _; refine G.call callFails rfl rfl (sp _) Ze ?_; rintro _ h2 H2 ⟨rfl, rfl⟩ hle2; rw [hf]) | (refine G.lookupOk rfl rfl (tyy rfl) (tyy rfl) (tyy rfl) Za rfl ?_; rw [hg2]) | (refine G.atCode ?_; first | refine G.seq ?_ | refine G.region ?_ | refine G.block ?_ | refine G.skip ?_ | refine G.exit rfl ?_ | refine G.ret ?_ | (refine G.cond rfl ?_ ?_ <;> intro hc <;> (try simp only [tests, reduceCtorEq] at hc) <;> (try exact Zf))) | refine G.endOps ?_ | refine G.endStill ?_ | refine G.endHeld ?_ | refine G.back ?_ | refine G.endBlk ?_ | (refine G.atBin ?_; first | (refine G.atNeq ?_; first | refine G.op rfl rfl ?_ | refine G.neStr0 rfl rfl rfl ?_ | refine G.neStr rfl rfl rfl ?_ | refine G.nePtr rfl rfl (tyy rfl) rfl ?_ | refine G.neBool rfl rfl (tyy rfl) rfl ?_) | refine G.op rfl rfl ?_ ) | refine G.op rfl rfl ?_ | (refine G.atLoad ?_; first | refine G.loadOwn1 rfl (tyy rfl) rfl rfl Za rfl rfl ?_ | refine G.loadOwnA rfl (tyy rfl) rfl rfl Za rfl rfl ?_ | refine G.loadImm1 rfl (tyy rfl) rfl rfl Zp rfl ?_ | refine G.loadImmA rfl (tyy rfl) rfl rfl Zp Zp rfl ?_ | refine G.loadRowS rfl (tyy rfl) Zp Za Zo rfl ?_ | (refine G.loadRowB rfl (tyy rfl) Zp Za Zo rfl ?_; intro _)) | (refine G.atFld ?_; first | refine G.fieldAddr rfl (tyy rfl) rfl rfl ?_ | refine G.fieldAddrP rfl (tyy rfl) rfl rfl ?_) | (refine G.atIdx ?_; first | (refine G.idxImmI rfl rfl (tyy rfl) (tyy rfl) Zl Zp Zj rfl Zo ?_; intro _ _ _) | (refine G.idxImmS rfl rfl (tyy rfl) (tyy rfl) Zl Zj rfl Zo ?_; intro _ _) | (refine G.idxImmB rfl rfl (tyy rfl) (tyy rfl) Zl Zj rfl Zo ?_; intro _ _ _) | (refine G.idxRow' rfl rfl (tyy rfl) (tyy rfl) Za Zj rfl Zo ?_; intro _ _) | (refine G.idxImmN rfl rfl (tyy rfl) (tyy rfl) Zl Zj rfl Zo ?_; intro _ _ _ _ _))  )
      exact G.done2 rfl rfl rfl _ Zu ⟨rfl, rfl⟩
    | some s =>
      rw [hw] at hg1 hg2
      unfold dkC at sp ⊢
      refine Spec.enter Tryd.func20 rfl rfl ?_; intro w0
      repeat' (first | (show G _ (.ops .seq _ (⟨some _, .call { callee := .value (.func 33), args := _, argTypes := _ }, _, _, _, none⟩ :: _) :: _) _ _ _; refine G.call callFails rfl rfl (sp _) Ze ?_; rintro _ h2 H2 ⟨rfl, rfl⟩ hle2; rw [hf]) | (refine G.lookupOk rfl rfl (tyy rfl) (tyy rfl) (tyy rfl) Za rfl ?_; rw [hg2, show mGet (Value.string ⟨#[]⟩) i (wE D.W) = str s from hg1]) | (refine G.atCode ?_; first | refine G.seq ?_ | refine G.region ?_ | refine G.block ?_ | refine G.skip ?_ | refine G.exit rfl ?_ | refine G.ret ?_ | (refine G.cond rfl ?_ ?_ <;> intro hc <;> (try simp only [tests, reduceCtorEq] at hc) <;> (try exact Zf))) | refine G.endOps ?_ | refine G.endStill ?_ | refine G.endHeld ?_ | refine G.back ?_ | refine G.endBlk ?_ | (refine G.atBin ?_; first | (refine G.atNeq ?_; first | refine G.op rfl rfl ?_ | refine G.neStr0 rfl rfl rfl ?_ | refine G.neStr rfl rfl rfl ?_ | refine G.nePtr rfl rfl (tyy rfl) rfl ?_ | refine G.neBool rfl rfl (tyy rfl) rfl ?_) | refine G.op rfl rfl ?_ ) | refine G.op rfl rfl ?_ | (refine G.atLoad ?_; first | refine G.loadOwn1 rfl (tyy rfl) rfl rfl Za rfl rfl ?_ | refine G.loadOwnA rfl (tyy rfl) rfl rfl Za rfl rfl ?_ | refine G.loadImm1 rfl (tyy rfl) rfl rfl Zp rfl ?_ | refine G.loadImmA rfl (tyy rfl) rfl rfl Zp Zp rfl ?_ | refine G.loadRowS rfl (tyy rfl) Zp Za Zo rfl ?_ | (refine G.loadRowB rfl (tyy rfl) Zp Za Zo rfl ?_; intro _)) | (refine G.atFld ?_; first | refine G.fieldAddr rfl (tyy rfl) rfl rfl ?_ | refine G.fieldAddrP rfl (tyy rfl) rfl rfl ?_) | (refine G.atIdx ?_; first | (refine G.idxImmI rfl rfl (tyy rfl) (tyy rfl) Zl Zp Zj rfl Zo ?_; intro _ _ _) | (refine G.idxImmS rfl rfl (tyy rfl) (tyy rfl) Zl Zj rfl Zo ?_; intro _ _) | (refine G.idxImmB rfl rfl (tyy rfl) (tyy rfl) Zl Zj rfl Zo ?_; intro _ _ _) | (refine G.idxRow' rfl rfl (tyy rfl) (tyy rfl) Za Zj rfl Zo ?_; intro _ _) | (refine G.idxImmN rfl rfl (tyy rfl) (tyy rfl) Zl Zj rfl Zo ?_; intro _ _ _ _ _))  )
      exact G.done2 rfl rfl rfl _ Zu ⟨rfl, rfl⟩
  . have e : readM D i = ([], failsM D i) := by unfold readM; rw [if_pos hf]
    rw [e]
    unfold dkC at sp ⊢
    refine Spec.enter Tryd.func20 rfl rfl ?_; intro w0
    repeat' (first | (show G _ (.ops .seq _ (⟨some _, .call { callee := .value (.func 33), args := _, argTypes := _ }, _, _, _, none⟩ :: _) :: _) _ _ _; refine G.call callFails rfl rfl (sp _) Ze ?_; rintro _ h2 H2 ⟨rfl, rfl⟩ hle2) | (refine G.atCode ?_; first | refine G.seq ?_ | refine G.region ?_ | refine G.block ?_ | refine G.skip ?_ | refine G.exit rfl ?_ | refine G.ret ?_ | (refine G.cond rfl ?_ ?_ <;> intro hc <;> (try simp only [tests, reduceCtorEq] at hc) <;> (try exact Zf))) | refine G.endOps ?_ | refine G.endStill ?_ | refine G.endHeld ?_ | refine G.back ?_ | refine G.endBlk ?_ | (refine G.atBin ?_; first | (refine G.atNeq ?_; first | refine G.op rfl rfl ?_ | refine G.neStr0 rfl rfl rfl ?_ | refine G.neStr rfl rfl rfl ?_ | refine G.nePtr rfl rfl (tyy rfl) rfl ?_ | refine G.neBool rfl rfl (tyy rfl) rfl ?_) | refine G.op rfl rfl ?_ ) | refine G.op rfl rfl ?_ | (refine G.atLoad ?_; first | refine G.loadOwn1 rfl (tyy rfl) rfl rfl Za rfl rfl ?_ | refine G.loadOwnA rfl (tyy rfl) rfl rfl Za rfl rfl ?_ | refine G.loadImm1 rfl (tyy rfl) rfl rfl Zp rfl ?_ | refine G.loadImmA rfl (tyy rfl) rfl rfl Zp Zp rfl ?_ | refine G.loadRowS rfl (tyy rfl) Zp Za Zo rfl ?_ | (refine G.loadRowB rfl (tyy rfl) Zp Za Zo rfl ?_; intro _)) | (refine G.atFld ?_; first | refine G.fieldAddr rfl (tyy rfl) rfl rfl ?_ | refine G.fieldAddrP rfl (tyy rfl) rfl rfl ?_) | (refine G.atIdx ?_; first | (refine G.idxImmI rfl rfl (tyy rfl) (tyy rfl) Zl Zp Zj rfl Zo ?_; intro _ _ _) | (refine G.idxImmS rfl rfl (tyy rfl) (tyy rfl) Zl Zj rfl Zo ?_; intro _ _) | (refine G.idxImmB rfl rfl (tyy rfl) (tyy rfl) Zl Zj rfl Zo ?_; intro _ _ _) | (refine G.idxRow' rfl rfl (tyy rfl) (tyy rfl) Za Zj rfl Zo ?_; intro _ _) | (refine G.idxImmN rfl rfl (tyy rfl) (tyy rfl) Zl Zj rfl Zo ?_; intro _ _ _ _ _))  )
    exact G.done2 rfl rfl rfl _ Zu ⟨rfl, rfl⟩
set_option maxRecDepth 8000 in
theorem disk_Write (d m : Nat) (v : Value) (D : Dk) (hD : D.Ok) (i : Int) (s : List UInt8) (h : Heap) :
    Spec Tryd.prog 38 [.pointer (some ⟨d, 0, none⟩), .int .i64 i, str s] h (dkC d m v D) (fun u _ H' => u = .int .i64 (writeM D i s).2 /\ H' = dkC d m v (writeM D i s).1) := by
  have sp := disk_fails d m v D i
  have sr := disk_Room d m v D
  by_cases hc1 : failsM D i = 0
  . by_cases hc2 : s.length = 128
    . by_cases hc3 : roomM D <= i
      . have e : writeM D i s = (D, 11) := by unfold writeM; rw [if_neg (by simp [hc1]), if_neg (by simp [hc2]), if_pos hc3]
        rw [e]
        unfold dkC at sp sr ⊢
        refine Spec.enter Tryd.func38 rfl rfl ?_; intro w0
        repeat' (first | (show G _ (.ops .seq _ (⟨some _, .call { callee := .value (.func 33), args := _, argTypes := _ }, _, _, _, none⟩ :: _) :: _) _ _ _; refine G.call callFails rfl rfl (sp _) Ze ?_; rintro _ h2 H2 ⟨rfl, rfl⟩ hle2; rw [hc1]) | (show G _ (.ops .seq _ (⟨some _, .call { callee := .value (.func 28), args := _, argTypes := _ }, _, _, _, none⟩ :: _) :: _) _ _ _; refine G.call callRoom rfl rfl (sr _) Ze ?_; rintro _ h3 H3 ⟨rfl, rfl⟩ hle3) | (refine G.atCode ?_; first | refine G.seq ?_ | refine G.region ?_ | refine G.block ?_ | refine G.skip ?_ | refine G.exit rfl ?_ | refine G.ret ?_ | (refine G.cond rfl ?_ ?_ <;> intro hc <;> (try simp only [tests, reduceCtorEq] at hc) <;> (try exact Zf))) | refine G.endOps ?_ | refine G.endStill ?_ | refine G.endHeld ?_ | refine G.back ?_ | refine G.endBlk ?_ | (refine G.atBin ?_; first | (refine G.atNeq ?_; first | refine G.op rfl rfl ?_ | refine G.neStr0 rfl rfl rfl ?_ | refine G.neStr rfl rfl rfl ?_ | refine G.nePtr rfl rfl (tyy rfl) rfl ?_ | refine G.neBool rfl rfl (tyy rfl) rfl ?_) | refine G.op rfl rfl ?_ ) | refine G.op rfl rfl ?_ | (refine G.atLen ?_; first | refine G.lenStr rfl (tyy rfl) rfl ?_ | refine G.lenSlice rfl (tyy rfl) rfl ?_ | refine G.lenRowB rfl (tyy rfl) Za rfl ?_ | refine G.lenRowS rfl (tyy rfl) Za rfl ?_ | refine G.lenRow rfl (tyy rfl) Za rfl ?_ | refine G.lenImmB rfl (tyy rfl) Zl rfl ?_ | refine G.lenImmI rfl (tyy rfl) Zl rfl ?_ | refine G.lenImmS rfl (tyy rfl) Zl rfl ?_ | refine G.lenImm rfl (tyy rfl) Zl rfl ?_) | (refine G.atLoad ?_; first | refine G.loadOwn1 rfl (tyy rfl) rfl rfl Za rfl rfl ?_ | refine G.loadOwnA rfl (tyy rfl) rfl rfl Za rfl rfl ?_ | refine G.loadImm1 rfl (tyy rfl) rfl rfl Zp rfl ?_ | refine G.loadImmA rfl (tyy rfl) rfl rfl Zp Zp rfl ?_ | refine G.loadRowS rfl (tyy rfl) Zp Za Zo rfl ?_ | (refine G.loadRowB rfl (tyy rfl) Zp Za Zo rfl ?_; intro _)) | (refine G.atFld ?_; first | refine G.fieldAddr rfl (tyy rfl) rfl rfl ?_ | refine G.fieldAddrP rfl (tyy rfl) rfl rfl ?_)           )
        exact G.done1 rfl rfl _ Zu ⟨rfl, rfl⟩
      . have e : writeM D i s = if (cutM (putD D i s)).2 then (failM (cutM (putD D i s)).1, 10) else ((cutM (putD D i s)).1, 0) := by unfold writeM; rw [if_neg (by simp [hc1]), if_neg (by simp [hc2]), if_neg hc3]
        rw [e]
        have hP := hD.put i hc2
        have sc := disk_cut d m v (putD D i s) hP
        have sf := disk_fail d m v (cutM (putD D i s)).1 hP.cut
        have hw := wE_put i s D.W D.c
        unfold dkC at sp sr sc sf ⊢
        refine Spec.enter Tryd.func38 rfl rfl ?_; intro w0
        repeat' (first | (show G _ (.ops .seq _ (⟨some _, .call { callee := .value (.func 33), args := _, argTypes := _ }, _, _, _, none⟩ :: _) :: _) _ _ _; refine G.call callFails rfl rfl (sp _) Ze ?_; rintro _ h2 H2 ⟨rfl, rfl⟩ hle2; rw [hc1]) | (show G _ (.ops .seq _ (⟨some _, .call { callee := .value (.func 28), args := _, argTypes := _ }, _, _, _, none⟩ :: _) :: _) _ _ _; refine G.call callRoom rfl rfl (sr _) Ze ?_; rintro _ h3 H3 ⟨rfl, rfl⟩ hle3) | (refine G.mapUpdate rfl rfl rfl (tyy rfl) (tyy rfl) Za ?_; rw [hw]) | (show G _ (.ops .seq _ (⟨some _, .call { callee := .value (.func 49), args := _, argTypes := _ }, _, _, _, none⟩ :: _) :: _) _ _ _; refine G.call callCutD rfl rfl (sc _) Ze ?_; rintro _ h4 H4 ⟨rfl, rfl⟩ hle4) | (show G _ (.ops .seq _ (⟨some _, .call { callee := .value (.func 50), args := _, argTypes := _ }, _, _, _, none⟩ :: _) :: _) _ _ _; refine G.call callFail5 rfl rfl (sf _) Ze ?_; rintro _ h5 H5 ⟨rfl, rfl⟩ hle5) | (refine G.atCode ?_; first | refine G.seq ?_ | refine G.region ?_ | refine G.block ?_ | refine G.skip ?_ | refine G.exit rfl ?_ | refine G.ret ?_ | (refine G.cond rfl ?_ ?_ <;> intro hc <;> (try simp only [tests, reduceCtorEq] at hc) <;> (try exact Zf))) | refine G.endOps ?_ | refine G.endStill ?_ | refine G.endHeld ?_ | refine G.back ?_ | refine G.endBlk ?_ | (refine G.atBin ?_; first | (refine G.atNeq ?_; first | refine G.op rfl rfl ?_ | refine G.neStr0 rfl rfl rfl ?_ | refine G.neStr rfl rfl rfl ?_ | refine G.nePtr rfl rfl (tyy rfl) rfl ?_ | refine G.neBool rfl rfl (tyy rfl) rfl ?_) | refine G.op rfl rfl ?_ ) | refine G.op rfl rfl ?_ | (refine G.atLen ?_; first | refine G.lenStr rfl (tyy rfl) rfl ?_ | refine G.lenSlice rfl (tyy rfl) rfl ?_ | refine G.lenRowB rfl (tyy rfl) Za rfl ?_ | refine G.lenRowS rfl (tyy rfl) Za rfl ?_ | refine G.lenRow rfl (tyy rfl) Za rfl ?_ | refine G.lenImmB rfl (tyy rfl) Zl rfl ?_ | refine G.lenImmI rfl (tyy rfl) Zl rfl ?_ | refine G.lenImmS rfl (tyy rfl) Zl rfl ?_ | refine G.lenImm rfl (tyy rfl) Zl rfl ?_) | (refine G.atLoad ?_; first | refine G.loadOwn1 rfl (tyy rfl) rfl rfl Za rfl rfl ?_ | refine G.loadOwnA rfl (tyy rfl) rfl rfl Za rfl rfl ?_ | refine G.loadImm1 rfl (tyy rfl) rfl rfl Zp rfl ?_ | refine G.loadImmA rfl (tyy rfl) rfl rfl Zp Zp rfl ?_ | refine G.loadRowS rfl (tyy rfl) Zp Za Zo rfl ?_ | (refine G.loadRowB rfl (tyy rfl) Zp Za Zo rfl ?_; intro _)) | (refine G.atFld ?_; first | refine G.fieldAddr rfl (tyy rfl) rfl rfl ?_ | refine G.fieldAddrP rfl (tyy rfl) rfl rfl ?_)           )
        . rw [if_pos Zp]
          exact G.done1 rfl rfl _ Zu ⟨rfl, rfl⟩
        . rw [if_neg (by simp_all)]
          exact G.done1 rfl rfl _ Zu ⟨rfl, rfl⟩
    . have e : writeM D i s = (D, 2) := by unfold writeM; rw [if_neg (by simp [hc1]), if_pos hc2]
      rw [e]
      unfold dkC at sp sr ⊢
      refine Spec.enter Tryd.func38 rfl rfl ?_; intro w0
      repeat' (first | (show G _ (.ops .seq _ (⟨some _, .call { callee := .value (.func 33), args := _, argTypes := _ }, _, _, _, none⟩ :: _) :: _) _ _ _; refine G.call callFails rfl rfl (sp _) Ze ?_; rintro _ h2 H2 ⟨rfl, rfl⟩ hle2; rw [hc1]) | (refine G.atCode ?_; first | refine G.seq ?_ | refine G.region ?_ | refine G.block ?_ | refine G.skip ?_ | refine G.exit rfl ?_ | refine G.ret ?_ | (refine G.cond rfl ?_ ?_ <;> intro hc <;> (try simp only [tests, reduceCtorEq] at hc) <;> (try exact Zf))) | refine G.endOps ?_ | refine G.endStill ?_ | refine G.endHeld ?_ | refine G.back ?_ | refine G.endBlk ?_ | (refine G.atBin ?_; first | (refine G.atNeq ?_; first | refine G.op rfl rfl ?_ | refine G.neStr0 rfl rfl rfl ?_ | refine G.neStr rfl rfl rfl ?_ | refine G.nePtr rfl rfl (tyy rfl) rfl ?_ | refine G.neBool rfl rfl (tyy rfl) rfl ?_) | refine G.op rfl rfl ?_ ) | refine G.op rfl rfl ?_ | (refine G.atLen ?_; first | refine G.lenStr rfl (tyy rfl) rfl ?_ | refine G.lenSlice rfl (tyy rfl) rfl ?_ | refine G.lenRowB rfl (tyy rfl) Za rfl ?_ | refine G.lenRowS rfl (tyy rfl) Za rfl ?_ | refine G.lenRow rfl (tyy rfl) Za rfl ?_ | refine G.lenImmB rfl (tyy rfl) Zl rfl ?_ | refine G.lenImmI rfl (tyy rfl) Zl rfl ?_ | refine G.lenImmS rfl (tyy rfl) Zl rfl ?_ | refine G.lenImm rfl (tyy rfl) Zl rfl ?_) | (refine G.atLoad ?_; first | refine G.loadOwn1 rfl (tyy rfl) rfl rfl Za rfl rfl ?_ | refine G.loadOwnA rfl (tyy rfl) rfl rfl Za rfl rfl ?_ | refine G.loadImm1 rfl (tyy rfl) rfl rfl Zp rfl ?_ | refine G.loadImmA rfl (tyy rfl) rfl rfl Zp Zp rfl ?_ | refine G.loadRowS rfl (tyy rfl) Zp Za Zo rfl ?_ | (refine G.loadRowB rfl (tyy rfl) Zp Za Zo rfl ?_; intro _)) | (refine G.atFld ?_; first | refine G.fieldAddr rfl (tyy rfl) rfl rfl ?_ | refine G.fieldAddrP rfl (tyy rfl) rfl rfl ?_)           )
      exact G.done1 rfl rfl _ Zu ⟨rfl, rfl⟩
  . have e : writeM D i s = (D, failsM D i) := by unfold writeM; rw [if_pos hc1]
    rw [e]
    unfold dkC at sp sr ⊢
    refine Spec.enter Tryd.func38 rfl rfl ?_; intro w0
    repeat' (first | (show G _ (.ops .seq _ (⟨some _, .call { callee := .value (.func 33), args := _, argTypes := _ }, _, _, _, none⟩ :: _) :: _) _ _ _; refine G.call callFails rfl rfl (sp _) Ze ?_; rintro _ h2 H2 ⟨rfl, rfl⟩ hle2) | (refine G.atCode ?_; first | refine G.seq ?_ | refine G.region ?_ | refine G.block ?_ | refine G.skip ?_ | refine G.exit rfl ?_ | refine G.ret ?_ | (refine G.cond rfl ?_ ?_ <;> intro hc <;> (try simp only [tests, reduceCtorEq] at hc) <;> (try exact Zf))) | refine G.endOps ?_ | refine G.endStill ?_ | refine G.endHeld ?_ | refine G.back ?_ | refine G.endBlk ?_ | (refine G.atBin ?_; first | (refine G.atNeq ?_; first | refine G.op rfl rfl ?_ | refine G.neStr0 rfl rfl rfl ?_ | refine G.neStr rfl rfl rfl ?_ | refine G.nePtr rfl rfl (tyy rfl) rfl ?_ | refine G.neBool rfl rfl (tyy rfl) rfl ?_) | refine G.op rfl rfl ?_ ) | refine G.op rfl rfl ?_ | (refine G.atLen ?_; first | refine G.lenStr rfl (tyy rfl) rfl ?_ | refine G.lenSlice rfl (tyy rfl) rfl ?_ | refine G.lenRowB rfl (tyy rfl) Za rfl ?_ | refine G.lenRowS rfl (tyy rfl) Za rfl ?_ | refine G.lenRow rfl (tyy rfl) Za rfl ?_ | refine G.lenImmB rfl (tyy rfl) Zl rfl ?_ | refine G.lenImmI rfl (tyy rfl) Zl rfl ?_ | refine G.lenImmS rfl (tyy rfl) Zl rfl ?_ | refine G.lenImm rfl (tyy rfl) Zl rfl ?_) | (refine G.atLoad ?_; first | refine G.loadOwn1 rfl (tyy rfl) rfl rfl Za rfl rfl ?_ | refine G.loadOwnA rfl (tyy rfl) rfl rfl Za rfl rfl ?_ | refine G.loadImm1 rfl (tyy rfl) rfl rfl Zp rfl ?_ | refine G.loadImmA rfl (tyy rfl) rfl rfl Zp Zp rfl ?_ | refine G.loadRowS rfl (tyy rfl) Zp Za Zo rfl ?_ | (refine G.loadRowB rfl (tyy rfl) Zp Za Zo rfl ?_; intro _)) | (refine G.atFld ?_; first | refine G.fieldAddr rfl (tyy rfl) rfl rfl ?_ | refine G.fieldAddrP rfl (tyy rfl) rfl rfl ?_)           )
    exact G.done1 rfl rfl _ Zu ⟨rfl, rfl⟩
end Go.Proofs.YtmbpjgjajedonaaDoor
