/- strings.IndexRune and IndexAny among four signs. -/
import Derived.Test.YtcghcdnmpjhifaaDoorFlA
namespace Go.Proofs.YtcghcdnmpjhifaaDoor
set_option linter.all false
set_option maxRecDepth 4000
open Go.RowKit

theorem sgn_low (i : Nat) : byteAt sgn i < 128 := by
  match i with
  | 0 => decide
  | 1 => decide
  | 2 => decide
  | 3 => decide
  | i + 4 => unfold byteAt sgn; simp
theorem posB_high {c : UInt8} (hc : 128 <= c.toNat) (j : Nat) : posB c (sgn.drop j) = (sgn.drop j).length := by
  refine posB_none fun i hi e => ?_
  rw [List.getElem?_drop] at e
  have := sgn_low (j + i)
  unfold byteAt at this
  rw [e] at this
  simp at this
  omega
theorem enc_L (r : Int) (hv : Utf8.valid r = true) (h1 : 128 <= r) : ∃ L : List UInt8, L = (Utf8.encode r).data.toList /\ 2 <= L.length /\ L.length <= 4 /\ 128 <= byteAt L (L.length - 1) := by
  have h := encode_facts r hv h1
  generalize Utf8.encode r = B at h
  obtain ⟨f1, f2, f3⟩ := h
  have e := Lib.size_eq B
  have h6 : B.size - 1 < B.size := by omega
  have h8 := Lib.data_getElem? B (B.size - 1) h6
  have h7 := f3 h6
  refine ⟨_, rfl, by omega, by omega, ?_⟩
  rw [<- e]
  unfold byteAt
  rw [h8]
  exact h7
def posR (r : Int) : Int := if r < 128 then (if posB (UInt8.ofNat r.toNat) sgn < 4 then (posB (UInt8.ofNat r.toNat) sgn : Int) else -1) else -1
set_option maxRecDepth 8000 in
set_option maxHeartbeats 2000000 in
theorem str_IndexRune (r : Nat) (hr : r <= 1114111) (h : Heap) : Spec Tryd.prog 52 [str sgn, .int .i32 r] h [] (fun u _ H' => u = .int .i64 (posR r) /\ H' = []) := by
  have hsl : sgn.length = 4 := rfl
  by_cases hlow : r < 128
  . have e : posR r = if posB (UInt8.ofNat r) sgn < sgn.length then (posB (UInt8.ofNat r) sgn : Int) else -1 := by
      unfold posR; rw [if_pos (by omega), hsl]; rfl
    rw [e]
    refine Spec.enter Tryd.func52 rfl rfl ?_; intro w0
    repeat' (first | (show G _ (.ops .seq _ (⟨some _, .call { callee := .value (.func 46), args := _, argTypes := _ }, _, _, _, none⟩ :: _) :: _) _ _ _; refine G.call callIdxB rfl rfl (str_IndexByte sgn r (by omega) _) Ze ?_; rintro _ h2 H2 ⟨rfl, rfl⟩ hle2) | (refine G.atCode ?_; first | refine G.seq ?_ | refine G.region ?_ | refine G.block ?_ | refine G.ret ?_ | (refine G.cond rfl ?_ ?_ <;> intro hc <;> (try simp only [tests, reduceCtorEq] at hc) <;> (try exact Zf))) | refine G.endOps ?_ | (refine G.atGd ?_; first | refine G.guardYes rfl rfl ?_) | (refine G.atBin ?_; first | refine G.op rfl rfl ?_) | refine G.op rfl rfl ?_ | (refine G.atConv ?_; first | refine G.conv rfl (tyy rfl) (tyy rfl) rfl Zi ?_))
    all_goals first | (exfalso; omega) | exact G.done1 rfl rfl _ (SubH.nil _) ⟨rfl, rfl⟩
  have e : posR r = -1 := by unfold posR; rw [if_neg (by omega)]
  rw [e]
  by_cases herr : r = 65533
  . refine Spec.enter Tryd.func52 rfl rfl ?_; intro w0
    repeat' (first | (refine G.rangeStr rfl (tyy rfl) rfl ?_; intro _) | (refine G.atCode ?_; refine G.stopLoop ?_) | (refine G.atCode ?_; first | refine G.seq ?_ | refine G.region ?_ | refine G.block ?_ | (refine G.cond rfl ?_ ?_ <;> intro hc <;> (try simp only [tests, reduceCtorEq] at hc) <;> (try exact Zf))) | refine G.endOps ?_ | (refine G.atGd ?_; first | refine G.guardYes rfl rfl ?_) | (refine G.atBin ?_; first | (refine G.atEql ?_; first | refine G.op rfl rfl ?_) | refine G.op rfl rfl ?_) | refine G.op rfl rfl ?_)
    all_goals try (exfalso; omega)
    rename_i it
    refine G.go ?_
    refine G.loop (σ := Nat) (fun _ => [(175, .pointer (some ⟨it, 0, none⟩))]) (fun p => [.obj it (.stringIter (bA sgn) p)])
      (fun p _ => p <= 4) (fun p => 4 - p) 0 ⟨rfl, trivial⟩ Zu (Nat.zero_le _) ?_
    rintro p h5 hle5 hp
    by_cases hlt : p < 4
    . have hb := sgn_low p
      have hru : runeAt sgn p = (byteAt sgn p, 1) := by rw [byteAt_eq (by omega)] at hb ⊢; exact runeAt_low (by omega) hb
      repeat' (first | (refine G.nextStr rfl Za rfl (fun hnx => absurd hnx (by omega)) ?_; intro hnx; rw [hru]) | (refine G.atCode ?_; first | refine G.seq ?_ | refine G.region ?_ | refine G.block ?_ | refine G.skip ?_ | (refine G.cond rfl ?_ ?_ <;> intro hc <;> (try simp only [tests, reduceCtorEq] at hc) <;> (try exact Zf))) | refine G.endOps ?_ | refine G.endBlk ?_ | (refine G.atBin ?_; first | (refine G.atEql ?_; first | refine G.op rfl rfl ?_)) | refine G.op rfl rfl ?_)
      all_goals first | (exfalso; omega) | exact G.again (p + 1) ⟨rfl, trivial⟩ Zu (by omega) (by solve | repeat first | assumption | exact Zr _ | refine Zq ?_ Zp) (by omega)
    . obtain rfl : p = sgn.length := by omega
      repeat' (first | (refine G.nextStr rfl Za rfl ?_ (fun hnx => absurd hnx (by omega)); intro hnx) | (refine G.atCode ?_; first | refine G.seq ?_ | refine G.region ?_ | refine G.exit rfl ?_ | refine G.ret ?_ | (refine G.cond rfl ?_ ?_ <;> intro hc <;> (try simp only [tests, reduceCtorEq] at hc) <;> (try exact Zf))) | refine G.endOps ?_ | refine G.op rfl rfl ?_)
      all_goals first | (exfalso; omega) | exact G.done1 rfl rfl _ (SubH.nil _) ⟨rfl, rfl⟩
  cases hv : validRune r with
  | false =>
    refine Spec.enter Tryd.func52 rfl rfl ?_; intro w0
    repeat' (first | (show G _ (.ops .seq _ (⟨some _, .call { callee := .value (.func 61), args := _, argTypes := _ }, _, _, _, none⟩ :: _) :: _) _ _ _; refine G.call callVRune rfl rfl (utf8_ValidRune r _) Ze ?_; rintro _ h2 H2 ⟨rfl, rfl⟩ hle2; rw [hv]) | (refine G.atCode ?_; first | refine G.seq ?_ | refine G.region ?_ | refine G.block ?_ | refine G.ret ?_ | (refine G.cond rfl ?_ ?_ <;> intro hc <;> (try simp only [tests, reduceCtorEq] at hc) <;> (try exact Zf))) | refine G.endOps ?_ | (refine G.atGd ?_; first | refine G.guardYes rfl rfl ?_) | (refine G.atBin ?_; first | (refine G.atEql ?_; first | refine G.op rfl rfl ?_) | refine G.op rfl rfl ?_) | refine G.op rfl rfl ?_)
    all_goals first | (exfalso; omega) | exact G.done1 rfl rfl _ (SubH.nil _) ⟨rfl, rfl⟩
  | true =>
    obtain ⟨L, hL, f1, f2, hlast⟩ := enc_L r (by rw [validRune_eq]; exact hv) (by omega)
    have hph : ∀ j, posB (UInt8.ofNat (byteAt L (L.length - 1))) (sgn.drop j) = (sgn.drop j).length := fun j => posB_high (by rw [ofNat_byteAt (by omega), ← byteAt_eq]; exact hlast) j
    refine Spec.enter Tryd.func52 rfl rfl ?_; intro w0
    repeat' (first | (show G _ (.ops .seq _ (⟨some _, .call { callee := .value (.func 61), args := _, argTypes := _ }, _, _, _, none⟩ :: _) :: _) _ _ _; refine G.call callVRune rfl rfl (utf8_ValidRune r _) Ze ?_; rintro _ h2 H2 ⟨rfl, rfl⟩ hle2; rw [hv]) | (refine G.atCode ?_; first | refine G.scope ?_ | refine G.stopLoop ?_) | (refine G.atConv ?_; refine G.convRune rfl (tyy rfl) (tyy rfl) rfl ?_; rw [<- hL]) | (refine G.atCode ?_; first | refine G.seq ?_ | refine G.region ?_ | refine G.block ?_ | (refine G.cond rfl ?_ ?_ <;> intro hc <;> (try simp only [tests, reduceCtorEq] at hc) <;> (try exact Zf))) | refine G.endOps ?_ | (refine G.atGd ?_; first | refine G.guardYes rfl rfl ?_) | (refine G.atBin ?_; first | (refine G.atSub ?_; first | refine G.arith rfl rfl rfl rfl rfl Zi ?_) | (refine G.atEql ?_; first | refine G.op rfl rfl ?_) | refine G.op rfl rfl ?_) | refine G.op rfl rfl ?_ | (refine G.atLen ?_; first | refine G.lenStr rfl (tyy rfl) rfl ?_))
    all_goals try (exfalso; omega)
    refine G.go ?_
    refine G.loop (σ := Unit) (fun _ => [(0, str sgn), (7, str L), (8, .int .i64 (L.length - 1)), (9, .int .i64 (L.length - 1))]) (fun _ => [])
      (fun _ _ => True) (fun _ => 0) () ⟨rfl, rfl, rfl, rfl, trivial⟩ Zu trivial ?_
    rintro _ h5 hle5 _
    have hnn : ((L.length : Int) - 1).toNat = L.length - 1 := by omega
    have hsb := sgn_low (L.length - 1)
    repeat' (first | (refine G.atCode ?_; first | refine G.scope ?_) | (refine G.atInd ?_; refine G.idxStr rfl rfl (tyy rfl) rfl hnn Zo ?_; intro _) | (show G _ (.ops .seq _ (⟨some _, .call { callee := .value (.func 46), args := _, argTypes := _ }, _, _, _, none⟩ :: _) :: _) _ _ _; refine G.call callIdxB rfl rfl (str_IndexByte _ (byteAt L (L.length - 1)) (by omega) _) Ze ?_; rintro _ h2 H2 ⟨rfl, rfl⟩ hle2; rw [hph, if_neg (Nat.lt_irrefl _)]) | (refine G.atCode ?_; first | refine G.seq ?_ | refine G.region ?_ | refine G.block ?_ | refine G.skip ?_ | refine G.drawAuto mixedOk rfl Zw ?_ | refine G.drawAll slB Zw mixedOk Zw ?_ | refine G.ret ?_ | (refine G.cond rfl ?_ ?_ <;> intro hc <;> (try simp only [tests, reduceCtorEq] at hc) <;> (try exact Zf))) | refine G.endOps ?_ | refine G.endStill ?_ | (refine G.atBin ?_; first | (refine G.atAdd ?_; first | refine G.arith rfl rfl rfl rfl rfl Zi ?_) | (refine G.atNeq ?_; first | refine G.op rfl rfl ?_) | refine G.op rfl rfl ?_) | refine G.op rfl rfl ?_ | (refine G.atLen ?_; first | refine G.lenStr rfl (tyy rfl) rfl ?_) | (refine G.atSlc ?_; first | refine G.dropStr rfl rfl (tyy rfl) rfl Zj Zo ?_))
    all_goals first | (exfalso; omega) | exact G.done1 rfl rfl _ (SubH.nil _) ⟨rfl, rfl⟩
end Go.Proofs.YtcghcdnmpjhifaaDoor
