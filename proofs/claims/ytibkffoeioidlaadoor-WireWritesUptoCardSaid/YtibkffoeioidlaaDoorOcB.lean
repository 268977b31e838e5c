/- Types of attributes: dn.letter, dn.Type, castellanref09.in, Type. -/
import Derived.Test.YtibkffoeioidlaaDoorOcA
namespace Go.Proofs.YtibkffoeioidlaaDoor
set_option linter.all false
set_option maxRecDepth 4000
open Go.RowKit

def isLet (c : Int) : Bool := decide (97 <= c /\ c <= 122 \/ 65 <= c /\ c <= 90)
def isTc (c : Int) : Bool := decide ((97 <= c /\ c <= 122 \/ 65 <= c /\ c <= 90) \/ (48 <= c /\ c <= 57) \/ c = 45)
def typeM (s : List UInt8) : Bool := decide (1 <= s.length /\ s.length <= 32) && isLet (byteAt s 0) && s.all fun b => isTc b.toNat
theorem dn_letter (c : Int) (h : Heap) : Spec Tryd.prog 119 [.int .i32 c] h [] (fun u _ H' => u = .bool (isLet c) /\ H' = []) := by
  refine Spec.enter Tryd.func119 rfl rfl ?_; intro w0
  repeat' (first | (refine G.atCode ?_; first | refine G.seq ?_ | refine G.region ?_ | refine G.ret ?_) | refine G.endOps ?_ | (refine G.atGd ?_; first | refine G.guardYes rfl rfl ?_ | refine G.guardNoS rfl rfl rfl ?_ | refine G.guardU rfl rfl rfl ?_ | (refine G.guardS rfl rfl rfl ?_ ?_ <;> intro hc <;> (try simp only [tests, reduceCtorEq] at hc) <;> (try exact Zf))) | (refine G.atBin ?_; first | refine G.op rfl rfl ?_) | refine G.op rfl rfl ?_)
  all_goals exact G.done1 rfl rfl _ (SubH.nil _) ⟨(by first | exact congrArg Value.bool (decide_eq_decide.2 (by omega)) | exact congrArg Value.bool (decide_eq_true (by omega)).symm | exact congrArg Value.bool (decide_eq_false (by omega)).symm), rfl⟩
theorem typeM_no {s : List UInt8} {i : Nat} (hi : i < s.length) (hc : isTc (byteAt s i) = false) : typeM s = false := by
  have : s.all (fun b => isTc b.toNat) = false := by
    rw [List.all_eq_false]
    exact ⟨s[i], List.getElem_mem hi, by rw [byteAt_eq hi] at hc; simp [hc]⟩
  unfold typeM
  rw [this]; simp
theorem typeM_yes {s : List UInt8} (h1 : 1 <= s.length) (h2 : s.length <= 32) (h3 : isLet (byteAt s 0) = true) (h4 : ∀ i, i < s.length -> isTc (byteAt s i) = true) : typeM s = true := by
  have : s.all (fun b => isTc b.toNat) = true := by
    rw [List.all_eq_true]
    intro b hb
    obtain ⟨i, hi, rfl⟩ := List.getElem_of_mem hb
    have := h4 i hi
    rw [byteAt_eq hi] at this; exact this
  unfold typeM
  rw [this, h3, decide_eq_true ⟨h1, h2⟩]; rfl
set_option maxRecDepth 8000 in
theorem dn_Type (s : List UInt8) (h : Heap) : Spec Tryd.prog 116 [str s] h [] (fun u _ H' => u = .bool (typeM s) /\ H' = []) := by
  by_cases h1 : 1 <= s.length /\ s.length <= 32
  . cases h2 : isLet (byteAt s 0) with
    | false =>
      have e : typeM s = false := by unfold typeM; rw [h2]; simp
      rw [e]
      refine Spec.enter Tryd.func116 rfl rfl ?_; intro w0
      repeat' (first | (show G _ (.ops .seq _ (⟨some _, .call { callee := .value (.func 119), args := _, argTypes := _ }, _, _, _, none⟩ :: _) :: _) _ _ _; refine G.call callLetter rfl rfl (dn_letter _ _) Ze ?_; rintro _ h3 H3 ⟨rfl, rfl⟩ hle3; rw [h2]) | (refine G.atCode ?_; first | refine G.seq ?_ | refine G.region ?_ | refine G.ret ?_ | (refine G.cond rfl ?_ ?_ <;> intro hc <;> (try simp only [tests, reduceCtorEq] at hc) <;> (try exact Zf))) | refine G.endOps ?_ | (refine G.atGd ?_; first | refine G.guardYes rfl rfl ?_ | (refine G.guardS rfl rfl rfl ?_ ?_ <;> intro hc <;> (try simp only [tests, reduceCtorEq] at hc) <;> (try exact Zf))) | (refine G.atBin ?_; first | (refine G.atEql ?_; first | refine G.eqStr0 rfl rfl rfl ?_) | refine G.op rfl rfl ?_) | refine G.op rfl rfl ?_ | (refine G.atLen ?_; first | refine G.lenStr rfl (tyy rfl) rfl ?_) | (refine G.atInd ?_; refine G.idxStr rfl rfl (tyy rfl) rfl Zj Zo ?_; intro _) | (refine G.atConv ?_; first | refine G.conv rfl (tyy rfl) (tyy rfl) rfl Zi ?_))
      all_goals exact G.done1 rfl rfl _ (SubH.nil _) ⟨rfl, rfl⟩
    | true =>
      refine Spec.enter Tryd.func116 rfl rfl ?_; intro w0
      repeat' (first | (show G _ (.ops .seq _ (⟨some _, .call { callee := .value (.func 119), args := _, argTypes := _ }, _, _, _, none⟩ :: _) :: _) _ _ _; refine G.call callLetter rfl rfl (dn_letter _ _) Ze ?_; rintro _ h3 H3 ⟨rfl, rfl⟩ hle3; rw [h2]) | (refine G.rangeStr rfl (tyy rfl) rfl ?_; intro _) | (refine G.atCode ?_; refine G.stopLoop ?_) | (refine G.atCode ?_; first | refine G.seq ?_ | refine G.region ?_ | refine G.block ?_ | refine G.skip ?_ | (refine G.cond rfl ?_ ?_ <;> intro hc <;> (try simp only [tests, reduceCtorEq] at hc) <;> (try exact Zf))) | refine G.endOps ?_ | (refine G.atGd ?_; first | refine G.guardYes rfl rfl ?_ | (refine G.guardS rfl rfl rfl ?_ ?_ <;> intro hc <;> (try simp only [tests, reduceCtorEq] at hc) <;> (try exact Zf))) | (refine G.atBin ?_; first | (refine G.atEql ?_; first | refine G.eqStr0 rfl rfl rfl ?_) | refine G.op rfl rfl ?_) | refine G.op rfl rfl ?_ | (refine G.atLen ?_; first | refine G.lenStr rfl (tyy rfl) rfl ?_) | (refine G.atInd ?_; refine G.idxStr rfl rfl (tyy rfl) rfl Zj Zo ?_; intro _) | (refine G.atConv ?_; first | refine G.conv rfl (tyy rfl) (tyy rfl) rfl Zi ?_))
      rename_i r
      refine G.go ?_
      refine G.loop (σ := Nat) (fun _ => [(20, .pointer (some ⟨r, 0, none⟩))]) (fun p => [.obj r (.stringIter (bA s) p)])
        (fun p _ => p <= s.length /\ ∀ i, i < p -> isTc (byteAt s i) = true) (fun p => s.length - p) 0 ⟨rfl, trivial⟩ Zu ⟨Nat.zero_le _, fun i hi => absurd hi (by omega)⟩ ?_
      rintro p h5 hle5 ⟨hp, hall⟩
      by_cases hlt : p < s.length
      . by_cases hb : byteAt s p < 128
        . have hru : runeAt s p = (byteAt s p, 1) := by rw [byteAt_eq hlt] at hb ⊢; exact runeAt_low hlt hb
          cases hit : isTc (byteAt s p) with
          | true =>
            have hit' := hit
            simp only [isTc, decide_eq_true_eq] at hit'
            repeat' (first | (refine G.nextStr rfl Za rfl (fun hnx => absurd hnx (by omega)) ?_; intro hnx; rw [hru]) | (show G _ (.ops .seq _ (⟨some _, .call { callee := .value (.func 119), args := _, argTypes := _ }, _, _, _, none⟩ :: _) :: _) _ _ _; refine G.call callLetter rfl rfl (dn_letter _ _) Ze ?_; rintro _ h3 H3 ⟨rfl, rfl⟩ hle3; simp only [isLet]) | (refine G.atCode ?_; first | refine G.seq ?_ | refine G.region ?_ | refine G.block ?_ | refine G.skip ?_ | (refine G.cond rfl ?_ ?_ <;> intro hc <;> (try simp only [tests, reduceCtorEq] at hc) <;> (try exact Zf))) | refine G.endOps ?_ | refine G.endBlk ?_ | (refine G.atGd ?_; first | refine G.guardYes rfl rfl ?_ | refine G.guardNoS rfl rfl rfl ?_ | refine G.guardU rfl rfl rfl ?_ | (refine G.guardS rfl rfl rfl ?_ ?_ <;> intro hc <;> (try simp only [tests, reduceCtorEq] at hc) <;> (try exact Zf))) | (refine G.atBin ?_; first | (refine G.atNeq ?_; first | refine G.op rfl rfl ?_) | refine G.op rfl rfl ?_) | refine G.op rfl rfl ?_)
            all_goals exact G.again (p + 1) ⟨rfl, trivial⟩ Zu ⟨by omega, fun i hi => if hip : i < p then hall i hip else (show i = p by omega) ▸ hit⟩ (by solve | repeat first | assumption | exact Zr _ | refine Zq ?_ Zp) (by omega)
          | false =>
            have e := typeM_no hlt hit
            rw [e]
            simp only [isTc, decide_eq_false_iff_not] at hit
            repeat' (first | (refine G.nextStr rfl Za rfl (fun hnx => absurd hnx (by omega)) ?_; intro hnx; rw [hru]) | (show G _ (.ops .seq _ (⟨some _, .call { callee := .value (.func 119), args := _, argTypes := _ }, _, _, _, none⟩ :: _) :: _) _ _ _; refine G.call callLetter rfl rfl (dn_letter _ _) Ze ?_; rintro _ h3 H3 ⟨rfl, rfl⟩ hle3; simp only [isLet]) | (refine G.atCode ?_; first | refine G.seq ?_ | refine G.region ?_ | refine G.block ?_ | refine G.skip ?_ | refine G.ret ?_ | (refine G.cond rfl ?_ ?_ <;> intro hc <;> (try simp only [tests, reduceCtorEq] at hc) <;> (try exact Zf))) | refine G.endOps ?_ | (refine G.atGd ?_; first | refine G.guardYes rfl rfl ?_ | refine G.guardNoS rfl rfl rfl ?_ | (refine G.guardS rfl rfl rfl ?_ ?_ <;> intro hc <;> (try simp only [tests, reduceCtorEq] at hc) <;> (try exact Zf))) | (refine G.atBin ?_; first | (refine G.atNeq ?_; first | refine G.op rfl rfl ?_) | refine G.op rfl rfl ?_) | refine G.op rfl rfl ?_)
            all_goals first | (exfalso; omega) | exact G.done1 rfl rfl _ (SubH.nil _) ⟨rfl, rfl⟩
        . obtain ⟨g1, g2, g3⟩ := runeAt_high hlt (by rw [byteAt_eq hlt] at hb; exact hb)
          have e := typeM_no hlt (by unfold isTc; rw [decide_eq_false_iff_not]; omega)
          rw [e]
          rcases hru : runeAt s p with ⟨rn, wd⟩
          rw [hru] at g1 g2 g3
          simp only at g1 g2 g3
          repeat' (first | (refine G.nextStr rfl Za rfl (fun hnx => absurd hnx (by omega)) ?_; intro hnx; rw [hru]) | (show G _ (.ops .seq _ (⟨some _, .call { callee := .value (.func 119), args := _, argTypes := _ }, _, _, _, none⟩ :: _) :: _) _ _ _; refine G.call callLetter rfl rfl (dn_letter _ _) Ze ?_; rintro _ h3 H3 ⟨rfl, rfl⟩ hle3; simp only [isLet]) | (refine G.atCode ?_; first | refine G.seq ?_ | refine G.region ?_ | refine G.block ?_ | refine G.skip ?_ | refine G.ret ?_ | (refine G.cond rfl ?_ ?_ <;> intro hc <;> (try simp only [tests, reduceCtorEq] at hc) <;> (try exact Zf))) | refine G.endOps ?_ | (refine G.atGd ?_; first | refine G.guardYes rfl rfl ?_ | (refine G.guardS rfl rfl rfl ?_ ?_ <;> intro hc <;> (try simp only [tests, reduceCtorEq] at hc) <;> (try exact Zf))) | (refine G.atBin ?_; first | (refine G.atNeq ?_; first | refine G.op rfl rfl ?_) | refine G.op rfl rfl ?_) | refine G.op rfl rfl ?_)
          all_goals first | (exfalso; omega) | exact G.done1 rfl rfl _ (SubH.nil _) ⟨rfl, rfl⟩
      . obtain rfl : p = s.length := by omega
        have e := typeM_yes h1.1 h1.2 h2 hall
        rw [e]
        repeat' (first | (refine G.nextStr rfl Za rfl ?_ (fun hnx => absurd hnx (by omega)); intro hnx) | (refine G.atCode ?_; first | refine G.seq ?_ | refine G.region ?_ | refine G.exit rfl ?_ | refine G.ret ?_ | (refine G.cond rfl ?_ ?_ <;> intro hc <;> (try simp only [tests, reduceCtorEq] at hc) <;> (try exact Zf))) | refine G.endOps ?_ | refine G.op rfl rfl ?_)
        all_goals exact G.done1 rfl rfl _ (SubH.nil _) ⟨rfl, rfl⟩
  . have e : typeM s = false := by unfold typeM; rw [decide_eq_false h1]; simp
    rw [e]
    refine Spec.enter Tryd.func116 rfl rfl ?_; intro w0
    repeat' (first | (refine G.atCode ?_; first | refine G.seq ?_ | refine G.region ?_ | refine G.ret ?_ | (refine G.cond rfl ?_ ?_ <;> intro hc <;> (try simp only [tests, reduceCtorEq] at hc) <;> (try exact Zf))) | refine G.endOps ?_ | (refine G.atGd ?_; first | refine G.guardYes rfl rfl ?_ | refine G.guardNoS rfl rfl rfl ?_ | (refine G.guardS rfl rfl rfl ?_ ?_ <;> intro hc <;> (try simp only [tests, reduceCtorEq] at hc) <;> (try exact Zf))) | (refine G.atBin ?_; first | (refine G.atEql ?_; first | refine G.eqStr0 rfl rfl rfl ?_) | refine G.op rfl rfl ?_) | refine G.op rfl rfl ?_ | (refine G.atLen ?_; first | refine G.lenStr rfl (tyy rfl) rfl ?_))
    all_goals first | (exfalso; omega) | exact G.done1 rfl rfl _ (SubH.nil _) ⟨rfl, rfl⟩
end Go.Proofs.YtibkffoeioidlaaDoor
