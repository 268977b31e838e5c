/- Small letters, hexadecimal digits, types of attributes: what octet, castellanref01, dn and castellanref09 do on bytes. -/
import Derived.Test.YtibkffoeioidlaaDoorLtY
import Derived.Test.YtibkffoeioidlaaDoorTy
namespace Go.Proofs.YtibkffoeioidlaaDoor
set_option linter.all false
set_option maxRecDepth 4000
open Go.RowKit

def lowB (b : UInt8) : UInt8 := if 65 ≤ b.toNat ∧ b.toNat ≤ 90 then UInt8.ofNat (b.toNat + 32) else b
def foldM (s : List UInt8) : List UInt8 := s.map lowB
theorem foldM_len (s : List UInt8) : (foldM s).length = s.length := by simp [foldM]
theorem byteAt_eq {s : List UInt8} {i : Nat} (h : i < s.length) : byteAt s i = (s[i]'h).toNat := by unfold byteAt; simp [h]
theorem ofNat_byteAt {s : List UInt8} {i : Nat} (h : i < s.length) : UInt8.ofNat (byteAt s i) = s[i]'h := by rw [byteAt_eq h]; simp
theorem lowB_up {s : List UInt8} {i : Nat} (h : i < s.length) (hc : 65 ≤ byteAt s i ∧ byteAt s i ≤ 90) : lowB (s[i]'h) = UInt8.ofNat (byteAt s i + 32) := by
  rw [byteAt_eq h] at hc ⊢; unfold lowB; rw [if_pos hc]
theorem lowB_no {s : List UInt8} {i : Nat} (h : i < s.length) (hc : ¬ (65 ≤ byteAt s i ∧ byteAt s i ≤ 90)) : lowB (s[i]'h) = s[i]'h := by
  rw [byteAt_eq h] at hc; unfold lowB; rw [if_neg hc]
theorem callRFold : Callable Tryd.prog 120 := ⟨_, Tryd.func120, by kernel_rfl, rfl⟩
theorem callLetter : Callable Tryd.prog 119 := ⟨_, Tryd.func119, by kernel_rfl, rfl⟩
theorem callType9 : Callable Tryd.prog 116 := ⟨_, Tryd.func116, by kernel_rfl, rfl⟩
theorem callRType9 : Callable Tryd.prog 118 := ⟨_, Tryd.func118, by kernel_rfl, rfl⟩
theorem callIn9 : Callable Tryd.prog 121 := ⟨_, Tryd.func121, by kernel_rfl, rfl⟩
theorem ref01_Fold (s : List UInt8) (hs : s.length ≤ 100000000) (h : Heap) : Spec Tryd.prog 120 [str s] h [] (fun u _ H' => u = str (foldM s) ∧ H' = []) := by
  refine Spec.enter Tryd.func120 rfl rfl ?_; intro w0
  repeat' (first | (refine G.atCode ?_; refine G.stopLoop ?_) | (refine G.atCode ?_; first | refine G.seq ?_ | refine G.region ?_ | refine G.block ?_) | refine G.endOps ?_ | refine G.op rfl rfl ?_)
  refine G.nilRowB 5 ?_
  refine G.go ?_
  refine G.loop (σ := Nat × Value) (fun x => [(4, .int .i64 x.1), (3, x.2), (0, str s)])
    (fun x => [.row x.2 5 1 (bytesR (foldM (s.take x.1)))])
    (fun x _ => x.1 ≤ s.length) (fun x => s.length - x.1) ⟨0, .slice none 0 0⟩ ⟨rfl, rfl, rfl, trivial⟩ (by solve | (apply Takes.sub; (repeat (first | apply Takes.nil | apply Take.hd | apply Take.tl | apply Takes.cons)))) (Nat.zero_le _) ?_
  rintro ⟨i, v⟩ h1 hle1 hi
  simp only at hi
  refine G.norm (by (try dsimp only) <;> exact rfl) (by (try dsimp only) <;> exact rfl) ?_
  have hfl : (foldM (s.take i)).length = i := by rw [foldM_len, List.length_take]; omega
  by_cases hlt : i < s.length
  · have hnext : foldM (s.take (i + 1)) = foldM (s.take i) ++ [lowB (s[i]'hlt)] := by rw [List.take_succ_eq_append_getElem hlt]; simp only [foldM, List.map_append, List.map_cons, List.map_nil]
    have hup := fun hc => lowB_up hlt hc
    have hno := fun hc => lowB_no hlt hc
    have hof := ofNat_byteAt hlt
    generalize foldM (s.take i) = B at *
    repeat' (first | (refine G.atCode ?_; first | refine G.seq ?_ | refine G.region ?_ | refine G.block ?_ | refine G.skip ?_ | (refine G.cond rfl ?_ ?_ <;> intro hc <;> (try simp only [tests, reduceCtorEq] at hc) <;> (try (exfalso; first | omega | exact absurd hc (by with_reducible assumption) | exact absurd (by with_reducible assumption) hc | exact Bool.noConfusion hc | exact hc | exact hc trivial | fail)))) | refine G.endOps ?_ | refine G.endBlk ?_ | (refine G.atGd ?_; first | refine G.guardYes rfl rfl ?_ | refine G.guardNoS rfl rfl rfl ?_ | (refine G.guardS rfl rfl rfl ?_ ?_ <;> intro hc <;> (try simp only [tests, reduceCtorEq] at hc) <;> (try (exfalso; first | omega | exact absurd hc (by with_reducible assumption) | exact absurd (by with_reducible assumption) hc | exact Bool.noConfusion hc | exact hc | exact hc trivial | fail)))) | (refine G.atBin ?_; first | (refine G.atAdd ?_; first | refine G.arith rfl rfl rfl rfl rfl (by simp only [inR]; omega) ?_) | (refine G.atSub ?_; first | refine G.arith rfl rfl rfl rfl rfl (by simp only [inR]; omega) ?_) | refine G.op rfl rfl ?_) | refine G.op rfl rfl ?_ | (refine G.atLen ?_; first | refine G.lenStr rfl (tyy rfl) rfl ?_) | (refine G.atBsl ?_; refine G.buildSlice (tyy rfl) (tyy rfl) rfl rfl rfl rfl ?_; intro _) | (refine G.atApp ?_; first | (refine G.append1B rfl rfl (tyy rfl) (tyy rfl) rfl rfl (by solve | (repeat (first | apply Take.hd | apply Take.tl))) (by solve | (repeat (first | apply Take.hd | apply Take.tl))) rfl (by first | omega | (simp only [lens] at *; omega)) (by first | omega | (simp only [lens] at *; omega)) ?_; intro _)) | (refine G.atInd ?_; refine G.idxStr rfl rfl (tyy rfl) rfl (by first | (simp only [Int.reduceToNat]; rfl) | with_reducible apply Int.toNat_natCast | exact Eq.refl _) (by first | omega | (simp only [lens] at *; omega)) ?_; intro _))
    · have e : UInt8.ofNat ((byteAt s i : Int) - 65 + 97).toNat = lowB (s[i]'hlt) := by rw [hup (by omega), show ((byteAt s i : Int) - 65 + 97).toNat = byteAt s i + 32 by omega]
      rw [e, ← hnext]
      exact G.again ⟨i + 1, _⟩ ⟨sint (by simp), rfl, rfl, trivial⟩ (by solve | (apply Takes.sub; (repeat (first | apply Takes.nil | apply Take.hd | apply Take.tl | apply Takes.cons)))) (by simp only; omega) (Heap.le_refl _) (by simp only; omega)
    all_goals (
      have e : UInt8.ofNat ((byteAt s i : Nat) : Int).toNat = lowB (s[i]'hlt) := by rw [hno (by omega), Int.toNat_natCast, hof]
      rw [e, ← hnext]
      exact G.again ⟨i + 1, _⟩ ⟨sint (by simp), rfl, rfl, trivial⟩ (by solve | (apply Takes.sub; (repeat (first | apply Takes.nil | apply Take.hd | apply Take.tl | apply Takes.cons)))) (by simp only; omega) (Heap.le_refl _) (by simp only; omega))
  · obtain rfl : i = s.length := by omega
    rw [List.take_length]
    repeat' (first | (refine G.atCode ?_; first | refine G.seq ?_ | refine G.region ?_ | refine G.exit rfl ?_ | refine G.ret ?_ | (refine G.cond rfl ?_ ?_ <;> intro hc <;> (try simp only [tests, reduceCtorEq] at hc) <;> (try (exfalso; first | omega | exact absurd hc (by with_reducible assumption) | exact absurd (by with_reducible assumption) hc | exact Bool.noConfusion hc | exact hc | exact hc trivial | fail)))) | refine G.endOps ?_ | (refine G.atBin ?_; first | refine G.op rfl rfl ?_) | refine G.op rfl rfl ?_ | (refine G.atLen ?_; first | refine G.lenStr rfl (tyy rfl) rfl ?_) | (refine G.atConv ?_; first | refine G.convStr rfl (tyy rfl) (tyy rfl) (tyy rfl) (by solve | (repeat (first | apply Take.hd | apply Take.tl))) rfl ?_))
    all_goals exact G.done1 rfl rfl _ (SubH.nil _) ⟨rfl, rfl⟩
end Go.Proofs.YtibkffoeioidlaaDoor
namespace Go.Proofs.YtibkffoeioidlaaDoor
set_option linter.all false
set_option maxRecDepth 4000
open Go.RowKit

def isLet (c : Int) : Bool := decide (97 ≤ c ∧ c ≤ 122 ∨ 65 ≤ c ∧ c ≤ 90)
def isTc (c : Int) : Bool := decide ((97 ≤ c ∧ c ≤ 122 ∨ 65 ≤ c ∧ c ≤ 90) ∨ (48 ≤ c ∧ c ≤ 57) ∨ c = 45)
def typeM (s : List UInt8) : Bool := decide (1 ≤ s.length ∧ s.length ≤ 32) && isLet (byteAt s 0) && s.all fun b => isTc b.toNat
theorem dn_letter (c : Int) (h : Heap) : Spec Tryd.prog 119 [.int .i32 c] h [] (fun u _ H' => u = .bool (isLet c) ∧ H' = []) := by
  refine Spec.enter Tryd.func119 rfl rfl ?_; intro w0
  repeat' (first | (refine G.atCode ?_; first | refine G.seq ?_ | refine G.region ?_ | refine G.ret ?_) | refine G.endOps ?_ | (refine G.atGd ?_; first | refine G.guardYes rfl rfl ?_ | refine G.guardNoS rfl rfl rfl ?_ | refine G.guardU rfl rfl rfl ?_ | (refine G.guardS rfl rfl rfl ?_ ?_ <;> intro hc <;> (try simp only [tests, reduceCtorEq] at hc) <;> (try (exfalso; first | omega | exact absurd hc (by with_reducible assumption) | exact absurd (by with_reducible assumption) hc | exact Bool.noConfusion hc | exact hc | exact hc trivial | fail)))) | (refine G.atBin ?_; first | refine G.op rfl rfl ?_) | refine G.op rfl rfl ?_)
  all_goals exact G.done1 rfl rfl _ (SubH.nil _) ⟨(by first | exact congrArg Value.bool (decide_eq_decide.2 (by omega)) | exact congrArg Value.bool (decide_eq_true (by omega)).symm | exact congrArg Value.bool (decide_eq_false (by omega)).symm), rfl⟩
theorem typeM_no {s : List UInt8} {i : Nat} (hi : i < s.length) (hc : isTc (byteAt s i) = false) : typeM s = false := by
  have : s.all (fun b => isTc b.toNat) = false := by
    rw [List.all_eq_false]
    exact ⟨s[i], List.getElem_mem hi, by rw [byteAt_eq hi] at hc; simp [hc]⟩
  unfold typeM
  rw [this]; simp
theorem typeM_yes {s : List UInt8} (h1 : 1 ≤ s.length) (h2 : s.length ≤ 32) (h3 : isLet (byteAt s 0) = true) (h4 : ∀ i, i < s.length → isTc (byteAt s i) = true) : typeM s = true := by
  have : s.all (fun b => isTc b.toNat) = true := by
    rw [List.all_eq_true]
    intro b hb
    obtain ⟨i, hi, rfl⟩ := List.getElem_of_mem hb
    have := h4 i hi
    rw [byteAt_eq hi] at this; exact this
  unfold typeM
  rw [this, h3, decide_eq_true ⟨h1, h2⟩]; rfl
set_option maxRecDepth 8000 in
theorem dn_Type (s : List UInt8) (h : Heap) : Spec Tryd.prog 116 [str s] h [] (fun u _ H' => u = .bool (typeM s) ∧ H' = []) := by
  by_cases h1 : 1 ≤ s.length ∧ s.length ≤ 32
  · cases h2 : isLet (byteAt s 0) with
    | false =>
      have e : typeM s = false := by unfold typeM; rw [h2]; simp
      rw [e]
      refine Spec.enter Tryd.func116 rfl rfl ?_; intro w0
      repeat' (first | (show G _ (.ops .seq _ (⟨some _, .call { callee := .value (.func 119), args := _, argTypes := _ }, _, _, _, none⟩ :: _) :: _) _ _ _; refine G.call callLetter rfl rfl (dn_letter _ _) (by solve | (repeat (first | apply Takes.nil | apply Take.hd | apply Take.tl | apply Takes.cons))) ?_; rintro _ h3 H3 ⟨rfl, rfl⟩ hle3; rw [h2]) | (refine G.atCode ?_; first | refine G.seq ?_ | refine G.region ?_ | refine G.ret ?_ | (refine G.cond rfl ?_ ?_ <;> intro hc <;> (try simp only [tests, reduceCtorEq] at hc) <;> (try (exfalso; first | omega | exact absurd hc (by with_reducible assumption) | exact absurd (by with_reducible assumption) hc | exact Bool.noConfusion hc | exact hc | exact hc trivial | fail)))) | refine G.endOps ?_ | (refine G.atGd ?_; first | refine G.guardYes rfl rfl ?_ | (refine G.guardS rfl rfl rfl ?_ ?_ <;> intro hc <;> (try simp only [tests, reduceCtorEq] at hc) <;> (try (exfalso; first | omega | exact absurd hc (by with_reducible assumption) | exact absurd (by with_reducible assumption) hc | exact Bool.noConfusion hc | exact hc | exact hc trivial | fail)))) | (refine G.atBin ?_; first | (refine G.atEql ?_; first | refine G.eqStr0 rfl rfl rfl ?_) | refine G.op rfl rfl ?_) | refine G.op rfl rfl ?_ | (refine G.atLen ?_; first | refine G.lenStr rfl (tyy rfl) rfl ?_) | (refine G.atInd ?_; refine G.idxStr rfl rfl (tyy rfl) rfl (by first | (simp only [Int.reduceToNat]; rfl) | with_reducible apply Int.toNat_natCast | exact Eq.refl _) (by first | omega | (simp only [lens] at *; omega)) ?_; intro _) | (refine G.atConv ?_; first | refine G.conv rfl (tyy rfl) (tyy rfl) rfl (by simp only [inR]; omega) ?_))
      all_goals exact G.done1 rfl rfl _ (SubH.nil _) ⟨rfl, rfl⟩
    | true =>
      refine Spec.enter Tryd.func116 rfl rfl ?_; intro w0
      repeat' (first | (show G _ (.ops .seq _ (⟨some _, .call { callee := .value (.func 119), args := _, argTypes := _ }, _, _, _, none⟩ :: _) :: _) _ _ _; refine G.call callLetter rfl rfl (dn_letter _ _) (by solve | (repeat (first | apply Takes.nil | apply Take.hd | apply Take.tl | apply Takes.cons))) ?_; rintro _ h3 H3 ⟨rfl, rfl⟩ hle3; rw [h2]) | (refine G.rangeStr rfl (tyy rfl) rfl ?_; intro _) | (refine G.atCode ?_; refine G.stopLoop ?_) | (refine G.atCode ?_; first | refine G.seq ?_ | refine G.region ?_ | refine G.block ?_ | refine G.skip ?_ | (refine G.cond rfl ?_ ?_ <;> intro hc <;> (try simp only [tests, reduceCtorEq] at hc) <;> (try (exfalso; first | omega | exact absurd hc (by with_reducible assumption) | exact absurd (by with_reducible assumption) hc | exact Bool.noConfusion hc | exact hc | exact hc trivial | fail)))) | refine G.endOps ?_ | (refine G.atGd ?_; first | refine G.guardYes rfl rfl ?_ | (refine G.guardS rfl rfl rfl ?_ ?_ <;> intro hc <;> (try simp only [tests, reduceCtorEq] at hc) <;> (try (exfalso; first | omega | exact absurd hc (by with_reducible assumption) | exact absurd (by with_reducible assumption) hc | exact Bool.noConfusion hc | exact hc | exact hc trivial | fail)))) | (refine G.atBin ?_; first | (refine G.atEql ?_; first | refine G.eqStr0 rfl rfl rfl ?_) | refine G.op rfl rfl ?_) | refine G.op rfl rfl ?_ | (refine G.atLen ?_; first | refine G.lenStr rfl (tyy rfl) rfl ?_) | (refine G.atInd ?_; refine G.idxStr rfl rfl (tyy rfl) rfl (by first | (simp only [Int.reduceToNat]; rfl) | with_reducible apply Int.toNat_natCast | exact Eq.refl _) (by first | omega | (simp only [lens] at *; omega)) ?_; intro _) | (refine G.atConv ?_; first | refine G.conv rfl (tyy rfl) (tyy rfl) rfl (by simp only [inR]; omega) ?_))
      rename_i r
      refine G.go ?_
      refine G.loop (σ := Nat) (fun _ => [(20, .pointer (some ⟨r, 0, none⟩))]) (fun p => [.obj r (.stringIter (bA s) p)])
        (fun p _ => p ≤ s.length ∧ ∀ i, i < p → isTc (byteAt s i) = true) (fun p => s.length - p) 0 ⟨rfl, trivial⟩ (by solve | (apply Takes.sub; (repeat (first | apply Takes.nil | apply Take.hd | apply Take.tl | apply Takes.cons)))) ⟨Nat.zero_le _, fun i hi => absurd hi (by omega)⟩ ?_
      rintro p h5 hle5 ⟨hp, hall⟩
      by_cases hlt : p < s.length
      · by_cases hb : byteAt s p < 128
        · have hru : runeAt s p = (byteAt s p, 1) := by rw [byteAt_eq hlt] at hb ⊢; exact runeAt_low hlt hb
          cases hit : isTc (byteAt s p) with
          | true =>
            have hit' := hit
            simp only [isTc, decide_eq_true_eq] at hit'
            repeat' (first | (refine G.nextStr rfl (by solve | (repeat (first | apply Take.hd | apply Take.tl))) rfl (fun hnx => absurd hnx (by omega)) ?_; intro hnx; rw [hru]) | (show G _ (.ops .seq _ (⟨some _, .call { callee := .value (.func 119), args := _, argTypes := _ }, _, _, _, none⟩ :: _) :: _) _ _ _; refine G.call callLetter rfl rfl (dn_letter _ _) (by solve | (repeat (first | apply Takes.nil | apply Take.hd | apply Take.tl | apply Takes.cons))) ?_; rintro _ h3 H3 ⟨rfl, rfl⟩ hle3; simp only [isLet]) | (refine G.atCode ?_; first | refine G.seq ?_ | refine G.region ?_ | refine G.block ?_ | refine G.skip ?_ | (refine G.cond rfl ?_ ?_ <;> intro hc <;> (try simp only [tests, reduceCtorEq] at hc) <;> (try (exfalso; first | omega | exact absurd hc (by with_reducible assumption) | exact absurd (by with_reducible assumption) hc | exact Bool.noConfusion hc | exact hc | exact hc trivial | fail)))) | refine G.endOps ?_ | refine G.endBlk ?_ | (refine G.atGd ?_; first | refine G.guardYes rfl rfl ?_ | refine G.guardNoS rfl rfl rfl ?_ | refine G.guardU rfl rfl rfl ?_ | (refine G.guardS rfl rfl rfl ?_ ?_ <;> intro hc <;> (try simp only [tests, reduceCtorEq] at hc) <;> (try (exfalso; first | omega | exact absurd hc (by with_reducible assumption) | exact absurd (by with_reducible assumption) hc | exact Bool.noConfusion hc | exact hc | exact hc trivial | fail)))) | (refine G.atBin ?_; first | (refine G.atNeq ?_; first | refine G.op rfl rfl ?_) | refine G.op rfl rfl ?_) | refine G.op rfl rfl ?_)
            all_goals exact G.again (p + 1) ⟨rfl, trivial⟩ (by solve | (apply Takes.sub; (repeat (first | apply Takes.nil | apply Take.hd | apply Take.tl | apply Takes.cons)))) ⟨by omega, fun i hi => if hip : i < p then hall i hip else (show i = p by omega) ▸ hit⟩ (by solve | (repeat (first | assumption | exact Heap.le_refl _ | (refine Heap.le_trans ?_ (by assumption))))) (by omega)
          | false =>
            have e := typeM_no hlt hit
            rw [e]
            simp only [isTc, decide_eq_false_iff_not] at hit
            repeat' (first | (refine G.nextStr rfl (by solve | (repeat (first | apply Take.hd | apply Take.tl))) rfl (fun hnx => absurd hnx (by omega)) ?_; intro hnx; rw [hru]) | (show G _ (.ops .seq _ (⟨some _, .call { callee := .value (.func 119), args := _, argTypes := _ }, _, _, _, none⟩ :: _) :: _) _ _ _; refine G.call callLetter rfl rfl (dn_letter _ _) (by solve | (repeat (first | apply Takes.nil | apply Take.hd | apply Take.tl | apply Takes.cons))) ?_; rintro _ h3 H3 ⟨rfl, rfl⟩ hle3; simp only [isLet]) | (refine G.atCode ?_; first | refine G.seq ?_ | refine G.region ?_ | refine G.block ?_ | refine G.skip ?_ | refine G.ret ?_ | (refine G.cond rfl ?_ ?_ <;> intro hc <;> (try simp only [tests, reduceCtorEq] at hc) <;> (try (exfalso; first | omega | exact absurd hc (by with_reducible assumption) | exact absurd (by with_reducible assumption) hc | exact Bool.noConfusion hc | exact hc | exact hc trivial | fail)))) | refine G.endOps ?_ | (refine G.atGd ?_; first | refine G.guardYes rfl rfl ?_ | refine G.guardNoS rfl rfl rfl ?_ | (refine G.guardS rfl rfl rfl ?_ ?_ <;> intro hc <;> (try simp only [tests, reduceCtorEq] at hc) <;> (try (exfalso; first | omega | exact absurd hc (by with_reducible assumption) | exact absurd (by with_reducible assumption) hc | exact Bool.noConfusion hc | exact hc | exact hc trivial | fail)))) | (refine G.atBin ?_; first | (refine G.atNeq ?_; first | refine G.op rfl rfl ?_) | refine G.op rfl rfl ?_) | refine G.op rfl rfl ?_)
            all_goals first | (exfalso; omega) | exact G.done1 rfl rfl _ (SubH.nil _) ⟨rfl, rfl⟩
        · obtain ⟨g1, g2, g3⟩ := runeAt_high hlt (by rw [byteAt_eq hlt] at hb; exact hb)
          have e := typeM_no hlt (by unfold isTc; rw [decide_eq_false_iff_not]; omega)
          rw [e]
          rcases hru : runeAt s p with ⟨rn, wd⟩
          rw [hru] at g1 g2 g3
          simp only at g1 g2 g3
          repeat' (first | (refine G.nextStr rfl (by solve | (repeat (first | apply Take.hd | apply Take.tl))) rfl (fun hnx => absurd hnx (by omega)) ?_; intro hnx; rw [hru]) | (show G _ (.ops .seq _ (⟨some _, .call { callee := .value (.func 119), args := _, argTypes := _ }, _, _, _, none⟩ :: _) :: _) _ _ _; refine G.call callLetter rfl rfl (dn_letter _ _) (by solve | (repeat (first | apply Takes.nil | apply Take.hd | apply Take.tl | apply Takes.cons))) ?_; rintro _ h3 H3 ⟨rfl, rfl⟩ hle3; simp only [isLet]) | (refine G.atCode ?_; first | refine G.seq ?_ | refine G.region ?_ | refine G.block ?_ | refine G.skip ?_ | refine G.ret ?_ | (refine G.cond rfl ?_ ?_ <;> intro hc <;> (try simp only [tests, reduceCtorEq] at hc) <;> (try (exfalso; first | omega | exact absurd hc (by with_reducible assumption) | exact absurd (by with_reducible assumption) hc | exact Bool.noConfusion hc | exact hc | exact hc trivial | fail)))) | refine G.endOps ?_ | (refine G.atGd ?_; first | refine G.guardYes rfl rfl ?_ | (refine G.guardS rfl rfl rfl ?_ ?_ <;> intro hc <;> (try simp only [tests, reduceCtorEq] at hc) <;> (try (exfalso; first | omega | exact absurd hc (by with_reducible assumption) | exact absurd (by with_reducible assumption) hc | exact Bool.noConfusion hc | exact hc | exact hc trivial | fail)))) | (refine G.atBin ?_; first | (refine G.atNeq ?_; first | refine G.op rfl rfl ?_) | refine G.op rfl rfl ?_) | refine G.op rfl rfl ?_)
          all_goals first | (exfalso; omega) | exact G.done1 rfl rfl _ (SubH.nil _) ⟨rfl, rfl⟩
      · obtain rfl : p = s.length := by omega
        have e := typeM_yes h1.1 h1.2 h2 hall
        rw [e]
        repeat' (first | (refine G.nextStr rfl (by solve | (repeat (first | apply Take.hd | apply Take.tl))) rfl ?_ (fun hnx => absurd hnx (by omega)); intro hnx) | (refine G.atCode ?_; first | refine G.seq ?_ | refine G.region ?_ | refine G.exit rfl ?_ | refine G.ret ?_ | (refine G.cond rfl ?_ ?_ <;> intro hc <;> (try simp only [tests, reduceCtorEq] at hc) <;> (try (exfalso; first | omega | exact absurd hc (by with_reducible assumption) | exact absurd (by with_reducible assumption) hc | exact Bool.noConfusion hc | exact hc | exact hc trivial | fail)))) | refine G.endOps ?_ | refine G.op rfl rfl ?_)
        all_goals exact G.done1 rfl rfl _ (SubH.nil _) ⟨rfl, rfl⟩
  · have e : typeM s = false := by unfold typeM; rw [decide_eq_false h1]; simp
    rw [e]
    refine Spec.enter Tryd.func116 rfl rfl ?_; intro w0
    repeat' (first | (refine G.atCode ?_; first | refine G.seq ?_ | refine G.region ?_ | refine G.ret ?_ | (refine G.cond rfl ?_ ?_ <;> intro hc <;> (try simp only [tests, reduceCtorEq] at hc) <;> (try (exfalso; first | omega | exact absurd hc (by with_reducible assumption) | exact absurd (by with_reducible assumption) hc | exact Bool.noConfusion hc | exact hc | exact hc trivial | fail)))) | refine G.endOps ?_ | (refine G.atGd ?_; first | refine G.guardYes rfl rfl ?_ | refine G.guardNoS rfl rfl rfl ?_ | (refine G.guardS rfl rfl rfl ?_ ?_ <;> intro hc <;> (try simp only [tests, reduceCtorEq] at hc) <;> (try (exfalso; first | omega | exact absurd hc (by with_reducible assumption) | exact absurd (by with_reducible assumption) hc | exact Bool.noConfusion hc | exact hc | exact hc trivial | fail)))) | (refine G.atBin ?_; first | (refine G.atEql ?_; first | refine G.eqStr0 rfl rfl rfl ?_) | refine G.op rfl rfl ?_) | refine G.op rfl rfl ?_ | (refine G.atLen ?_; first | refine G.lenStr rfl (tyy rfl) rfl ?_))
    all_goals first | (exfalso; omega) | exact G.done1 rfl rfl _ (SubH.nil _) ⟨rfl, rfl⟩
end Go.Proofs.YtibkffoeioidlaaDoor
