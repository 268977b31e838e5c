/- strings.IndexAny of the four signs of filters. -/
import Derived.Test.YtcghcdnmpjhifaaDoorFlB
namespace Go.Proofs.YtcghcdnmpjhifaaDoor
set_option linter.all false
set_option maxRecDepth 4000
open Go.RowKit

theorem posR_low : ∀ n : Fin 128, decide (0 <= posR ((n : Nat) : Int)) = isSg (UInt8.ofNat n) := by decide +kernel
theorem posR_byte {s : List UInt8} {p : Nat} (h : p < s.length) (hb : byteAt s p < 128) : decide (0 <= posR ((byteAt s p : Nat) : Int)) = isSg s[p] := by
  have := posR_low ⟨byteAt s p, hb⟩
  rw [ofNat_byteAt h] at this
  exact this
theorem str_useA (n : Nat) (h : Heap) : Spec Tryd.prog 53 [.int .i64 n] h [] (fun u _ H' => u = .bool (decide ((8 : Int) < n)) /\ H' = []) := by
  refine Spec.enter Tryd.func53 rfl rfl ?_; intro w0
  repeat' (first | (refine G.atCode ?_; first | refine G.seq ?_ | refine G.region ?_ | refine G.ret ?_) | refine G.endOps ?_ | (refine G.atBin ?_; first | refine G.op rfl rfl ?_) | refine G.op rfl rfl ?_)
  exact G.done1 rfl rfl _ (SubH.nil _) ⟨rfl, rfl⟩
theorem info_set : (Tryd.prog.info? (laysAny_ren.t 116)).map (fun i => (i.zero, i.size)) = some (some (.agg (Array.replicate 256 (.bool false))), 256) := by kernel_rfl
theorem AnyR.end_ {s : List UInt8} (h : ¬ hitQ s) : AnyR s (-1) := ⟨Int.le_refl _, by omega, fun x => absurd x h, fun _ => .inl rfl⟩
set_option maxRecDepth 8000 in
theorem str_IndexAny (s : List UInt8) (hs : s.length <= 1000000000) (h : Heap) : Spec Tryd.prog 40 [str s, str sgn] h [] (fun u _ H' => (∃ a : Int, u = .int .i64 a /\ AnyR s a) /\ H' = []) := by
  have hsl : sgn.length = 4 := rfl
  by_cases h8 : s.length <= 8
  . refine Spec.enter Tryd.func40 rfl rfl ?_; intro w0
    repeat' (first | (show G _ (.ops .seq _ (⟨some _, .call { callee := .value (.func 53), args := _, argTypes := _ }, _, _, _, none⟩ :: _) :: _) _ _ _; refine G.call callUseA rfl rfl (str_useA _ _) Ze ?_; rintro _ h2 H2 ⟨rfl, rfl⟩ hle2; rw [decide_eq_false (by omega)]) | (refine G.rangeStr rfl (tyy rfl) rfl ?_; intro _) | (refine G.atCode ?_; refine G.stopLoop ?_) | (refine G.atCode ?_; first | refine G.seq ?_ | refine G.region ?_ | refine G.block ?_ | refine G.skip ?_ | (refine G.cond rfl ?_ ?_ <;> intro hc <;> (try simp only [tests, reduceCtorEq] at hc) <;> (try exact Zf))) | refine G.endOps ?_ | (refine G.atBin ?_; first | (refine G.atEql ?_; first | refine G.op rfl rfl ?_ | refine G.eqStr0 rfl rfl rfl ?_)) | refine G.op rfl rfl ?_ | (refine G.atLen ?_; first | refine G.lenStr rfl (tyy rfl) rfl ?_))
    all_goals try (exfalso; omega)
    rename_i it
    refine G.go ?_
    refine G.loop (σ := Nat) (fun _ => [(45, .pointer (some ⟨it, 0, none⟩)), (1, str sgn)]) (fun p => [.obj it (.stringIter (bA s) p)])
      (fun p _ => p <= stpQ s \/ (stpQ s < p /\ ¬ hitQ s /\ stpQ s < s.length)) (fun p => s.length - p) 0 ⟨rfl, rfl, trivial⟩ Zu (.inl (Nat.zero_le _)) ?_
    rintro p h5 hle5 hp
    by_cases hlt : p < s.length
    . by_cases hb : byteAt s p < 128
      . have hru : runeAt s p = (byteAt s p, 1) := by rw [byteAt_eq hlt] at hb ⊢; exact runeAt_low hlt hb
        have hpo := posR_byte hlt hb
        cases hit : isSg s[p] with
        | true =>
          rw [hit, decide_eq_true_eq] at hpo
          have hA : AnyR s p := by
            rcases hp with hp | ⟨h1, h2, h3⟩
            . have hq : ¬ p < stpQ s := fun hq => by rw [(stpQ_low hq hlt).1] at hit; cases hit
              obtain rfl : p = stpQ s := by omega
              exact ⟨by omega, by omega, fun _ => rfl, fun hn => absurd ⟨_, List.getElem?_eq_getElem hlt, hit⟩ hn⟩
            . exact ⟨by omega, by omega, fun x => absurd x h2, fun _ => .inr ⟨by omega, by omega, h3⟩⟩
          repeat' (first | (refine G.nextStr rfl Za rfl (fun hnx => absurd hnx (by omega)) ?_; intro hnx; rw [hru]) | (show G _ (.ops .seq _ (⟨some _, .call { callee := .value (.func 52), args := _, argTypes := _ }, _, _, _, none⟩ :: _) :: _) _ _ _; refine G.call callIdxR rfl rfl (str_IndexRune (byteAt s p) (by omega) _) Ze ?_; rintro _ h2 H2 ⟨rfl, rfl⟩ hle2) | (refine G.atCode ?_; first | refine G.seq ?_ | refine G.region ?_ | refine G.block ?_ | refine G.skip ?_ | refine G.ret ?_ | (refine G.cond rfl ?_ ?_ <;> intro hc <;> (try simp only [tests, reduceCtorEq] at hc) <;> (try exact Zf))) | refine G.endOps ?_ | (refine G.atBin ?_; first | refine G.op rfl rfl ?_) | refine G.op rfl rfl ?_)
          all_goals first | (exfalso; omega) | exact G.done1 rfl rfl _ (SubH.nil _) ⟨⟨_, rfl, hA⟩, rfl⟩
        | false =>
          rw [hit, decide_eq_false_iff_not] at hpo
          have hq : p + 1 <= stpQ s \/ (stpQ s < p + 1 /\ ¬ hitQ s /\ stpQ s < s.length) := by
            rcases hp with hp | ⟨h1, h2, h3⟩
            . by_cases hq : p < stpQ s
              . exact .inl hq
              . obtain rfl : p = stpQ s := by omega
                rcases stpQ_at hlt with h9 | h9
                . rw [h9] at hit; cases hit
                . rw [byteAt_eq hlt] at hb; omega
            . exact .inr ⟨by omega, h2, h3⟩
          repeat' (first | (refine G.nextStr rfl Za rfl (fun hnx => absurd hnx (by omega)) ?_; intro hnx; rw [hru]) | (show G _ (.ops .seq _ (⟨some _, .call { callee := .value (.func 52), args := _, argTypes := _ }, _, _, _, none⟩ :: _) :: _) _ _ _; refine G.call callIdxR rfl rfl (str_IndexRune (byteAt s p) (by omega) _) Ze ?_; rintro _ h2 H2 ⟨rfl, rfl⟩ hle2) | (refine G.atCode ?_; first | refine G.seq ?_ | refine G.region ?_ | refine G.block ?_ | refine G.skip ?_ | (refine G.cond rfl ?_ ?_ <;> intro hc <;> (try simp only [tests, reduceCtorEq] at hc) <;> (try exact Zf))) | refine G.endOps ?_ | refine G.endBlk ?_ | (refine G.atBin ?_; first | refine G.op rfl rfl ?_) | refine G.op rfl rfl ?_)
          all_goals first | (exfalso; omega) | exact G.again (p + 1) ⟨rfl, rfl, trivial⟩ Zu hq (by solve | repeat first | assumption | exact Zr _ | refine Zq ?_ Zp) (by omega)
      . obtain ⟨g1, g2, g3⟩ := runeAt_high hlt (by rw [byteAt_eq hlt] at hb; exact hb)
        rcases hru : runeAt s p with ⟨rn, wd⟩
        rw [hru] at g1 g2 g3
        simp only at g1 g2 g3
        have hpo : posR (rn : Nat) = -1 := by unfold posR; rw [if_neg (by omega)]
        have hq : p + wd <= stpQ s \/ (stpQ s < p + wd /\ ¬ hitQ s /\ stpQ s < s.length) := by
          rcases hp with hp | ⟨h1, h2, h3⟩
          . have hq : ¬ p < stpQ s := fun hq => by have := (stpQ_low hq hlt).2; rw [byteAt_eq hlt] at hb; omega
            obtain rfl : p = stpQ s := by omega
            refine .inr ⟨by omega, ?_, hlt⟩
            rintro ⟨b, h1, h2⟩
            rw [List.getElem?_eq_getElem hlt] at h1
            obtain rfl := Option.some.inj h1
            have := isSg_low h2
            rw [byteAt_eq hlt] at hb; omega
          . exact .inr ⟨by omega, h2, h3⟩
        repeat' (first | (refine G.nextStr rfl Za rfl (fun hnx => absurd hnx (by omega)) ?_; intro hnx; rw [hru]) | (show G _ (.ops .seq _ (⟨some _, .call { callee := .value (.func 52), args := _, argTypes := _ }, _, _, _, none⟩ :: _) :: _) _ _ _; refine G.call callIdxR rfl rfl (str_IndexRune rn g2 _) Ze ?_; rintro _ h2 H2 ⟨rfl, rfl⟩ hle2; rw [hpo]) | (refine G.atCode ?_; first | refine G.seq ?_ | refine G.region ?_ | refine G.block ?_ | refine G.skip ?_ | (refine G.cond rfl ?_ ?_ <;> intro hc <;> (try simp only [tests, reduceCtorEq] at hc) <;> (try exact Zf))) | refine G.endOps ?_ | refine G.endBlk ?_ | (refine G.atBin ?_; first | refine G.op rfl rfl ?_) | refine G.op rfl rfl ?_)
        all_goals first | (exfalso; omega) | exact G.again (p + wd) ⟨rfl, rfl, trivial⟩ Zu hq (by solve | repeat first | assumption | exact Zr _ | refine Zq ?_ Zp) (by omega)
    . have hn : ¬ hitQ s := by
        rcases hp with hp | ⟨h1, h2, h3⟩
        . rintro ⟨b, h1, h2⟩
          have := (List.getElem?_eq_some_iff.1 h1).1
          omega
        . exact h2
      repeat' (first | (refine G.nextStr rfl Za rfl ?_ (fun hnx => absurd hnx (by omega)); intro hnx) | (refine G.atCode ?_; first | refine G.seq ?_ | refine G.region ?_ | refine G.exit rfl ?_ | refine G.ret ?_ | (refine G.cond rfl ?_ ?_ <;> intro hc <;> (try simp only [tests, reduceCtorEq] at hc) <;> (try exact Zf))) | refine G.endOps ?_ | refine G.op rfl rfl ?_)
      all_goals first | (exfalso; omega) | exact G.done1 rfl rfl _ (SubH.nil _) ⟨⟨_, rfl, AnyR.end_ hn⟩, rfl⟩
  . refine ⟨fun w hw => ?_⟩
    refine (Any.strings_IndexAny_long laysAny (zero_of_info info_set).1 (zero_of_info info_set).2 ⟨s.toArray⟩ ⟨sgn.toArray⟩ w (by decide) (show 8 < s.toArray.size by simp; omega) (show s.toArray.size < 4294967281 by simp; omega) (by decide) (fun j b hb => ?_)).mono ?_
    . have := sgn_low j
      unfold byteAt at this
      have hb' : sgn[j]? = some b := by simpa using hb
      rw [hb'] at this
      exact this
    . rintro e w' ⟨rfl, rfl⟩
      have hw1 := hw.start.alloc (.cells (Lib.setCells (⟨sgn.toArray⟩ : ByteArray).data.toList) (laysAny_ren.t 116)) (.obj w.heap.size (.cells (Lib.setCells (⟨sgn.toArray⟩ : ByteArray).data.toList) (laysAny_ren.t 116))) (heap_alloc_new _ _) rfl
      have hw2 := (hw1.sub (SubH.nil _)).alloc (.cells (Lib.setCells (⟨sgn.toArray⟩ : ByteArray).data.toList) (laysAny_ren.t 116)) (.obj _ (.cells (Lib.setCells (⟨sgn.toArray⟩ : ByteArray).data.toList) (laysAny_ren.t 116))) (heap_alloc_new _ _) rfl
      exact ⟨_, h, [], rfl, ⟨⟨_, rfl, by simpa using indexAny_R s⟩, rfl⟩, hw2.sub (SubH.nil _)⟩
end Go.Proofs.YtcghcdnmpjhifaaDoor
