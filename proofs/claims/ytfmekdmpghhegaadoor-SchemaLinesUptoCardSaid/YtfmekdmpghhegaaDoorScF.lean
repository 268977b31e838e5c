/- schema.Chain, castellanref13.Chain. -/
import Derived.Test.YtfmekdmpghhegaaDoorScD
import Derived.Test.YtfmekdmpghhegaaDoorScQ
namespace Go.Proofs.YtfmekdmpghhegaaDoor
set_option linter.all false
set_option maxRecDepth 4000
open Go.RowKit

theorem callChain : Callable Tryd.prog 19 := ⟨_, Tryd.func19, by kernel_rfl, rfl⟩
theorem chGo_step (C : List Cls) (n : Nat) (w : List UInt8) : chGo C (n + 1) w = if (ixC C w).isSome = false then [] else if (gtC C w).2.1.length = 0 then [(gtC C w).1] else (gtC C w).1 :: chGo C n (gtC C w).2.1 := by
  rw [chGo]
  cases h : ixC C w with
  | none => simp
  | some i =>
    have e : gtC C w = C.getD i noCls := by unfold gtC; rw [h]
    rw [e]; simp
theorem gtC_B {C : List Cls} (hC : ∀ c ∈ C, ClsB c) (w : List UInt8) : ClsB (gtC C w) :=
  gtC_in (p := ClsB) hC ⟨by decide, by decide, by decide, by decide, fun n hn => by simp [noCls] at hn, fun n hn => by simp [noCls] at hn⟩ w
set_option maxRecDepth 8000 in
set_option maxHeartbeats 4000000 in
theorem schema_Chain (C : List Cls) (hC : ∀ c ∈ C, ClsB c) (hn : C.length <= 10000000) (AT : Option Addr) (nT cT : Nat) (vC : Value) (rc : List (List Value)) (w : List UInt8) (hw : w.length <= 10000000) (h : Heap) (hvC : HSl h vC 5 rc) (hrc : ClsC h C rc) :
    Spec Tryd.prog 19 [.agg #[.slice AT nT cT, vC], str w] h [] (fun u h' H' => HSl h' u 1 (strsR (chGo C (C.length + 1) w)) /\ H' = []) := by
  have hrl := hrc.len
  obtain ⟨AC, cC, rfl, hcC, hmC, _⟩ := hvC.form
  rw [hrl] at *
  have hrl := hrc.len
  have sc := fun q (hq : q.length <= 100000000) => schema_classF C (ClsB.ok hC) (ClsB.two hC) (.slice AT nT cT) (.slice AC C.length cC) rc q hq
  refine Spec.enter Tryd.func19 rfl rfl ?_; intro w0
  repeat' (first | (show G _ (.ops .seq _ (⟨some _, .call { callee := .value (.func 18), args := _, argTypes := _ }, _, _, _, none⟩ :: _) :: _) _ _ _; refine G.call callClass rfl rfl (sc w (by omega) _ (hvC.mono (by solve | repeat first | assumption | exact Zr _ | refine Zq ?_ Zp)) (hrc.mono (by solve | repeat first | assumption | exact Zr _ | refine Zq ?_ Zp))) Ze ?_; rintro _ h2 H2 ⟨⟨A1, c1, A2, c2, rfl, h12, h13⟩, rfl⟩ hle2) | (refine G.atCode ?_; refine G.stopLoop ?_) | (refine G.atCode ?_; first | refine G.seq ?_ | refine G.region ?_ | refine G.block ?_) | refine G.endOps ?_ | refine G.op rfl rfl ?_ | (refine G.atLoad ?_; first | refine G.loadOwnA rfl (tyy rfl) rfl rfl Za rfl rfl ?_) | (refine G.atSto ?_; refine G.storeOwn rfl rfl (tyy rfl) Za rfl rfl rfl rfl ?_) | (refine G.atAlc ?_; refine G.alloc (tyy rfl) rfl rfl ?_; intro _) | (refine G.atBox ?_; refine G.box rfl rfl rfl ?_; intro _) | (refine G.atBld ?_; refine G.build (tyy rfl) rfl rfl rfl ?_))
  rename_i gS g6
  refine G.nilRow 9 1 ?_
  refine G.go ?_
  refine G.loop (σ := List UInt8 × List (List UInt8) × Value × Nat × (Option Addr × Nat × Nat) × (Option Addr × Nat × Nat)) (fun x => [(5, x.2.2.1), (6, .pointer (some ⟨x.2.2.2.1, 0, none⟩)), (7, .bool (ixC C x.1).isSome), (2, .pointer (some ⟨gS, 0, none⟩))])
    (fun x => [.row x.2.2.1 9 1 (strsR x.2.1), .blk gS [.slice AT nT cT, .slice AC C.length cC] 25, .blk x.2.2.2.1 [str (gtC C x.1).1, str (gtC C x.1).2.1, .int .i64 (gtC C x.1).2.2.1, .slice x.2.2.2.2.1.1 x.2.2.2.2.1.2.1 x.2.2.2.2.1.2.2, .slice x.2.2.2.2.2.1 x.2.2.2.2.2.2.1 x.2.2.2.2.2.2.2] 28])
    (fun x _ => x.2.1.length <= C.length + 1 /\ x.2.1 ++ chGo C (C.length + 1 - x.2.1.length) x.1 = chGo C (C.length + 1) w) (fun x => C.length + 1 - x.2.1.length) ⟨w, [], .slice none 0 0, g6, ⟨A1, _, c1⟩, ⟨A2, _, c2⟩⟩ ⟨rfl, rfl, rfl, rfl, trivial⟩ Zu ⟨by simp, by simp⟩ ?_
  rintro ⟨cur, out, ov, g7, ⟨A3, n3, c3⟩, ⟨A4, n4, c4⟩⟩ h5 hle5 ⟨hi, hout⟩
  simp only at hi hout
  refine G.norm (by (try dsimp only) <;> exact rfl) (by (try dsimp only) <;> exact rfl) ?_
  refine G.rowForm (v := ov) Za ?_
  rintro Ao co rfl
  rw [strsR_length]
  have hgb := gtC_B hC cur
  have hs2 := sc (gtC C cur).2.1 (by have := hgb.2.1; omega)
  by_cases hend : out.length <= C.length
  . obtain ⟨n, hnn⟩ : ∃ n, C.length + 1 - out.length = n + 1 := ⟨C.length - out.length, by omega⟩
    rw [hnn, chGo_step] at hout
    have hn1 : C.length + 1 - (out.length + 1) = n := by omega
    cases hq : (ixC C cur).isSome with
    | false =>
      rw [hq, if_pos rfl, List.append_nil] at hout
      repeat' (first | (refine G.atCode ?_; first | refine G.seq ?_ | refine G.region ?_ | refine G.exit rfl ?_ | refine G.ret ?_ | (refine G.cond rfl ?_ ?_ <;> intro hc <;> (try simp only [tests, reduceCtorEq] at hc) <;> (try exact Zf))) | refine G.endOps ?_ | (refine G.atGd ?_; first | refine G.guardNoS rfl rfl rfl ?_) | refine G.op rfl rfl ?_)
      all_goals first | (exfalso; omega) | skip
      refine G.freezeRow Take.hd ?_
      intro h8 hle8 hs8
      exact G.done1 rfl rfl _ (SubH.nil _) ⟨by rw [<- hout]; exact hs8, rfl⟩
    | true =>
      rw [hq, if_neg (by simp)] at hout
      by_cases hz : (gtC C cur).2.1.length = 0
      . rw [if_pos hz] at hout
        repeat' (first | (refine G.atCode ?_; first | refine G.seq ?_ | refine G.region ?_ | refine G.block ?_ | refine G.skip ?_ | refine G.exit rfl ?_ | refine G.ret ?_ | (refine G.cond rfl ?_ ?_ <;> intro hc <;> (try simp only [tests, reduceCtorEq] at hc) <;> (try exact Zf))) | refine G.endOps ?_ | (refine G.atGd ?_; first | refine G.guardYes rfl rfl ?_) | (refine G.atBin ?_; first | (refine G.atEql ?_; first | refine G.eqStr0 rfl rfl rfl ?_) | refine G.op rfl rfl ?_) | refine G.op rfl rfl ?_ | (refine G.atLen ?_; first | refine G.lenSlice rfl (tyy rfl) rfl ?_) | (refine G.atLoad ?_; first | refine G.loadOwn1 rfl (tyy rfl) rfl rfl Za rfl rfl ?_) | (refine G.atFld ?_; first | refine G.fieldAddr rfl (tyy rfl) rfl rfl ?_) | (refine G.atBsl ?_; refine G.buildSlice (tyy rfl) (tyy rfl) rfl rfl rfl rfl ?_; intro _) | (refine G.atApp ?_; first | (refine G.append1S rfl rfl (tyy rfl) (tyy rfl) rfl rfl Za Za rfl Zo ?_; intro _)))
        all_goals first | (exfalso; omega) | skip
        all_goals
          refine G.freezeRow Take.hd ?_
          intro h8 hle8 hs8
          exact G.done1 rfl rfl _ (SubH.nil _) ⟨by rw [<- hout]; exact hs8, rfl⟩
      . rw [if_neg hz] at hout
        repeat' (first | (show G _ (.ops .seq _ (⟨some _, .call { callee := .value (.func 18), args := _, argTypes := _ }, _, _, _, none⟩ :: _) :: _) _ _ _; refine G.call callClass rfl rfl (hs2 _ (hvC.mono (by solve | repeat first | assumption | exact Zr _ | refine Zq ?_ Zp)) (hrc.mono (by solve | repeat first | assumption | exact Zr _ | refine Zq ?_ Zp))) Ze ?_; rintro _ h2 H2 ⟨⟨A5, c5, A6, c6, rfl, h52, h53⟩, rfl⟩ hle2) | (refine G.atCode ?_; first | refine G.seq ?_ | refine G.region ?_ | refine G.block ?_ | refine G.skip ?_ | (refine G.cond rfl ?_ ?_ <;> intro hc <;> (try simp only [tests, reduceCtorEq] at hc) <;> (try exact Zf))) | refine G.endOps ?_ | refine G.endBlk ?_ | (refine G.atGd ?_; first | refine G.guardYes rfl rfl ?_) | (refine G.atBin ?_; first | (refine G.atEql ?_; first | refine G.eqStr0 rfl rfl rfl ?_) | refine G.op rfl rfl ?_) | refine G.op rfl rfl ?_ | (refine G.atLen ?_; first | refine G.lenSlice rfl (tyy rfl) rfl ?_) | (refine G.atLoad ?_; first | refine G.loadOwn1 rfl (tyy rfl) rfl rfl Za rfl rfl ?_ | refine G.loadOwnA rfl (tyy rfl) rfl rfl Za rfl rfl ?_) | (refine G.atFld ?_; first | refine G.fieldAddr rfl (tyy rfl) rfl rfl ?_) | (refine G.atSto ?_; refine G.storeOwn rfl rfl (tyy rfl) Za rfl rfl rfl rfl ?_) | (refine G.atAlc ?_; refine G.alloc (tyy rfl) rfl rfl ?_; intro _) | (refine G.atBld ?_; refine G.build (tyy rfl) rfl rfl rfl ?_) | (refine G.atBsl ?_; refine G.buildSlice (tyy rfl) (tyy rfl) rfl rfl rfl rfl ?_; intro _) | (refine G.atApp ?_; first | (refine G.append1S rfl rfl (tyy rfl) (tyy rfl) rfl rfl Za Za rfl Zo ?_; intro _)))
        all_goals first | (exfalso; omega) | skip
        all_goals
          exact G.again ⟨(gtC C cur).2.1, out ++ [(gtC C cur).1], _, _, ⟨A5, _, c5⟩, ⟨A6, _, c6⟩⟩ ⟨rfl, rfl, rfl, rfl, trivial⟩ Zu ⟨by simp only [List.length_append, List.length_cons, List.length_nil]; omega, by simp only [List.length_append, List.length_cons, List.length_nil]; rw [hn1, ← hout]; simp⟩ (by solve | repeat first | assumption | exact Zr _ | refine Zq ?_ Zp) (by simp only [List.length_append, List.length_cons, List.length_nil]; omega)
  . have hz0 : C.length + 1 - out.length = 0 := by omega
    rw [hz0, chGo, List.append_nil] at hout
    cases hq : (ixC C cur).isSome with
    | false =>
      repeat' (first | (refine G.atCode ?_; first | refine G.seq ?_ | refine G.region ?_ | refine G.exit rfl ?_ | refine G.ret ?_ | (refine G.cond rfl ?_ ?_ <;> intro hc <;> (try simp only [tests, reduceCtorEq] at hc) <;> (try exact Zf))) | refine G.endOps ?_ | (refine G.atGd ?_; first | refine G.guardNoS rfl rfl rfl ?_) | refine G.op rfl rfl ?_)
      all_goals first | (exfalso; omega) | skip
      refine G.freezeRow Take.hd ?_
      intro h8 hle8 hs8
      exact G.done1 rfl rfl _ (SubH.nil _) ⟨by rw [<- hout]; exact hs8, rfl⟩
    | true =>
      repeat' (first | (refine G.atCode ?_; first | refine G.seq ?_ | refine G.region ?_ | refine G.exit rfl ?_ | refine G.ret ?_ | (refine G.cond rfl ?_ ?_ <;> intro hc <;> (try simp only [tests, reduceCtorEq] at hc) <;> (try exact Zf))) | refine G.endOps ?_ | (refine G.atGd ?_; first | refine G.guardYes rfl rfl ?_) | (refine G.atBin ?_; first | refine G.op rfl rfl ?_) | refine G.op rfl rfl ?_ | (refine G.atLen ?_; first | refine G.lenSlice rfl (tyy rfl) rfl ?_) | (refine G.atLoad ?_; first | refine G.loadOwn1 rfl (tyy rfl) rfl rfl Za rfl rfl ?_) | (refine G.atFld ?_; first | refine G.fieldAddr rfl (tyy rfl) rfl rfl ?_))
      all_goals first | (exfalso; omega) | skip
      refine G.freezeRow Take.hd ?_
      intro h8 hle8 hs8
      exact G.done1 rfl rfl _ (SubH.nil _) ⟨by rw [<- hout]; exact hs8, rfl⟩
end Go.Proofs.YtfmekdmpghhegaaDoor
