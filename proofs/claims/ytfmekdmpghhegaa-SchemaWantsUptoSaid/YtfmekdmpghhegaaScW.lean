/- castellanref13.Kind; the law SchemaWants. -/
import Derived.Test.YtfmekdmpghhegaaScU
namespace Go.Proofs.Ytfmekdmpghhegaa
set_option linter.all false
set_option maxRecDepth 4000
open Go.RowKit

theorem strucs_no {C : List Cls} {ws : List (List UInt8)} {i : Nat} {w : List UInt8} (h : ws[i]? = some w) (hk : (gtC C w).2.2.1 ≠ 1) : strucs C (ws.take (i + 1)) = strucs C (ws.take i) := by rw [strucs_snoc h, if_neg hk, List.append_nil]
theorem strucs_yes {C : List Cls} {ws : List (List UInt8)} {i : Nat} {w : List UInt8} (h : ws[i]? = some w) (hk : (gtC C w).2.2.1 = 1) : strucs C (ws.take (i + 1)) = strucs C (ws.take i) ++ [(gtC C w).1] := by rw [strucs_snoc h, if_pos hk]
theorem gtC_none {C : List Cls} {w : List UInt8} (h : ixC C w = none) : gtC C w = noCls := by unfold gtC; rw [h]
theorem bestL_snoc {C : List Cls} {ws pre : List (List UInt8)} {w : List UInt8} : bestL C ws (pre ++ [w]) = if okW C ws w = true then (gtC C w).1 else bestL C ws pre := by unfold bestL; rw [List.foldl_append]; rfl
set_option maxRecDepth 8000 in
set_option maxHeartbeats 8000000 in
theorem ref13_Kind (C : List Cls) (g : GoodC C) (hC : ∀ c ∈ C, ClsB c) (hn : C.length <= 10000000) (AT : Option Addr) (nT cT : Nat) (vC vW : Value) (rc : List (List Value)) (ws : List (List UInt8)) (hw : ∀ w ∈ ws, w.length <= 10000000) (hwn : ws.length <= 10000000) (h : Heap) (hvC : HSl h vC 5 rc) (hrc : ClsC h C rc) (hW : HSl h vW 1 (strsR ws)) :
    Spec Try.prog 16 [.agg #[.slice AT nT cT, vC], vW] h [] (fun u _ H' => u = kindV (kindM C ws) /\ H' = []) := by
  have hrl := hrc.len
  obtain ⟨AC, cC, rfl, hcC, hmC, _⟩ := hvC.form
  rw [hrl] at *
  have hrl := hrc.len
  obtain ⟨AW, cW, rfl, _⟩ := hW.form
  rw [strsR_length] at *
  have sch := fun q (hq : q.length <= 10000000) => ref13_Chain C hC hn AT nT cT (.slice AC C.length cC) rc q hq
  have sat := fun q (hq : q.length <= 100000000) => ref13_ClassAt C (ClsB.ok hC) (.slice AC C.length cC) rc q hq
  refine Spec.enter Try.func16 rfl rfl ?_; intro w0
  repeat' (first | (refine G.atCode ?_; first | refine G.seq ?_ | refine G.region ?_ | refine G.block ?_) | refine G.endOps ?_ | refine G.op rfl rfl ?_ | (refine G.atLen ?_; first | refine G.lenSlice rfl (tyy rfl) rfl ?_) | (refine G.atBox ?_; refine G.box rfl rfl rfl ?_; intro _))
  rename_i gS
  repeat' (first | (refine G.atCode ?_; refine G.stopLoop ?_))
  refine G.go ?_
  refine G.loop (σ := Nat) (fun i => [(16, .int .i64 i), (15, .int .i64 ws.length), (14, .slice AW ws.length cW), (1, .slice AW ws.length cW), (6, str (bestL C ws (ws.take i))), (2, .pointer (some ⟨gS, 0, none⟩))])
    (fun _ => [.blk gS [.slice AT nT cT, .slice AC C.length cC] 25])
    (fun i _ => i <= ws.length /\ (ws.take i).all (fun w => (ixC C w).isSome) = true) (fun i => ws.length - i) 0 ⟨rfl, rfl, rfl, rfl, rfl, rfl, trivial⟩ Zu ⟨Nat.zero_le _, rfl⟩ ?_
  rintro i h1 hle1 ⟨hi, hall⟩
  by_cases hlt : i < ws.length
  . obtain ⟨w, hx⟩ : ∃ t, ws[i]? = some t := ⟨ws[i], List.getElem?_eq_getElem hlt⟩
    have hget : (strsR ws)[i]? = some [str w] := by simp [strsR, hx]
    have hwl := hw w (List.mem_of_getElem? hx)
    have sat2 := sat w (by omega)
    have sch2 := sch w (by omega)
    cases hq : ixC C w with
    | none =>
      rw [hq, show ixV none = -1 from rfl] at sat2
      have hno : ws.all (fun w => (ixC C w).isSome) = false := by
        rw [Bool.eq_false_iff]
        intro hh
        have := List.all_eq_true.1 hh w (List.mem_of_getElem? hx)
        rw [hq] at this; cases this
      have hkm : kindM C ws = none := by unfold kindM; rw [if_pos hno]
      rw [hkm]
      repeat' (first | (refine G.atIdx ?_; refine G.idxImm rfl rfl (tyy rfl) (tyy rfl) (hW.mono (by solve | repeat first | assumption | exact Zr _ | refine Zq ?_ Zp)) Zj rfl (by rw [strsR_length]; omega) ?_; intro pp rr hx9 hp9; (rw [hget] at hx9); (obtain rfl := Option.some.inj hx9)) | (show G _ (.ops .seq _ (⟨some _, .call { callee := .value (.func 27), args := _, argTypes := _ }, _, _, _, none⟩ :: _) :: _) _ _ _; refine G.call callClassAt rfl rfl (sat2 _ (hvC.mono (by solve | repeat first | assumption | exact Zr _ | refine Zq ?_ Zp)) (hrc.mono (by solve | repeat first | assumption | exact Zr _ | refine Zq ?_ Zp))) Ze ?_; rintro _ h4 H4 ⟨rfl, rfl⟩ hle4) | (refine G.atCode ?_; first | refine G.seq ?_ | refine G.region ?_ | refine G.block ?_ | refine G.skip ?_ | refine G.ret ?_ | (refine G.cond rfl ?_ ?_ <;> intro hc <;> (try simp only [tests, reduceCtorEq] at hc) <;> (try exact Zf))) | refine G.endOps ?_ | (refine G.atBin ?_; first | refine G.op rfl rfl ?_) | refine G.op rfl rfl ?_ | (refine G.atLoad ?_; first | refine G.loadOwn1 rfl (tyy rfl) rfl rfl Za rfl rfl ?_ | refine G.loadImm1 rfl (tyy rfl) rfl rfl Zp rfl ?_) | (refine G.atFld ?_; first | refine G.fieldAddr rfl (tyy rfl) rfl rfl ?_))
      all_goals first | (exfalso; omega) | exact G.done (rs := [.tmp 4, .tmp 5]) rfl (.tmp rfl (.tmp rfl .nil)) rfl [] (SubH.nil _) ⟨rfl, rfl⟩ | skip
    | some k =>
      rw [hq, ixV_some] at sat2
      obtain ⟨c, hc, _, _⟩ := ixM_some hq
      have hgc := gtC_of hq hc
      obtain ⟨vm, vy, hgetc, _, _⟩ := hrc.get hc
      have hkl := (List.getElem?_eq_some_iff.1 hc).1
      have htl : (ws.take (i + 1)).all (fun w => (ixC C w).isSome) = true := by rw [take_get hx, List.all_append, hall]; simp [hq]
      have hbn : bestL C ws (ws.take (i + 1)) = if okW C ws w = true then c.1 else bestL C ws (ws.take i) := by rw [take_get hx, bestL_snoc, hgc]
      have hok : okW C ws w = (decide (c.2.2.1 = 1) && (strucs C ws).all fun o => decide (o ∈ chM C w)) := by unfold okW; rw [hgc]
      generalize bestL C ws (ws.take i) = best at *
      repeat' (first | (refine G.atIdx ?_; refine G.idxImm rfl rfl (tyy rfl) (tyy rfl) (hW.mono (by solve | repeat first | assumption | exact Zr _ | refine Zq ?_ Zp)) Zj rfl (by rw [strsR_length]; omega) ?_; intro pp rr hx9 hp9; (rw [hget] at hx9); (obtain rfl := Option.some.inj hx9)) | (show G _ (.ops .seq _ (⟨some _, .call { callee := .value (.func 27), args := _, argTypes := _ }, _, _, _, none⟩ :: _) :: _) _ _ _; refine G.call callClassAt rfl rfl (sat2 _ (hvC.mono (by solve | repeat first | assumption | exact Zr _ | refine Zq ?_ Zp)) (hrc.mono (by solve | repeat first | assumption | exact Zr _ | refine Zq ?_ Zp))) Ze ?_; rintro _ h4 H4 ⟨rfl, rfl⟩ hle4) | (refine G.atIdx ?_; refine G.idxImm rfl rfl (tyy rfl) (tyy rfl) (hvC.mono (by solve | repeat first | assumption | exact Zr _ | refine Zq ?_ Zp)) Zj rfl (by rw [hrl]; omega) ?_; intro pp rr hx9 hp9; (rw [hgetc] at hx9); (obtain rfl := Option.some.inj hx9)) | (refine G.atLoad ?_; refine G.loadImmAt1 rfl (tyy rfl) rfl rfl Zp rfl rfl ?_) | (refine G.atCode ?_; refine G.stopLoop ?_) | (refine G.atCode ?_; first | refine G.seq ?_ | refine G.region ?_ | refine G.block ?_ | refine G.skip ?_ | (refine G.cond rfl ?_ ?_ <;> intro hc <;> (try simp only [tests, reduceCtorEq] at hc) <;> (try exact Zf))) | refine G.endOps ?_ | (refine G.atBin ?_; first | (refine G.atEql ?_; first | refine G.op rfl rfl ?_) | refine G.op rfl rfl ?_) | refine G.op rfl rfl ?_ | (refine G.atLen ?_; first | refine G.lenSlice rfl (tyy rfl) rfl ?_) | (refine G.atLoad ?_; first | refine G.loadOwn1 rfl (tyy rfl) rfl rfl Za rfl rfl ?_ | refine G.loadImm1 rfl (tyy rfl) rfl rfl Zp rfl ?_) | (refine G.atFld ?_; first | refine G.fieldAddr rfl (tyy rfl) rfl rfl ?_ | refine G.fieldAddrP rfl (tyy rfl) rfl rfl ?_))
      all_goals (try (exfalso; omega))
      refine G.go ?_
      refine G.loop (σ := Nat × Bool) (fun x => [(35, .int .i64 x.1), (34, .int .i64 ws.length), (33, .slice AW ws.length cW), (10, .bool x.2), (8, str w), (9, .int .i64 k), (16, .int .i64 i), (15, .int .i64 ws.length), (14, .slice AW ws.length cW), (1, .slice AW ws.length cW), (6, str best), (2, .pointer (some ⟨gS, 0, none⟩))])
        (fun _ => [.blk gS [.slice AT nT cT, .slice AC C.length cC] 25])
        (fun x _ => x.1 <= ws.length /\ x.2 = (decide (c.2.2.1 = 1) && (strucs C (ws.take x.1)).all fun o => decide (o ∈ chM C w))) (fun x => ws.length - x.1) ⟨0, decide (c.2.2.1 = 1)⟩ ⟨rfl, rfl, rfl, by simp only [Fr.get]; first | rfl | (exact congrArg (fun b => some (Value.bool b)) (decide_eq_decide.2 Iff.rfl)), rfl, rfl, rfl, rfl, rfl, rfl, rfl, rfl, trivial⟩ Zu ⟨Nat.zero_le _, by simp [strucs]⟩ ?_
      rintro ⟨j, ok⟩ h5 hle5 ⟨hj, hokj⟩
      simp only at hj hokj
      refine G.norm (by (try dsimp only) <;> exact rfl) (by (try dsimp only) <;> exact rfl) ?_
      by_cases hjt : j < ws.length
      . obtain ⟨o, ho⟩ : ∃ t, ws[j]? = some t := ⟨ws[j], List.getElem?_eq_getElem hjt⟩
        have hgeto : (strsR ws)[j]? = some [str o] := by simp [strsR, ho]
        have sato := sat o (by have := hw o (List.mem_of_getElem? ho); omega)
        cases hqo : ixC C o with
        | none =>
          rw [hqo, show ixV none = -1 from rfl] at sato
          have hsn := strucs_no (C := C) ho (by rw [gtC_none hqo]; decide)
          repeat' (first | (refine G.atIdx ?_; refine G.idxImm rfl rfl (tyy rfl) (tyy rfl) (hW.mono (by solve | repeat first | assumption | exact Zr _ | refine Zq ?_ Zp)) Zj rfl (by rw [strsR_length]; omega) ?_; intro pp rr hx9 hp9; (rw [hgeto] at hx9); (obtain rfl := Option.some.inj hx9)) | (show G _ (.ops .seq _ (⟨some _, .call { callee := .value (.func 27), args := _, argTypes := _ }, _, _, _, none⟩ :: _) :: _) _ _ _; refine G.call callClassAt rfl rfl (sato _ (hvC.mono (by solve | repeat first | assumption | exact Zr _ | refine Zq ?_ Zp)) (hrc.mono (by solve | repeat first | assumption | exact Zr _ | refine Zq ?_ Zp))) Ze ?_; rintro _ h6 H6 ⟨rfl, rfl⟩ hle6) | (refine G.atCode ?_; first | refine G.seq ?_ | refine G.region ?_ | refine G.block ?_ | refine G.skip ?_ | (refine G.cond rfl ?_ ?_ <;> intro hc <;> (try simp only [tests, reduceCtorEq] at hc) <;> (try exact Zf))) | refine G.endOps ?_ | refine G.endBlk ?_ | (refine G.atGd ?_; first | refine G.guardNoS rfl rfl rfl ?_) | (refine G.atBin ?_; first | (refine G.atAdd ?_; first | refine G.arith rfl rfl rfl rfl rfl Zi ?_) | refine G.op rfl rfl ?_) | refine G.op rfl rfl ?_ | (refine G.atLoad ?_; first | refine G.loadOwn1 rfl (tyy rfl) rfl rfl Za rfl rfl ?_ | refine G.loadImm1 rfl (tyy rfl) rfl rfl Zp rfl ?_) | (refine G.atFld ?_; first | refine G.fieldAddr rfl (tyy rfl) rfl rfl ?_))
          all_goals first | (exfalso; omega) | exact G.again ⟨j + 1, ok⟩ ⟨sint (by simp), rfl, rfl, rfl, rfl, rfl, rfl, rfl, rfl, rfl, rfl, rfl, trivial⟩ Zu ⟨by simp only; omega, by simp only [hsn]; exact hokj⟩ (by solve | repeat first | assumption | exact Zr _ | refine Zq ?_ Zp) (by simp only; omega) | skip
        | some ko =>
          rw [hqo, ixV_some] at sato
          obtain ⟨co, hco, _, _⟩ := ixM_some hqo
          have hgo := gtC_of hqo hco
          obtain ⟨vmo, vyo, hgetco, _, _⟩ := hrc.get hco
          have hkol := (List.getElem?_eq_some_iff.1 hco).1
          by_cases hk1 : co.2.2.1 = 1
          . have hsn := strucs_yes (C := C) ho (by rw [hgo]; exact hk1)
            rw [hgo] at hsn
            cases ok with
            | false =>
              repeat' (first | (refine G.atIdx ?_; refine G.idxImm rfl rfl (tyy rfl) (tyy rfl) (hW.mono (by solve | repeat first | assumption | exact Zr _ | refine Zq ?_ Zp)) Zj rfl (by rw [strsR_length]; omega) ?_; intro pp rr hx9 hp9; (rw [hgeto] at hx9); (obtain rfl := Option.some.inj hx9)) | (show G _ (.ops .seq _ (⟨some _, .call { callee := .value (.func 27), args := _, argTypes := _ }, _, _, _, none⟩ :: _) :: _) _ _ _; refine G.call callClassAt rfl rfl (sato _ (hvC.mono (by solve | repeat first | assumption | exact Zr _ | refine Zq ?_ Zp)) (hrc.mono (by solve | repeat first | assumption | exact Zr _ | refine Zq ?_ Zp))) Ze ?_; rintro _ h6 H6 ⟨rfl, rfl⟩ hle6) | (refine G.atIdx ?_; refine G.idxImm rfl rfl (tyy rfl) (tyy rfl) (hvC.mono (by solve | repeat first | assumption | exact Zr _ | refine Zq ?_ Zp)) Zj rfl (by rw [hrl]; omega) ?_; intro pp rr hx9 hp9; (rw [hgetco] at hx9); (obtain rfl := Option.some.inj hx9)) | (refine G.atLoad ?_; refine G.loadImmAt1 rfl (tyy rfl) rfl rfl Zp rfl rfl ?_) | (refine G.atCode ?_; first | refine G.seq ?_ | refine G.region ?_ | refine G.block ?_ | refine G.skip ?_ | refine G.anyIn mixedOk ?_ | (refine G.cond rfl ?_ ?_ <;> intro hc <;> (try simp only [tests, reduceCtorEq] at hc) <;> (try exact Zf))) | refine G.endOps ?_ | refine G.endHeld ?_ | refine G.back ?_ | refine G.endBlk ?_ | (refine G.atAny ?_; first | refine G.anyAutoX slB rfl rfl Zw Zg Zd ?_ | refine G.anyOne rfl Zw Zg Zu ?_ | refine G.anyEndX Zw ?_) | (refine G.atGd ?_; first | refine G.guardYes rfl rfl ?_ | refine G.guardNoS rfl rfl rfl ?_) | (refine G.atBin ?_; first | (refine G.atAdd ?_; first | refine G.arith rfl rfl rfl rfl rfl Zi ?_) | (refine G.atEql ?_; first | refine G.op rfl rfl ?_) | refine G.op rfl rfl ?_) | refine G.op rfl rfl ?_ | (refine G.atLoad ?_; first | refine G.loadOwn1 rfl (tyy rfl) rfl rfl Za rfl rfl ?_ | refine G.loadImm1 rfl (tyy rfl) rfl rfl Zp rfl ?_) | (refine G.atFld ?_; first | refine G.fieldAddr rfl (tyy rfl) rfl rfl ?_ | refine G.fieldAddrP rfl (tyy rfl) rfl rfl ?_))
              all_goals first | (exfalso; omega) | exact G.again ⟨j + 1, false⟩ ⟨sint (by simp), rfl, rfl, rfl, rfl, rfl, rfl, rfl, rfl, rfl, rfl, rfl, trivial⟩ Zu ⟨by simp only; omega, by simp only [hsn, List.all_append, ← Bool.and_assoc, ← hokj, Bool.false_and]⟩ (by solve | repeat first | assumption | exact Zr _ | refine Zq ?_ Zp) (by simp only; omega) | skip
            | true =>
              have hhas := ref13_Has (chM C w) co.1
              repeat' (first | (refine G.atIdx ?_; refine G.idxImm rfl rfl (tyy rfl) (tyy rfl) (hW.mono (by solve | repeat first | assumption | exact Zr _ | refine Zq ?_ Zp)) Zj rfl (by rw [strsR_length]; omega) ?_; intro pp rr hx9 hp9; (rw [hgeto] at hx9); (obtain rfl := Option.some.inj hx9)) | (show G _ (.ops .seq _ (⟨some _, .call { callee := .value (.func 27), args := _, argTypes := _ }, _, _, _, none⟩ :: _) :: _) _ _ _; refine G.call callClassAt rfl rfl (sato _ (hvC.mono (by solve | repeat first | assumption | exact Zr _ | refine Zq ?_ Zp)) (hrc.mono (by solve | repeat first | assumption | exact Zr _ | refine Zq ?_ Zp))) Ze ?_; rintro _ h6 H6 ⟨rfl, rfl⟩ hle6) | (refine G.atIdx ?_; refine G.idxImm rfl rfl (tyy rfl) (tyy rfl) (hvC.mono (by solve | repeat first | assumption | exact Zr _ | refine Zq ?_ Zp)) Zj rfl (by rw [hrl]; omega) ?_; intro pp rr hx9 hp9; (rw [hgetco] at hx9); (obtain rfl := Option.some.inj hx9)) | (refine G.atLoad ?_; refine G.loadImmAt1 rfl (tyy rfl) rfl rfl Zp rfl rfl ?_) | (show G _ (.ops .seq _ (⟨some _, .call { callee := .value (.func 29), args := _, argTypes := _ }, _, _, _, none⟩ :: _) :: _) _ _ _; refine G.call callChainR rfl rfl (sch2 _ (hvC.mono (by solve | repeat first | assumption | exact Zr _ | refine Zq ?_ Zp)) (hrc.mono (by solve | repeat first | assumption | exact Zr _ | refine Zq ?_ Zp))) Ze ?_; rintro cv h7 H7 ⟨hcv, rfl⟩ hle7) | (show G _ (.ops .seq _ (⟨some _, .call { callee := .value (.func 21), args := _, argTypes := _ }, _, _, _, none⟩ :: _) :: _) _ _ _; refine G.call callHas rfl rfl (hhas cv _ (hcv.mono (by solve | repeat first | assumption | exact Zr _ | refine Zq ?_ Zp))) Ze ?_; rintro _ h8 H8 ⟨rfl, rfl⟩ hle8) | (refine G.atCode ?_; first | refine G.seq ?_ | refine G.region ?_ | refine G.block ?_ | refine G.skip ?_ | refine G.anyIn mixedOk ?_ | (refine G.cond rfl ?_ ?_ <;> intro hc <;> (try simp only [tests, reduceCtorEq] at hc) <;> (try exact Zf))) | refine G.endOps ?_ | refine G.endHeld ?_ | refine G.back ?_ | refine G.endBlk ?_ | (refine G.atAny ?_; first | refine G.anyAutoX slB rfl rfl Zw Zg Zd ?_ | refine G.anyOne rfl Zw Zg Zu ?_ | refine G.anyEndX Zw ?_) | (refine G.atGd ?_; first | refine G.guardYes rfl rfl ?_) | (refine G.atBin ?_; first | (refine G.atAdd ?_; first | refine G.arith rfl rfl rfl rfl rfl Zi ?_) | (refine G.atEql ?_; first | refine G.op rfl rfl ?_) | refine G.op rfl rfl ?_) | refine G.op rfl rfl ?_ | (refine G.atLoad ?_; first | refine G.loadOwn1 rfl (tyy rfl) rfl rfl Za rfl rfl ?_ | refine G.loadOwnA rfl (tyy rfl) rfl rfl Za rfl rfl ?_ | refine G.loadImm1 rfl (tyy rfl) rfl rfl Zp rfl ?_) | (refine G.atFld ?_; first | refine G.fieldAddr rfl (tyy rfl) rfl rfl ?_ | refine G.fieldAddrP rfl (tyy rfl) rfl rfl ?_))
              all_goals first | (exfalso; omega) | exact G.again ⟨j + 1, decide (co.1 ∈ chM C w)⟩ ⟨sint (by simp), rfl, rfl, rfl, rfl, rfl, rfl, rfl, rfl, rfl, rfl, rfl, trivial⟩ Zu ⟨by simp only; omega, by simp only [hsn, List.all_append, ← Bool.and_assoc, ← hokj, Bool.true_and, List.all_cons, List.all_nil, Bool.and_true]⟩ (by solve | repeat first | assumption | exact Zr _ | refine Zq ?_ Zp) (by simp only; omega) | skip
          . have hsn := strucs_no (C := C) ho (by rw [hgo]; exact hk1)
            repeat' (first | (refine G.atIdx ?_; refine G.idxImm rfl rfl (tyy rfl) (tyy rfl) (hW.mono (by solve | repeat first | assumption | exact Zr _ | refine Zq ?_ Zp)) Zj rfl (by rw [strsR_length]; omega) ?_; intro pp rr hx9 hp9; (rw [hgeto] at hx9); (obtain rfl := Option.some.inj hx9)) | (show G _ (.ops .seq _ (⟨some _, .call { callee := .value (.func 27), args := _, argTypes := _ }, _, _, _, none⟩ :: _) :: _) _ _ _; refine G.call callClassAt rfl rfl (sato _ (hvC.mono (by solve | repeat first | assumption | exact Zr _ | refine Zq ?_ Zp)) (hrc.mono (by solve | repeat first | assumption | exact Zr _ | refine Zq ?_ Zp))) Ze ?_; rintro _ h6 H6 ⟨rfl, rfl⟩ hle6) | (refine G.atIdx ?_; refine G.idxImm rfl rfl (tyy rfl) (tyy rfl) (hvC.mono (by solve | repeat first | assumption | exact Zr _ | refine Zq ?_ Zp)) Zj rfl (by rw [hrl]; omega) ?_; intro pp rr hx9 hp9; (rw [hgetco] at hx9); (obtain rfl := Option.some.inj hx9)) | (refine G.atLoad ?_; refine G.loadImmAt1 rfl (tyy rfl) rfl rfl Zp rfl rfl ?_) | (refine G.atCode ?_; first | refine G.seq ?_ | refine G.region ?_ | refine G.block ?_ | refine G.skip ?_ | (refine G.cond rfl ?_ ?_ <;> intro hc <;> (try simp only [tests, reduceCtorEq] at hc) <;> (try exact Zf))) | refine G.endOps ?_ | refine G.endBlk ?_ | (refine G.atGd ?_; first | refine G.guardYes rfl rfl ?_) | (refine G.atBin ?_; first | (refine G.atAdd ?_; first | refine G.arith rfl rfl rfl rfl rfl Zi ?_) | (refine G.atEql ?_; first | refine G.op rfl rfl ?_) | refine G.op rfl rfl ?_) | refine G.op rfl rfl ?_ | (refine G.atLoad ?_; first | refine G.loadOwn1 rfl (tyy rfl) rfl rfl Za rfl rfl ?_ | refine G.loadImm1 rfl (tyy rfl) rfl rfl Zp rfl ?_) | (refine G.atFld ?_; first | refine G.fieldAddr rfl (tyy rfl) rfl rfl ?_ | refine G.fieldAddrP rfl (tyy rfl) rfl rfl ?_))
            all_goals first | (exfalso; omega) | exact G.again ⟨j + 1, ok⟩ ⟨sint (by simp), rfl, rfl, rfl, rfl, rfl, rfl, rfl, rfl, rfl, rfl, rfl, trivial⟩ Zu ⟨by simp only; omega, by simp only [hsn]; exact hokj⟩ (by solve | repeat first | assumption | exact Zr _ | refine Zq ?_ Zp) (by simp only; omega) | skip
      . obtain rfl : j = ws.length := by omega
        rw [List.take_length, ← hok] at hokj
        subst hokj
        cases hokw : okW C ws w with
        | true =>
          rw [hokw, if_pos rfl] at hbn
          repeat' (first | (refine G.atIdx ?_; refine G.idxImm rfl rfl (tyy rfl) (tyy rfl) (hvC.mono (by solve | repeat first | assumption | exact Zr _ | refine Zq ?_ Zp)) Zj rfl (by rw [hrl]; omega) ?_; intro pp rr hx9 hp9; (rw [hgetc] at hx9); (obtain rfl := Option.some.inj hx9)) | (refine G.atLoad ?_; refine G.loadImmAt1 rfl (tyy rfl) rfl rfl Zp rfl rfl ?_) | (refine G.atCode ?_; first | refine G.seq ?_ | refine G.region ?_ | refine G.exit rfl ?_ | (refine G.cond rfl ?_ ?_ <;> intro hc <;> (try simp only [tests, reduceCtorEq] at hc) <;> (try exact Zf))) | refine G.endOps ?_ | refine G.endBlk ?_ | (refine G.atBin ?_; first | (refine G.atAdd ?_; first | refine G.arith rfl rfl rfl rfl rfl Zi ?_) | refine G.op rfl rfl ?_) | refine G.op rfl rfl ?_ | (refine G.atLoad ?_; first | refine G.loadOwn1 rfl (tyy rfl) rfl rfl Za rfl rfl ?_) | (refine G.atFld ?_; first | refine G.fieldAddr rfl (tyy rfl) rfl rfl ?_ | refine G.fieldAddrP rfl (tyy rfl) rfl rfl ?_))
          all_goals first | (exfalso; omega) | exact G.again (i + 1) ⟨sint (by simp), rfl, rfl, rfl, by rw [hbn]; rfl, rfl, trivial⟩ Zu ⟨by omega, htl⟩ (by solve | repeat first | assumption | exact Zr _ | refine Zq ?_ Zp) (by omega) | skip
        | false =>
          rw [hokw, if_neg (by simp)] at hbn
          repeat' (first | (refine G.atCode ?_; first | refine G.seq ?_ | refine G.region ?_ | refine G.skip ?_ | refine G.exit rfl ?_ | (refine G.cond rfl ?_ ?_ <;> intro hc <;> (try simp only [tests, reduceCtorEq] at hc) <;> (try exact Zf))) | refine G.endOps ?_ | refine G.endBlk ?_ | (refine G.atBin ?_; first | (refine G.atAdd ?_; first | refine G.arith rfl rfl rfl rfl rfl Zi ?_) | refine G.op rfl rfl ?_) | refine G.op rfl rfl ?_)
          all_goals first | (exfalso; omega) | exact G.again (i + 1) ⟨sint (by simp), rfl, rfl, rfl, by rw [hbn]; rfl, rfl, trivial⟩ Zu ⟨by omega, htl⟩ (by solve | repeat first | assumption | exact Zr _ | refine Zq ?_ Zp) (by omega) | skip
  . obtain rfl : i = ws.length := by omega
    rw [List.take_length] at hall ⊢
    rcases best_kind g hall with ⟨hk, hb⟩ | ⟨n, hk, hb, hnl⟩
    . rw [hk, hb]
      repeat' (first | (refine G.atCode ?_; first | refine G.seq ?_ | refine G.region ?_ | refine G.exit rfl ?_ | refine G.ret ?_ | (refine G.cond rfl ?_ ?_ <;> intro hc <;> (try simp only [tests, reduceCtorEq] at hc) <;> (try exact Zf))) | refine G.endOps ?_ | (refine G.atBin ?_; first | (refine G.atNeq ?_; first | refine G.neStr0 rfl rfl rfl ?_) | refine G.op rfl rfl ?_) | refine G.op rfl rfl ?_)
      all_goals first | (exfalso; omega) | exact G.done (rs := [.tmp 4, .tmp 5]) rfl (.tmp rfl (.tmp rfl .nil)) rfl [] (SubH.nil _) ⟨rfl, rfl⟩ | skip
    . rw [hk, hb]
      repeat' (first | (refine G.atCode ?_; first | refine G.seq ?_ | refine G.region ?_ | refine G.exit rfl ?_ | refine G.ret ?_ | (refine G.cond rfl ?_ ?_ <;> intro hc <;> (try simp only [tests, reduceCtorEq] at hc) <;> (try exact Zf))) | refine G.endOps ?_ | (refine G.atBin ?_; first | (refine G.atNeq ?_; first | refine G.neStr0 rfl rfl rfl ?_) | refine G.op rfl rfl ?_) | refine G.op rfl rfl ?_)
      all_goals first | (exfalso; omega) | exact G.done (rs := [.tmp 4, .tmp 5]) rfl (.tmp rfl (.tmp rfl .nil)) rfl [] (SubH.nil _) ⟨by unfold kindV; first | (simp [hnl]; done) | (simp [hnl]; rfl), rfl⟩ | skip
set_option maxRecDepth 8000 in
set_option maxHeartbeats 8000000 in
theorem law_SchemaWants (T : List Ty4) (C : List Cls) (vT vC vW : Value) (rc : List (List Value)) (ws : List (List UInt8)) (hB : ScB T C) (hw : ∀ w ∈ ws, w.length <= 10000000) (hwn : ws.length <= 10000000) (h : Heap) (hvT : HSl h vT 4 (tyR T)) (hvC : HSl h vC 5 rc) (hrc : ClsC h C rc) (hW : HSl h vW 1 (strsR ws)) :
    Spec Try.prog 4 [.agg #[vT, vC], vW] h [] (fun u _ _ => u = .bool true) := by
  have hrl := hrc.len
  have hbt := hB.tn
  have hbc := hB.cn
  obtain ⟨AT, cT, rfl, hcT, hmT, _⟩ := hvT.form
  obtain ⟨AC, cC, rfl, hcC, hmC, _⟩ := hvC.form
  obtain ⟨AW, cW, rfl, _, hmW, _⟩ := hW.form
  simp only [tyR_length, hrl, strsR_length] at hvT hvC hW ⊢
  have ssm := law13_Small T C (.slice AT T.length cT) (.slice AC C.length cC) rc hB
  by_cases hk : chkS T C = 0
  . obtain ⟨g, hTl, hCl⟩ := good_of hk
    have s1 := schema_Wants T C hk hB.cok AT T.length cT (.slice AC C.length cC) (.slice AW ws.length cW) rc ws hw
    have s2 := ref13_Wants T C hk hB.cok AT T.length cT (.slice AC C.length cC) (.slice AW ws.length cW) rc ws hw
    have s3 := schema_Kind C g hB.cok hbc AT T.length cT (.slice AC C.length cC) (.slice AW ws.length cW) rc ws hw hwn
    have s4 := ref13_Kind C g hB.cok hbc AT T.length cT (.slice AC C.length cC) (.slice AW ws.length cW) rc ws hw hwn
    generalize uM (mustF C ws) = M1 at *
    generalize mayU C ws = M2 at *
    obtain ⟨kn, kb, hkv⟩ : ∃ kn kb, kindV (kindM C ws) = .tuple #[str kn, .bool kb] := by
      cases kindM C ws with
      | none => exact ⟨_, _, rfl⟩
      | some n => exact ⟨_, _, rfl⟩
    rw [hkv] at s3 s4
    refine Spec.enter Try.func4 rfl rfl ?_; intro w0
    repeat' (first | (show G _ (.ops .seq _ (⟨some _, .call { callee := .value (.func 12), args := _, argTypes := _ }, _, _, _, none⟩ :: _) :: _) _ _ _; refine G.call callSmall13 rfl rfl (ssm _ (hvT.mono (by solve | repeat first | assumption | exact Zr _ | refine Zq ?_ Zp)) (hvC.mono (by solve | repeat first | assumption | exact Zr _ | refine Zq ?_ Zp)) (hrc.mono (by solve | repeat first | assumption | exact Zr _ | refine Zq ?_ Zp))) Ze ?_; rintro _ h2 H2 ⟨⟨bs, rfl, hbs⟩, rfl⟩ hle2) | (show G _ (.ops .seq _ (⟨some _, .call { callee := .value (.func 9), args := _, argTypes := _ }, _, _, _, none⟩ :: _) :: _) _ _ _; refine G.call callAwake13 rfl rfl (law13_awake _) Ze ?_; rintro _ haw Haw ⟨rfl, rfl⟩ hleaw) | (show G _ (.ops .seq _ (⟨some _, .call { callee := .value (.func 13), args := _, argTypes := _ }, _, _, _, none⟩ :: _) :: _) _ _ _; refine G.call callWants rfl rfl (s1 _ (hvC.mono (by solve | repeat first | assumption | exact Zr _ | refine Zq ?_ Zp)) (hrc.mono (by solve | repeat first | assumption | exact Zr _ | refine Zq ?_ Zp)) (hW.mono (by solve | repeat first | assumption | exact Zr _ | refine Zq ?_ Zp))) Ze ?_; rintro _ h3 H3 ⟨⟨a1, a2, rfl, ha1, ha2⟩, rfl⟩ hle3) | (show G _ (.ops .seq _ (⟨some _, .call { callee := .value (.func 14), args := _, argTypes := _ }, _, _, _, none⟩ :: _) :: _) _ _ _; refine G.call callWantsR rfl rfl (s2 _ (hvC.mono (by solve | repeat first | assumption | exact Zr _ | refine Zq ?_ Zp)) (hrc.mono (by solve | repeat first | assumption | exact Zr _ | refine Zq ?_ Zp)) (hW.mono (by solve | repeat first | assumption | exact Zr _ | refine Zq ?_ Zp))) Ze ?_; rintro _ h4 H4 ⟨⟨e1, e2, rfl, he1, he2⟩, rfl⟩ hle4) | (show G _ (.ops .seq _ (⟨some _, .call { callee := .value (.func 15), args := _, argTypes := _ }, _, _, _, none⟩ :: _) :: _) _ _ _; refine G.call callKindS rfl rfl (s3 _ (hvC.mono (by solve | repeat first | assumption | exact Zr _ | refine Zq ?_ Zp)) (hrc.mono (by solve | repeat first | assumption | exact Zr _ | refine Zq ?_ Zp)) (hW.mono (by solve | repeat first | assumption | exact Zr _ | refine Zq ?_ Zp))) Ze ?_; rintro _ h5 H5 ⟨rfl, rfl⟩ hle5) | (show G _ (.ops .seq _ (⟨some _, .call { callee := .value (.func 16), args := _, argTypes := _ }, _, _, _, none⟩ :: _) :: _) _ _ _; refine G.call callKindR rfl rfl (s4 _ (hvC.mono (by solve | repeat first | assumption | exact Zr _ | refine Zq ?_ Zp)) (hrc.mono (by solve | repeat first | assumption | exact Zr _ | refine Zq ?_ Zp)) (hW.mono (by solve | repeat first | assumption | exact Zr _ | refine Zq ?_ Zp))) Ze ?_; rintro _ h6 H6 ⟨rfl, rfl⟩ hle6) | (show G _ (.ops .seq _ (⟨some _, .call { callee := .value (.func 17), args := _, argTypes := _ }, _, _, _, none⟩ :: _) :: _) _ _ _; refine G.call callSame13 rfl rfl (law13_same M1 a1 e1 _ (ha1.mono (by solve | repeat first | assumption | exact Zr _ | refine Zq ?_ Zp)) (he1.mono (by solve | repeat first | assumption | exact Zr _ | refine Zq ?_ Zp))) Ze ?_; rintro _ h7 H7 ⟨rfl, rfl⟩ hle7) | (show G _ (.ops .seq _ (⟨some _, .call { callee := .value (.func 17), args := _, argTypes := _ }, _, _, _, none⟩ :: _) :: _) _ _ _; refine G.call callSame13 rfl rfl (law13_same M2 a2 e2 _ (ha2.mono (by solve | repeat first | assumption | exact Zr _ | refine Zq ?_ Zp)) (he2.mono (by solve | repeat first | assumption | exact Zr _ | refine Zq ?_ Zp))) Ze ?_; rintro _ h8 H8 ⟨rfl, rfl⟩ hle8) | (refine G.atCode ?_; first | refine G.seq ?_ | refine G.region ?_ | refine G.skip ?_ | refine G.ret ?_ | (refine G.cond rfl ?_ ?_ <;> intro hc <;> (try simp only [tests, reduceCtorEq] at hc) <;> (try exact Zf))) | refine G.endOps ?_ | (refine G.atGd ?_; first | refine G.guardYes rfl rfl ?_ | refine G.guardNoS rfl rfl rfl ?_ | (refine G.guardS rfl rfl rfl ?_ ?_ <;> intro hc <;> (try simp only [tests, reduceCtorEq] at hc) <;> (try exact Zf))) | (refine G.atBin ?_; first | (refine G.atEql ?_; first | refine G.eqStr rfl rfl rfl ?_ | refine G.eqBool rfl rfl (tyy rfl) rfl ?_) | refine G.op rfl rfl ?_) | refine G.op rfl rfl ?_ | (refine G.atLen ?_; first | refine G.lenSlice rfl (tyy rfl) rfl ?_) | (refine G.atLoad ?_; first | refine G.loadOwnA rfl (tyy rfl) rfl rfl Za rfl rfl ?_) | (refine G.atBox ?_; refine G.box rfl rfl rfl ?_; intro _))
    all_goals first | (exfalso; omega) | exact G.done1 rfl rfl [] (SubH.nil _) (by solve | rfl | simp) | (exfalso; simp_all; done) | skip
  . refine Spec.enter Try.func4 rfl rfl ?_; intro w0
    repeat' (first | (show G _ (.ops .seq _ (⟨some _, .call { callee := .value (.func 12), args := _, argTypes := _ }, _, _, _, none⟩ :: _) :: _) _ _ _; refine G.call callSmall13 rfl rfl (ssm _ (hvT.mono (by solve | repeat first | assumption | exact Zr _ | refine Zq ?_ Zp)) (hvC.mono (by solve | repeat first | assumption | exact Zr _ | refine Zq ?_ Zp)) (hrc.mono (by solve | repeat first | assumption | exact Zr _ | refine Zq ?_ Zp))) Ze ?_; rintro _ h2 H2 ⟨⟨bs, rfl, hbs⟩, rfl⟩ hle2) | (show G _ (.ops .seq _ (⟨some _, .call { callee := .value (.func 9), args := _, argTypes := _ }, _, _, _, none⟩ :: _) :: _) _ _ _; refine G.call callAwake13 rfl rfl (law13_awake _) Ze ?_; rintro _ haw Haw ⟨rfl, rfl⟩ hleaw) | (refine G.atCode ?_; first | refine G.seq ?_ | refine G.region ?_ | refine G.skip ?_ | refine G.ret ?_ | (refine G.cond rfl ?_ ?_ <;> intro hc <;> (try simp only [tests, reduceCtorEq] at hc) <;> (try exact Zf))) | refine G.endOps ?_ | (refine G.atGd ?_; first | refine G.guardYes rfl rfl ?_ | refine G.guardNoS rfl rfl rfl ?_ | (refine G.guardS rfl rfl rfl ?_ ?_ <;> intro hc <;> (try simp only [tests, reduceCtorEq] at hc) <;> (try exact Zf))) | (refine G.atBin ?_; first | refine G.op rfl rfl ?_) | refine G.op rfl rfl ?_ | (refine G.atLen ?_; first | refine G.lenSlice rfl (tyy rfl) rfl ?_) | (refine G.atLoad ?_; first | refine G.loadOwnA rfl (tyy rfl) rfl rfl Za rfl rfl ?_) | (refine G.atBox ?_; refine G.box rfl rfl rfl ?_; intro _))
    all_goals first | (exfalso; omega) | exact G.done1 rfl rfl [] (SubH.nil _) rfl | (exfalso; simp_all; done) | skip
end Go.Proofs.Ytfmekdmpghhegaa
