/- castellanref13.Kind, schema.Kind. -/
import Derived.Test.YtfmekdmpghhegaaDoorScH
import Derived.Test.YtfmekdmpghhegaaDoorScF
namespace Go.Proofs.YtfmekdmpghhegaaDoor
set_option linter.all false
set_option maxRecDepth 4000
open Go.RowKit

theorem callKindS : Callable Tryd.prog 9 := ⟨_, Tryd.func9, by kernel_rfl, rfl⟩
def kindV (o : Option (List UInt8)) : Value := match o with | some n => .tuple #[str n, .bool true] | none => .tuple #[str [], .bool false]
theorem strucs_snoc {C : List Cls} {ws : List (List UInt8)} {i : Nat} {w : List UInt8} (h : ws[i]? = some w) : strucs C (ws.take (i + 1)) = strucs C (ws.take i) ++ if (gtC C w).2.2.1 = 1 then [(gtC C w).1] else [] := by
  have e : ws.take (i + 1) = ws.take i ++ [w] := by
    obtain ⟨hlt, he⟩ := List.getElem?_eq_some_iff.1 h
    rw [List.take_succ_eq_append_getElem hlt, he]
  unfold strucs
  rw [e, List.map_append, List.filter_append, List.map_append]
  congr 1
  by_cases hk : (gtC C w).2.2.1 = 1
  . rw [if_pos hk]; simp [hk]
  . rw [if_neg hk]; simp [hk]
set_option maxRecDepth 8000 in
set_option maxHeartbeats 4000000 in
theorem schema_Kind (C : List Cls) (g : GoodC C) (hC : ∀ c ∈ C, ClsB c) (hn : C.length <= 10000000) (AT : Option Addr) (nT cT : Nat) (vC vW : Value) (rc : List (List Value)) (ws : List (List UInt8)) (hw : ∀ w ∈ ws, w.length <= 10000000) (hwn : ws.length <= 10000000) (h : Heap) (hvC : HSl h vC 5 rc) (hrc : ClsC h C rc) (hW : HSl h vW 1 (strsR ws)) :
    Spec Tryd.prog 9 [.agg #[.slice AT nT cT, vC], vW] h [] (fun u _ H' => u = kindV (kindM C ws) /\ H' = []) := by
  have hrl := hrc.len
  obtain ⟨AC, cC, rfl, hcC, hmC, _⟩ := hvC.form
  rw [hrl] at *
  have hrl := hrc.len
  obtain ⟨AW, cW, rfl, _⟩ := hW.form
  rw [strsR_length] at *
  have sch : ∀ q : List UInt8, q.length <= 10000000 -> ∀ hh, HSl hh (.slice AC C.length cC) 5 rc -> ClsC hh C rc -> Spec Tryd.prog 19 [.agg #[.slice AT nT cT, .slice AC C.length cC], str q] hh [] (fun u h' H' => HSl h' u 1 (strsR (chM C q)) /\ H' = []) := fun q hq hh x y => by
    have := schema_Chain C hC hn AT nT cT (.slice AC C.length cC) rc q hq hh x y
    rw [chGo_end g] at this
    exact this
  have scl := fun q (hq : q.length <= 100000000) => schema_classF C (ClsB.ok hC) (ClsB.two hC) (.slice AT nT cT) (.slice AC C.length cC) rc q hq
  refine Spec.enter Tryd.func9 rfl rfl ?_; intro w0
  repeat' (first | (refine G.atCode ?_; first | refine G.seq ?_ | refine G.region ?_) | refine G.endOps ?_ | refine G.op rfl rfl ?_ | (refine G.atBox ?_; refine G.box rfl rfl rfl ?_; intro _))
  rename_i gS
  repeat' (first | (refine G.atCode ?_; first | refine G.scope ?_ | refine G.stopLoop ?_) | (refine G.atCode ?_; first | refine G.seq ?_ | refine G.region ?_ | refine G.block ?_) | refine G.endOps ?_ | refine G.op rfl rfl ?_ | (refine G.atLen ?_; first | refine G.lenSlice rfl (tyy rfl) rfl ?_))
  refine G.nilRow 9 1 ?_
  refine G.go ?_
  refine G.loop (σ := Nat × Value × List (List UInt8)) (fun x => [(18, .int .i64 x.1), (17, .int .i64 ws.length), (16, .slice AW ws.length cW), (6, x.2.1), (2, .pointer (some ⟨gS, 0, none⟩))])
    (fun x => [.row x.2.1 9 1 (strsR x.2.2), .blk gS [.slice AT nT cT, .slice AC C.length cC] 25])
    (fun x _ => x.1 <= ws.length /\ x.2.2 = strucs C (ws.take x.1) /\ x.2.2.length <= x.1 /\ (ws.take x.1).all (fun w => (ixC C w).isSome) = true) (fun x => ws.length - x.1) ⟨0, .slice none 0 0, []⟩ ⟨rfl, rfl, rfl, rfl, rfl, trivial⟩ Zu ⟨Nat.zero_le _, rfl, by simp, rfl⟩ ?_
  rintro ⟨i, ov, out⟩ h1 hle1 ⟨hi, hout, hol, hall⟩
  simp only at hi hout hol hall
  refine G.norm (by (try dsimp only) <;> exact rfl) (by (try dsimp only) <;> exact rfl) ?_
  by_cases hlt : i < ws.length
  . obtain ⟨w, hx⟩ : ∃ t, ws[i]? = some t := ⟨ws[i], List.getElem?_eq_getElem hlt⟩
    have hget : (strsR ws)[i]? = some [str w] := by simp [strsR, hx]
    have scl2 := scl w (by have := hw w (List.mem_of_getElem? hx); omega)
    have hsn := strucs_snoc (C := C) hx
    rw [<- hout] at hsn
    have htl : (ws.take (i + 1)).all (fun w => (ixC C w).isSome) = (ixC C w).isSome := by
      have e : ws.take (i + 1) = ws.take i ++ [w] := take_get hx
      rw [e, List.all_append, hall]; simp
    cases hq : (ixC C w).isSome with
    | false =>
      have hno : ws.all (fun w => (ixC C w).isSome) = false := by
        rw [Bool.eq_false_iff]
        intro hh
        have := List.all_eq_true.1 hh w (List.mem_of_getElem? hx)
        rw [hq] at this; cases this
      have hkm : kindM C ws = none := by unfold kindM; rw [if_pos hno]
      rw [hkm]
      rw [hq] at scl2
      repeat' (first | (refine G.atIdx ?_; refine G.idxImm rfl rfl (tyy rfl) (tyy rfl) (hW.mono (by solve | repeat first | assumption | exact Zr _ | refine Zq ?_ Zp)) Zj rfl (by rw [strsR_length]; omega) ?_; intro pp rr hx9 hp9; (rw [hget] at hx9); (obtain rfl := Option.some.inj hx9)) | (show G _ (.ops .seq _ (⟨some _, .call { callee := .value (.func 18), args := _, argTypes := _ }, _, _, _, none⟩ :: _) :: _) _ _ _; refine G.call callClass rfl rfl (scl2 _ (hvC.mono (by solve | repeat first | assumption | exact Zr _ | refine Zq ?_ Zp)) (hrc.mono (by solve | repeat first | assumption | exact Zr _ | refine Zq ?_ Zp))) Ze ?_; rintro _ h4 H4 ⟨⟨Am, cm, Ay, cy, rfl, hm, hy⟩, rfl⟩ hle4) | (refine G.atCode ?_; first | refine G.seq ?_ | refine G.region ?_ | refine G.block ?_ | refine G.skip ?_ | refine G.ret ?_ | (refine G.cond rfl ?_ ?_ <;> intro hc <;> (try simp only [tests, reduceCtorEq] at hc) <;> (try exact Zf))) | refine G.endOps ?_ | (refine G.atBin ?_; first | refine G.op rfl rfl ?_) | refine G.op rfl rfl ?_ | (refine G.atLoad ?_; first | refine G.loadOwnA rfl (tyy rfl) rfl rfl Za rfl rfl ?_ | refine G.loadImm1 rfl (tyy rfl) rfl rfl Zp rfl ?_) | (refine G.atSto ?_; refine G.storeOwn rfl rfl (tyy rfl) Za rfl rfl rfl rfl ?_) | (refine G.atAlc ?_; refine G.alloc (tyy rfl) rfl rfl ?_; intro _) | (refine G.atBld ?_; refine G.build (tyy rfl) rfl rfl rfl ?_))
      all_goals first | (exfalso; omega) | exact G.done (rs := [.tmp 4, .tmp 5]) rfl (.tmp rfl (.tmp rfl .nil)) rfl [] (SubH.nil _) ⟨rfl, rfl⟩ | skip
    | true =>
      rw [hq] at scl2 htl
      generalize gtC C w = gc at *
      by_cases hk : gc.2.2.1 = 1
      . rw [if_pos hk] at hsn
        repeat' (first | (refine G.atIdx ?_; refine G.idxImm rfl rfl (tyy rfl) (tyy rfl) (hW.mono (by solve | repeat first | assumption | exact Zr _ | refine Zq ?_ Zp)) Zj rfl (by rw [strsR_length]; omega) ?_; intro pp rr hx9 hp9; (rw [hget] at hx9); (obtain rfl := Option.some.inj hx9)) | (show G _ (.ops .seq _ (⟨some _, .call { callee := .value (.func 18), args := _, argTypes := _ }, _, _, _, none⟩ :: _) :: _) _ _ _; refine G.call callClass rfl rfl (scl2 _ (hvC.mono (by solve | repeat first | assumption | exact Zr _ | refine Zq ?_ Zp)) (hrc.mono (by solve | repeat first | assumption | exact Zr _ | refine Zq ?_ Zp))) Ze ?_; rintro _ h4 H4 ⟨⟨Am, cm, Ay, cy, rfl, hm, hy⟩, rfl⟩ hle4) | (refine G.atCode ?_; first | refine G.seq ?_ | refine G.region ?_ | refine G.block ?_ | refine G.skip ?_ | (refine G.cond rfl ?_ ?_ <;> intro hc <;> (try simp only [tests, reduceCtorEq] at hc) <;> (try exact Zf))) | refine G.endOps ?_ | refine G.endBlk ?_ | (refine G.atBin ?_; first | (refine G.atAdd ?_; first | refine G.arith rfl rfl rfl rfl rfl Zi ?_) | (refine G.atEql ?_; first | refine G.op rfl rfl ?_) | refine G.op rfl rfl ?_) | refine G.op rfl rfl ?_ | (refine G.atLoad ?_; first | refine G.loadOwn1 rfl (tyy rfl) rfl rfl Za rfl rfl ?_ | refine G.loadOwnA rfl (tyy rfl) rfl rfl Za rfl rfl ?_ | refine G.loadImm1 rfl (tyy rfl) rfl rfl Zp rfl ?_) | (refine G.atFld ?_; first | refine G.fieldAddr rfl (tyy rfl) rfl rfl ?_) | (refine G.atSto ?_; refine G.storeOwn rfl rfl (tyy rfl) Za rfl rfl rfl rfl ?_) | (refine G.atAlc ?_; refine G.alloc (tyy rfl) rfl rfl ?_; intro _) | (refine G.atBld ?_; refine G.build (tyy rfl) rfl rfl rfl ?_) | (refine G.atBsl ?_; refine G.buildSlice (tyy rfl) (tyy rfl) rfl rfl rfl rfl ?_; intro _) | (refine G.atApp ?_; first | (refine G.append1S rfl rfl (tyy rfl) (tyy rfl) rfl rfl Za Za rfl Zo ?_; intro _)))
        all_goals first | (exfalso; omega) | exact G.again ⟨i + 1, _, out ++ [gc.1]⟩ ⟨sint (by simp), rfl, rfl, rfl, rfl, trivial⟩ Zu ⟨by simp only; omega, hsn.symm, by simp only [List.length_append, List.length_cons, List.length_nil]; omega, htl⟩ (by solve | repeat first | assumption | exact Zr _ | refine Zq ?_ Zp) (by simp only; omega) | skip
      . rw [if_neg hk, List.append_nil] at hsn
        repeat' (first | (refine G.atIdx ?_; refine G.idxImm rfl rfl (tyy rfl) (tyy rfl) (hW.mono (by solve | repeat first | assumption | exact Zr _ | refine Zq ?_ Zp)) Zj rfl (by rw [strsR_length]; omega) ?_; intro pp rr hx9 hp9; (rw [hget] at hx9); (obtain rfl := Option.some.inj hx9)) | (show G _ (.ops .seq _ (⟨some _, .call { callee := .value (.func 18), args := _, argTypes := _ }, _, _, _, none⟩ :: _) :: _) _ _ _; refine G.call callClass rfl rfl (scl2 _ (hvC.mono (by solve | repeat first | assumption | exact Zr _ | refine Zq ?_ Zp)) (hrc.mono (by solve | repeat first | assumption | exact Zr _ | refine Zq ?_ Zp))) Ze ?_; rintro _ h4 H4 ⟨⟨Am, cm, Ay, cy, rfl, hm, hy⟩, rfl⟩ hle4) | (refine G.atCode ?_; first | refine G.seq ?_ | refine G.region ?_ | refine G.block ?_ | refine G.skip ?_ | (refine G.cond rfl ?_ ?_ <;> intro hc <;> (try simp only [tests, reduceCtorEq] at hc) <;> (try exact Zf))) | refine G.endOps ?_ | refine G.endBlk ?_ | (refine G.atBin ?_; first | (refine G.atAdd ?_; first | refine G.arith rfl rfl rfl rfl rfl Zi ?_) | (refine G.atEql ?_; first | refine G.op rfl rfl ?_) | refine G.op rfl rfl ?_) | refine G.op rfl rfl ?_ | (refine G.atLoad ?_; first | refine G.loadOwn1 rfl (tyy rfl) rfl rfl Za rfl rfl ?_ | refine G.loadOwnA rfl (tyy rfl) rfl rfl Za rfl rfl ?_ | refine G.loadImm1 rfl (tyy rfl) rfl rfl Zp rfl ?_) | (refine G.atFld ?_; first | refine G.fieldAddr rfl (tyy rfl) rfl rfl ?_) | (refine G.atSto ?_; refine G.storeOwn rfl rfl (tyy rfl) Za rfl rfl rfl rfl ?_) | (refine G.atAlc ?_; refine G.alloc (tyy rfl) rfl rfl ?_; intro _) | (refine G.atBld ?_; refine G.build (tyy rfl) rfl rfl rfl ?_))
        all_goals first | (exfalso; omega) | exact G.again ⟨i + 1, _, out⟩ ⟨sint (by simp), rfl, rfl, rfl, rfl, trivial⟩ Zu ⟨by simp only; omega, hsn.symm, by simp only; omega, htl⟩ (by solve | repeat first | assumption | exact Zr _ | refine Zq ?_ Zp) (by simp only; omega) | skip
  . obtain rfl : i = ws.length := by omega
    rw [List.take_length] at hout hall
    have hkm : kindM C ws = out.find? (fun n => out.all fun o => decide (o ∈ chM C n)) := by
      unfold kindM
      rw [if_neg (by rw [hall]; simp), hout]; rfl
    rw [hkm]
    have hon : ∀ n ∈ out, n.length <= 10000000 := fun n hn => by
      rw [hout, struc_mem hall] at hn
      obtain ⟨_, j, c, _, _, hc, _, rfl⟩ := hn
      exact (hC c (List.mem_of_getElem? hc)).1
    refine G.rowForm (v := ov) Za ?_
    rintro Ao co rfl
    rw [strsR_length]
    refine G.freezeRow Take.hd ?_
    intro hF hleF hO
    repeat' (first | (refine G.atCode ?_; first | refine G.label ?_ | refine G.stopLoop ?_) | (refine G.atCode ?_; first | refine G.seq ?_ | refine G.region ?_ | refine G.block ?_ | refine G.exit rfl ?_ | (refine G.cond rfl ?_ ?_ <;> intro hc <;> (try simp only [tests, reduceCtorEq] at hc) <;> (try exact Zf))) | refine G.endOps ?_ | (refine G.atBin ?_; first | refine G.op rfl rfl ?_) | refine G.op rfl rfl ?_ | (refine G.atLen ?_; first | refine G.lenSlice rfl (tyy rfl) rfl ?_))
    all_goals (try (exfalso; omega))
    refine G.go ?_
    refine G.loop (σ := Nat) (fun i => [(42, .int .i64 i), (41, .int .i64 out.length), (40, .slice Ao out.length co), (6, .slice Ao out.length co), (2, .pointer (some ⟨gS, 0, none⟩))])
      (fun _ => [.blk gS [.slice AT nT cT, .slice AC C.length cC] 25])
      (fun i _ => i <= out.length /\ ∀ n ∈ out.take i, (out.all fun o => decide (o ∈ chM C n)) = false) (fun i => out.length - i) 0 ⟨rfl, rfl, rfl, rfl, rfl, trivial⟩ Zu ⟨Nat.zero_le _, by simp⟩ ?_
    rintro i h5 hle5 ⟨hi, hno⟩
    by_cases hlt : i < out.length
    . obtain ⟨n, hx⟩ : ∃ t, out[i]? = some t := ⟨out[i], List.getElem?_eq_getElem hlt⟩
      have hget : (strsR out)[i]? = some [str n] := by simp [strsR, hx]
      have sch2 := sch n (hon n (List.mem_of_getElem? hx))
      repeat' (first | (refine G.atIdx ?_; refine G.idxImm rfl rfl (tyy rfl) (tyy rfl) (hO.mono (by solve | repeat first | assumption | exact Zr _ | refine Zq ?_ Zp)) Zj rfl (by rw [strsR_length]; omega) ?_; intro pp rr hx9 hp9; (rw [hget] at hx9); (obtain rfl := Option.some.inj hx9)) | (show G _ (.ops .seq _ (⟨some _, .call { callee := .value (.func 19), args := _, argTypes := _ }, _, _, _, none⟩ :: _) :: _) _ _ _; refine G.call callChain rfl rfl (sch2 _ (hvC.mono (by solve | repeat first | assumption | exact Zr _ | refine Zq ?_ Zp)) (hrc.mono (by solve | repeat first | assumption | exact Zr _ | refine Zq ?_ Zp))) Ze ?_; rintro cv h2 H2 ⟨hcv, rfl⟩ hle2) | (refine G.atCode ?_; first | refine G.stopLoop ?_) | (refine G.atCode ?_; first | refine G.seq ?_ | refine G.region ?_ | refine G.block ?_ | refine G.skip ?_ | (refine G.cond rfl ?_ ?_ <;> intro hc <;> (try simp only [tests, reduceCtorEq] at hc) <;> (try exact Zf))) | refine G.endOps ?_ | (refine G.atBin ?_; first | refine G.op rfl rfl ?_) | refine G.op rfl rfl ?_ | (refine G.atLen ?_; first | refine G.lenSlice rfl (tyy rfl) rfl ?_) | (refine G.atLoad ?_; first | refine G.loadOwnA rfl (tyy rfl) rfl rfl Za rfl rfl ?_ | refine G.loadImm1 rfl (tyy rfl) rfl rfl Zp rfl ?_))
      all_goals (try (exfalso; omega))
      refine G.go ?_
      refine G.loop (σ := Nat) (fun j => [(51, .int .i64 j), (50, .int .i64 out.length), (49, .slice Ao out.length co), (13, cv), (12, str n), (42, .int .i64 i), (41, .int .i64 out.length), (40, .slice Ao out.length co), (6, .slice Ao out.length co), (2, .pointer (some ⟨gS, 0, none⟩))])
        (fun _ => [.blk gS [.slice AT nT cT, .slice AC C.length cC] 25])
        (fun j _ => j <= out.length /\ ((out.take j).all fun o => decide (o ∈ chM C n)) = true) (fun j => out.length - j) 0 ⟨rfl, rfl, rfl, rfl, rfl, rfl, rfl, rfl, rfl, rfl, trivial⟩ Zu ⟨Nat.zero_le _, by simp⟩ ?_
      rintro j h6 hle6 ⟨hj, hja⟩
      by_cases hjt : j < out.length
      . obtain ⟨o, ho⟩ : ∃ t, out[j]? = some t := ⟨out[j], List.getElem?_eq_getElem hjt⟩
        have hgeto : (strsR out)[j]? = some [str o] := by simp [strsR, ho]
        have sco := slices_Contains (chM C n) o cv
        by_cases hin : o ∈ chM C n
        . rw [decide_eq_true hin] at sco
          repeat' (first | (refine G.atIdx ?_; refine G.idxImm rfl rfl (tyy rfl) (tyy rfl) (hO.mono (by solve | repeat first | assumption | exact Zr _ | refine Zq ?_ Zp)) Zj rfl (by rw [strsR_length]; omega) ?_; intro pp rr hx9 hp9; (rw [hgeto] at hx9); (obtain rfl := Option.some.inj hx9)) | (show G _ (.ops .seq _ (⟨some _, .call { callee := .value (.func 20), args := _, argTypes := _ }, _, _, _, none⟩ :: _) :: _) _ _ _; refine G.call callContains rfl rfl (sco _ (hcv.mono (by solve | repeat first | assumption | exact Zr _ | refine Zq ?_ Zp))) Ze ?_; rintro _ h7 H7 ⟨rfl, rfl⟩ hle7) | (refine G.atCode ?_; first | refine G.seq ?_ | refine G.region ?_ | refine G.block ?_ | refine G.skip ?_ | (refine G.cond rfl ?_ ?_ <;> intro hc <;> (try simp only [tests, reduceCtorEq] at hc) <;> (try exact Zf))) | refine G.endOps ?_ | refine G.endBlk ?_ | (refine G.atBin ?_; first | (refine G.atAdd ?_; first | refine G.arith rfl rfl rfl rfl rfl Zi ?_) | refine G.op rfl rfl ?_) | refine G.op rfl rfl ?_ | (refine G.atLoad ?_; first | refine G.loadImm1 rfl (tyy rfl) rfl rfl Zp rfl ?_))
          all_goals first | (exfalso; omega) | exact G.again (j + 1) ⟨sint (by simp), rfl, rfl, rfl, rfl, rfl, rfl, rfl, rfl, rfl, trivial⟩ Zu ⟨by omega, by rw [take_get ho, List.all_append, hja]; simp [hin]⟩ (by solve | repeat first | assumption | exact Zr _ | refine Zq ?_ Zp) (by omega) | skip
        . rw [decide_eq_false hin] at sco
          have hnn : (out.all fun o => decide (o ∈ chM C n)) = false := by
            rw [Bool.eq_false_iff]
            intro hh
            have := of_decide_eq_true (List.all_eq_true.1 hh o (List.mem_of_getElem? ho))
            exact hin this
          repeat' (first | (refine G.atIdx ?_; refine G.idxImm rfl rfl (tyy rfl) (tyy rfl) (hO.mono (by solve | repeat first | assumption | exact Zr _ | refine Zq ?_ Zp)) Zj rfl (by rw [strsR_length]; omega) ?_; intro pp rr hx9 hp9; (rw [hgeto] at hx9); (obtain rfl := Option.some.inj hx9)) | (show G _ (.ops .seq _ (⟨some _, .call { callee := .value (.func 20), args := _, argTypes := _ }, _, _, _, none⟩ :: _) :: _) _ _ _; refine G.call callContains rfl rfl (sco _ (hcv.mono (by solve | repeat first | assumption | exact Zr _ | refine Zq ?_ Zp))) Ze ?_; rintro _ h7 H7 ⟨rfl, rfl⟩ hle7) | (refine G.atCode ?_; first | refine G.seq ?_ | refine G.region ?_ | refine G.block ?_ | refine G.skip ?_ | refine G.exit rfl ?_ | (refine G.cond rfl ?_ ?_ <;> intro hc <;> (try simp only [tests, reduceCtorEq] at hc) <;> (try exact Zf))) | refine G.endOps ?_ | (refine G.atBin ?_; first | (refine G.atAdd ?_; first | refine G.arith rfl rfl rfl rfl rfl Zi ?_) | refine G.op rfl rfl ?_) | refine G.op rfl rfl ?_ | (refine G.atLoad ?_; first | refine G.loadImm1 rfl (tyy rfl) rfl rfl Zp rfl ?_))
          all_goals first | (exfalso; omega) | exact G.again (i + 1) ⟨sint (by simp), rfl, rfl, rfl, rfl, trivial⟩ Zu ⟨by omega, fun m hm => by rw [take_get hx] at hm; rcases List.mem_append.1 hm with hm | hm; exact hno m hm; simp at hm; subst hm; exact hnn⟩ (by solve | repeat first | assumption | exact Zr _ | refine Zq ?_ Zp) (by omega) | skip
      . obtain rfl : j = out.length := by omega
        rw [List.take_length] at hja
        have hfd : out.find? (fun n => out.all fun o => decide (o ∈ chM C n)) = some n := by
          rw [List.find?_eq_some_iff_getElem]
          obtain ⟨h9, e9⟩ := List.getElem?_eq_some_iff.1 hx
          refine ⟨hja, i, h9, e9, fun j hj => ?_⟩
          have := hno out[j] (List.mem_iff_getElem.2 ⟨j, by rw [List.length_take]; omega, by rw [List.getElem_take]⟩)
          simp only [this]; rfl
        rw [hfd]
        repeat' (first | (refine G.atCode ?_; first | refine G.seq ?_ | refine G.region ?_ | refine G.exit rfl ?_ | refine G.ret ?_ | (refine G.cond rfl ?_ ?_ <;> intro hc <;> (try simp only [tests, reduceCtorEq] at hc) <;> (try exact Zf))) | refine G.endOps ?_ | (refine G.atBin ?_; first | refine G.op rfl rfl ?_) | refine G.op rfl rfl ?_)
        all_goals first | (exfalso; omega) | exact G.done (rs := [.tmp 4, .tmp 5]) rfl (.tmp rfl (.tmp rfl .nil)) rfl [] (SubH.nil _) ⟨rfl, rfl⟩ | skip
    . obtain rfl : i = out.length := by omega
      rw [List.take_length] at hno
      have hfd : out.find? (fun n => out.all fun o => decide (o ∈ chM C n)) = none := by
        rw [List.find?_eq_none]
        intro x hx9
        rw [hno x hx9]; simp
      rw [hfd]
      repeat' (first | (refine G.atCode ?_; first | refine G.seq ?_ | refine G.region ?_ | refine G.exit rfl ?_ | refine G.ret ?_ | (refine G.cond rfl ?_ ?_ <;> intro hc <;> (try simp only [tests, reduceCtorEq] at hc) <;> (try exact Zf))) | refine G.endOps ?_ | (refine G.atBin ?_; first | refine G.op rfl rfl ?_) | refine G.op rfl rfl ?_)
      all_goals first | (exfalso; omega) | exact G.done (rs := [.tmp 4, .tmp 5]) rfl (.tmp rfl (.tmp rfl .nil)) rfl [] (SubH.nil _) ⟨rfl, rfl⟩ | skip
end Go.Proofs.YtfmekdmpghhegaaDoor
