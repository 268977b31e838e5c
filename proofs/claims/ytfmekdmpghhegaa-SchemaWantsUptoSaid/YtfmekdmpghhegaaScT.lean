/- castellanref13.Check. -/
import Derived.Test.YtfmekdmpghhegaaScE
namespace Go.Proofs.Ytfmekdmpghhegaa
set_option linter.all false
set_option maxRecDepth 4000
open Go.RowKit

theorem callCheckR : Callable Try.prog 11 := ⟨_, Try.func11, by kernel_rfl, rfl⟩
theorem clCk_eq (T : List Ty4) (d : List Cls) (c : Cls) : clCk T d c = if typeM c.1 = false then 20 else if (ixC d c.1).isSome = true then 21 else if c.2.2.1 < 0 \/ 2 < c.2.2.1 then 23
      else if c.2.1.length ≠ 0 /\ (ixC d c.2.1).isSome = false then 22 else if (c.2.1.length = 0 /\ c.2.2.1 ≠ 0) \/ (c.2.1.length ≠ 0 /\ (gtC d c.2.1).2.2.1 ≠ 0 /\ (gtC d c.2.1).2.2.1 ≠ c.2.2.1) then 2
      else if (c.2.2.2.1 ++ c.2.2.2.2).all (fun n => (ixT T n).isSome) = false then 22 else 0 := by
  unfold clCk supB
  simp only [decide_eq_true_eq]
set_option maxRecDepth 8000 in
set_option maxHeartbeats 16000000 in
theorem ref13_Check (T : List Ty4) (C : List Cls) (vT vC : Value) (rc : List (List Value)) (hB : ScB T C) (h : Heap) (hvT : HSl h vT 4 (tyR T)) (hvC : HSl h vC 5 rc) (hrc : ClsC h C rc) :
    Spec Try.prog 11 [.agg #[vT, vC]] h [] (fun u _ H' => u = .int .i64 (chkS T C) /\ H' = []) := by
  have hrl := hrc.len
  have hbt := hB.tn
  have hbc := hB.cn
  obtain ⟨AT, cT, rfl, hcT, hmT, _⟩ := hvT.form
  obtain ⟨AC, cC, rfl, hcC, hmC, _⟩ := hvC.form
  rw [tyR_length] at *
  rw [hrl] at *
  have hrl := hrc.len
  have sat := fun w (hw : w.length <= 100000000) => ref13_AtX T hB.tok (.slice AT T.length cT) w hw
  by_cases h0 : 128 < T.length \/ 128 < C.length
  . have e : chkS T C = 9 := by unfold chkS; rw [if_pos h0]
    rw [e]
    refine Spec.enter Try.func11 rfl rfl ?_; intro w0
    repeat' (first | (refine G.atCode ?_; first | refine G.seq ?_ | refine G.region ?_ | refine G.ret ?_ | (refine G.cond rfl ?_ ?_ <;> intro hc <;> (try simp only [tests, reduceCtorEq] at hc) <;> (try exact Zf))) | refine G.endOps ?_ | (refine G.atGd ?_; first | refine G.guardYes rfl rfl ?_ | refine G.guardNoS rfl rfl rfl ?_ | (refine G.guardS rfl rfl rfl ?_ ?_ <;> intro hc <;> (try simp only [tests, reduceCtorEq] at hc) <;> (try exact Zf))) | (refine G.atBin ?_; first | refine G.op rfl rfl ?_) | refine G.op rfl rfl ?_ | (refine G.atLen ?_; first | refine G.lenSlice rfl (tyy rfl) rfl ?_) | (refine G.atLoad ?_; first | refine G.loadOwn1 rfl (tyy rfl) rfl rfl Za rfl rfl ?_) | (refine G.atFld ?_; first | refine G.fieldAddr rfl (tyy rfl) rfl rfl ?_) | (refine G.atBox ?_; refine G.box rfl rfl rfl ?_; intro _))
    all_goals first | (exfalso; omega) | exact G.done1 rfl rfl [] (SubH.nil _) ⟨rfl, rfl⟩
  . refine Spec.enter Try.func11 rfl rfl ?_; intro w0
    repeat' (first | (refine G.atCode ?_; refine G.stopLoop ?_) | (refine G.atCode ?_; first | refine G.seq ?_ | refine G.region ?_ | refine G.block ?_ | refine G.skip ?_ | (refine G.cond rfl ?_ ?_ <;> intro hc <;> (try simp only [tests, reduceCtorEq] at hc) <;> (try exact Zf))) | refine G.endOps ?_ | (refine G.atGd ?_; first | refine G.guardYes rfl rfl ?_ | (refine G.guardS rfl rfl rfl ?_ ?_ <;> intro hc <;> (try simp only [tests, reduceCtorEq] at hc) <;> (try exact Zf))) | (refine G.atBin ?_; first | refine G.op rfl rfl ?_) | refine G.op rfl rfl ?_ | (refine G.atLen ?_; first | refine G.lenSlice rfl (tyy rfl) rfl ?_) | (refine G.atLoad ?_; first | refine G.loadOwn1 rfl (tyy rfl) rfl rfl Za rfl rfl ?_) | (refine G.atFld ?_; first | refine G.fieldAddr rfl (tyy rfl) rfl rfl ?_) | (refine G.atBox ?_; refine G.box rfl rfl rfl ?_; intro _))
    all_goals (try (exfalso; omega))
    rename_i gS _
    refine G.go ?_
    refine G.loop (σ := Nat) (fun i => [(24, .int .i64 i), (23, .int .i64 T.length), (22, .slice AT T.length cT), (1, .pointer (some ⟨gS, 0, none⟩))])
      (fun _ => [.blk gS [.slice AT T.length cT, .slice AC C.length cC] 25]) (fun i _ => i <= T.length /\ goM tyCk [] T = goM tyCk (T.take i) (T.drop i)) (fun i => T.length - i) 0 ⟨rfl, rfl, rfl, rfl, trivial⟩ Zu ⟨Nat.zero_le _, by simp⟩ ?_
    rintro i h1 hle1 ⟨hi, hg⟩
    by_cases hlt : i < T.length
    . obtain ⟨t, ht⟩ : ∃ t, T[i]? = some t := ⟨T[i], List.getElem?_eq_getElem hlt⟩
      have hget := tyR_get ht
      have htl := hB.tl _ (List.mem_of_getElem? ht)
      have hcut := hvT.cut i (by rw [tyR_length]; omega)
      rw [tyR_take] at hcut
      have hl4 : ([str t.1, .int .i64 t.2.1, .bool t.2.2.1, .bool t.2.2.2] : List Value).length = 4 := rfl
      have hbad := fun e he hne => chkS_ty (C := C) (e := e) h0 hg ht he hne
      have hgood : tyCk (T.take i) t = 0 -> goM tyCk [] T = goM tyCk (T.take (i + 1)) (T.drop (i + 1)) := fun e => by rw [hg, goM_step ht, e, if_neg (by simp)]
      have sat1 := ref13_AtX (T.take i) (hB.tok.take i) (.slice AT i cT) t.1 (by omega)
      have hckT : tyCk (T.take i) t = if typeM t.1 = false then 20 else if (ixT (T.take i) t.1).isSome = true then 21 else if t.2.1 < 1 \/ 8 < t.2.1 then 23 else 0 := rfl
      cases hq : ixT (T.take i) t.1 with
      | some j =>
        rw [hq, ixV_some] at sat1
        rw [hq] at hckT
        simp only [Option.isSome_some] at hckT
        repeat' (first | (refine G.atIdx ?_; refine G.idxImm rfl rfl (tyy rfl) (tyy rfl) (hvT.mono (by solve | repeat first | assumption | exact Zr _ | refine Zq ?_ Zp)) Zj rfl (by rw [tyR_length]; omega) ?_; intro pp rr hx9 hp9; (rw [hget] at hx9); (obtain rfl := Option.some.inj hx9)) | (refine G.atSlc ?_; refine G.slicePre (b' := i) rfl rfl (tyy rfl) (tyy rfl) rfl rfl (by omega) ?_) | (show G _ (.ops .seq _ (⟨some _, .call { callee := .value (.func 26), args := _, argTypes := _ }, _, _, _, none⟩ :: _) :: _) _ _ _; refine G.call callAt13 rfl rfl (sat1 _ (hcut.mono (by solve | repeat first | assumption | exact Zr _ | refine Zq ?_ Zp))) Ze ?_; rintro _ h2 H2 ⟨rfl, rfl⟩ hle2) | (show G _ (.ops .seq _ (⟨some _, .call { callee := .value (.func 33), args := _, argTypes := _ }, _, _, _, none⟩ :: _) :: _) _ _ _; refine G.call callRType9 rfl rfl (ref09_Type t.1 (by omega) _) Ze ?_; rintro _ h4 H4 ⟨rfl, rfl⟩ hle4) | (refine G.atCode ?_; first | refine G.seq ?_ | refine G.region ?_ | refine G.block ?_ | refine G.skip ?_ | refine G.drawAuto mixedOk rfl Zw ?_ | refine G.ret ?_ | (refine G.cond rfl ?_ ?_ <;> intro hc <;> (try simp only [tests, reduceCtorEq] at hc) <;> (try exact Zf))) | refine G.endOps ?_ | refine G.endStill ?_ | (refine G.atBin ?_; first | refine G.op rfl rfl ?_) | refine G.op rfl rfl ?_ | (refine G.atLoad ?_; first | refine G.loadOwn1 rfl (tyy rfl) rfl rfl Za rfl rfl ?_ | refine G.loadImmA rfl (tyy rfl) rfl rfl Zp Zp rfl ?_) | (refine G.atFld ?_; first | refine G.fieldAddr rfl (tyy rfl) rfl rfl ?_) | (refine G.atSto ?_; refine G.storeOwn rfl rfl (tyy rfl) Za rfl rfl rfl rfl ?_) | (refine G.atAlc ?_; refine G.alloc (tyy rfl) rfl rfl ?_; intro _))
        all_goals first
          | (exfalso; omega)
          | exact G.done1 rfl rfl [] (SubH.nil _) ⟨congrArg (Value.int .i64) (hbad _ (by rw [hckT]; (repeat' split) <;> first | rfl | (exfalso; simp_all; done) | (exfalso; omega)) (by decide)).symm, rfl⟩
          | skip
      | none =>
        rw [hq, show ixV none = -1 from rfl] at sat1
        rw [hq] at hckT
        simp only [Option.isSome_none] at hckT
        repeat' (first | (refine G.atIdx ?_; refine G.idxImm rfl rfl (tyy rfl) (tyy rfl) (hvT.mono (by solve | repeat first | assumption | exact Zr _ | refine Zq ?_ Zp)) Zj rfl (by rw [tyR_length]; omega) ?_; intro pp rr hx9 hp9; (rw [hget] at hx9); (obtain rfl := Option.some.inj hx9)) | (refine G.atSlc ?_; refine G.slicePre (b' := i) rfl rfl (tyy rfl) (tyy rfl) rfl rfl (by omega) ?_) | (show G _ (.ops .seq _ (⟨some _, .call { callee := .value (.func 26), args := _, argTypes := _ }, _, _, _, none⟩ :: _) :: _) _ _ _; refine G.call callAt13 rfl rfl (sat1 _ (hcut.mono (by solve | repeat first | assumption | exact Zr _ | refine Zq ?_ Zp))) Ze ?_; rintro _ h2 H2 ⟨rfl, rfl⟩ hle2) | (show G _ (.ops .seq _ (⟨some _, .call { callee := .value (.func 33), args := _, argTypes := _ }, _, _, _, none⟩ :: _) :: _) _ _ _; refine G.call callRType9 rfl rfl (ref09_Type t.1 (by omega) _) Ze ?_; rintro _ h4 H4 ⟨rfl, rfl⟩ hle4) | (refine G.atCode ?_; first | refine G.seq ?_ | refine G.region ?_ | refine G.block ?_ | refine G.skip ?_ | refine G.drawAuto mixedOk rfl Zw ?_ | refine G.ret ?_ | (refine G.cond rfl ?_ ?_ <;> intro hc <;> (try simp only [tests, reduceCtorEq] at hc) <;> (try exact Zf))) | refine G.endOps ?_ | refine G.endStill ?_ | refine G.endBlk ?_ | (refine G.atGd ?_; first | refine G.guardYes rfl rfl ?_ | refine G.guardNoS rfl rfl rfl ?_ | (refine G.guardS rfl rfl rfl ?_ ?_ <;> intro hc <;> (try simp only [tests, reduceCtorEq] at hc) <;> (try exact Zf))) | (refine G.atBin ?_; first | (refine G.atAdd ?_; first | refine G.arith rfl rfl rfl rfl rfl Zi ?_) | refine G.op rfl rfl ?_) | refine G.op rfl rfl ?_ | (refine G.atLoad ?_; first | refine G.loadOwn1 rfl (tyy rfl) rfl rfl Za rfl rfl ?_ | refine G.loadImmA rfl (tyy rfl) rfl rfl Zp Zp rfl ?_) | (refine G.atFld ?_; first | refine G.fieldAddr rfl (tyy rfl) rfl rfl ?_) | (refine G.atSto ?_; refine G.storeOwn rfl rfl (tyy rfl) Za rfl rfl rfl rfl ?_) | (refine G.atAlc ?_; refine G.alloc (tyy rfl) rfl rfl ?_; intro _))
        all_goals first
          | (exfalso; omega)
          | exact G.done1 rfl rfl [] (SubH.nil _) ⟨congrArg (Value.int .i64) (hbad _ (by rw [hckT]; (repeat' split) <;> first | rfl | (exfalso; simp_all; done) | (exfalso; omega)) (by decide)).symm, rfl⟩
          | exact G.again (i + 1) ⟨sint (by simp), rfl, rfl, rfl, trivial⟩ Zu ⟨by omega, hgood (by rw [hckT]; (repeat' split) <;> first | rfl | (exfalso; simp_all; done) | (exfalso; omega))⟩ (by solve | repeat first | assumption | exact Zr _ | refine Zq ?_ Zp) (by omega)
          | skip
    . obtain rfl : i = T.length := by omega
      rw [goM_end] at hg
      repeat' (first | (refine G.atCode ?_; refine G.stopLoop ?_) | (refine G.atCode ?_; first | refine G.seq ?_ | refine G.region ?_ | refine G.block ?_ | refine G.exit rfl ?_ | (refine G.cond rfl ?_ ?_ <;> intro hc <;> (try simp only [tests, reduceCtorEq] at hc) <;> (try exact Zf))) | refine G.endOps ?_ | (refine G.atBin ?_; first | refine G.op rfl rfl ?_) | refine G.op rfl rfl ?_ | (refine G.atLen ?_; first | refine G.lenSlice rfl (tyy rfl) rfl ?_) | (refine G.atLoad ?_; first | refine G.loadOwn1 rfl (tyy rfl) rfl rfl Za rfl rfl ?_) | (refine G.atFld ?_; first | refine G.fieldAddr rfl (tyy rfl) rfl rfl ?_))
      all_goals (try (exfalso; omega))
      refine G.go ?_
      refine G.loop (σ := Nat) (fun i => [(53, .int .i64 i), (52, .int .i64 C.length), (51, .slice AC C.length cC), (1, .pointer (some ⟨gS, 0, none⟩))])
        (fun _ => [.blk gS [.slice AT T.length cT, .slice AC C.length cC] 25]) (fun i _ => i <= C.length /\ goM (clCk T) [] C = goM (clCk T) (C.take i) (C.drop i)) (fun i => C.length - i) 0 ⟨rfl, rfl, rfl, rfl, trivial⟩ Zu ⟨Nat.zero_le _, by simp⟩ ?_
      rintro i h5 hle5 ⟨hi, hgc⟩
      by_cases hlt : i < C.length
      . obtain ⟨c, hc⟩ : ∃ t, C[i]? = some t := ⟨C[i], List.getElem?_eq_getElem hlt⟩
        obtain ⟨vm, vy, hget, hm, hy⟩ := hrc.get hc
        obtain ⟨b1, b2, b3, b4, b5, b6⟩ := hB.cl c (List.mem_of_getElem? hc)
        obtain ⟨Am, cm, rfl, _⟩ := hm.form
        obtain ⟨Ay, cy, rfl, _⟩ := hy.form
        have hl5 : ([str c.1, str c.2.1, .int .i64 c.2.2.1, .slice Am (strsR c.2.2.2.1).length cm, .slice Ay (strsR c.2.2.2.2).length cy] : List Value).length = 5 := rfl
        have hcut := hvC.cut i (by rw [hrl]; omega)
        have hrct := hrc.take i
        have hbad := fun e he hne => chkS_cl (e := e) h0 hg hgc hc he hne
        have hgood : clCk T (C.take i) c = 0 -> goM (clCk T) [] C = goM (clCk T) (C.take (i + 1)) (C.drop (i + 1)) := fun e => by rw [hgc, goM_step hc, e, if_neg (by simp)]
        have sct := fun w (hw : w.length <= 100000000) => ref13_ClassAt (C.take i) (fun c hc => by have := (hB.cl c (List.mem_of_mem_take hc)).1; omega) (.slice AC i cC) (rc.take i) w hw
        have sct1 := sct c.1 (by omega)
        have sct2 := sct c.2.1 (by omega)
        clear sct
        repeat' (first | (refine G.atIdx ?_; refine G.idxImm rfl rfl (tyy rfl) (tyy rfl) (hvC.mono (by solve | repeat first | assumption | exact Zr _ | refine Zq ?_ Zp)) Zj rfl (by rw [hrl]; omega) ?_; intro pp rr hx9 hp9; (rw [hget] at hx9); (obtain rfl := Option.some.inj hx9)) | (refine G.atCode ?_; first | refine G.seq ?_ | refine G.region ?_ | refine G.block ?_ | refine G.skip ?_ | (refine G.cond rfl ?_ ?_ <;> intro hc <;> (try simp only [tests, reduceCtorEq] at hc) <;> (try exact Zf))) | refine G.endOps ?_ | (refine G.atBin ?_; first | refine G.op rfl rfl ?_) | refine G.op rfl rfl ?_ | (refine G.atLoad ?_; first | refine G.loadOwn1 rfl (tyy rfl) rfl rfl Za rfl rfl ?_ | refine G.loadImmA rfl (tyy rfl) rfl rfl Zp Zp rfl ?_) | (refine G.atFld ?_; first | refine G.fieldAddr rfl (tyy rfl) rfl rfl ?_) | (refine G.atSto ?_; refine G.storeOwn rfl rfl (tyy rfl) Za rfl rfl rfl rfl ?_) | (refine G.atAlc ?_; refine G.alloc (tyy rfl) rfl rfl ?_; intro _))
        all_goals (try (exfalso; omega))
        cases h1 : ixC (C.take i) c.1 with
        | some j1 =>
          rw [h1, ixV_some] at sct1
          have hckE := clCk_eq T (C.take i) c
          rw [h1] at hckE
          simp only [Option.isSome_some] at hckE
          repeat' (first | (show G _ (.ops .seq _ (⟨some _, .call { callee := .value (.func 33), args := _, argTypes := _ }, _, _, _, none⟩ :: _) :: _) _ _ _; refine G.call callRType9 rfl rfl (ref09_Type c.1 (by omega) _) Ze ?_; rintro _ h4 H4 ⟨rfl, rfl⟩ hle4) | (refine G.atSlc ?_; refine G.slicePre (b' := i) rfl rfl (tyy rfl) (tyy rfl) rfl rfl (by omega) ?_) | (show G _ (.ops .seq _ (⟨some _, .call { callee := .value (.func 27), args := _, argTypes := _ }, _, _, _, none⟩ :: _) :: _) _ _ _; refine G.call callClassAt rfl rfl (sct1 _ (hcut.mono (by solve | repeat first | assumption | exact Zr _ | refine Zq ?_ Zp)) (hrct.mono (by solve | repeat first | assumption | exact Zr _ | refine Zq ?_ Zp))) Ze ?_; rintro _ h5 H5 ⟨rfl, rfl⟩ hle5) | (refine G.atCode ?_; first | refine G.seq ?_ | refine G.region ?_ | refine G.skip ?_ | refine G.drawAuto mixedOk rfl Zw ?_ | refine G.ret ?_ | (refine G.cond rfl ?_ ?_ <;> intro hc <;> (try simp only [tests, reduceCtorEq] at hc) <;> (try exact Zf))) | refine G.endOps ?_ | refine G.endStill ?_ | (refine G.atBin ?_; first | refine G.op rfl rfl ?_) | refine G.op rfl rfl ?_ | (refine G.atLoad ?_; first | refine G.loadOwn1 rfl (tyy rfl) rfl rfl Za rfl rfl ?_) | (refine G.atFld ?_; first | refine G.fieldAddr rfl (tyy rfl) rfl rfl ?_))
          all_goals first | (exfalso; omega) | exact G.done1 rfl rfl [] (SubH.nil _) ⟨congrArg (Value.int .i64) (hbad _ (by rw [hckE]; (repeat' split) <;> first | rfl | (exfalso; simp_all; done) | (exfalso; omega) | (exfalso; simp_all; omega)) (by decide)).symm, rfl⟩ | skip
        | none =>
          rw [h1, show ixV none = -1 from rfl] at sct1
          cases h2 : ixC (C.take i) c.2.1 with
          | some j2 =>
            rw [h2, ixV_some] at sct2
            obtain ⟨c2, hc2', _, _⟩ := ixM_some h2
            have hji : j2 < i := by
              have := (List.getElem?_eq_some_iff.1 hc2').1
              rw [List.length_take] at this; omega
            have hc2 : C[j2]? = some c2 := by rw [List.getElem?_take_of_lt hji] at hc2'; exact hc2'
            have hgt2 : gtC (C.take i) c.2.1 = c2 := gtC_of h2 hc2'
            obtain ⟨vm2, vy2, hget2, _, _⟩ := hrc.get hc2
            have hckE := clCk_eq T (C.take i) c
            rw [h1, h2, hgt2] at hckE
            simp only [Option.isSome_none, Option.isSome_some] at hckE
            repeat' (first | (show G _ (.ops .seq _ (⟨some _, .call { callee := .value (.func 33), args := _, argTypes := _ }, _, _, _, none⟩ :: _) :: _) _ _ _; refine G.call callRType9 rfl rfl (ref09_Type c.1 (by omega) _) Ze ?_; rintro _ h4 H4 ⟨rfl, rfl⟩ hle4) | (refine G.atSlc ?_; refine G.slicePre (b' := i) rfl rfl (tyy rfl) (tyy rfl) rfl rfl (by omega) ?_) | (show G _ (.ops .seq _ (⟨some _, .call { callee := .value (.func 27), args := _, argTypes := _ }, _, _, _, none⟩ :: _) :: _) _ _ _; refine G.call callClassAt rfl rfl (sct1 _ (hcut.mono (by solve | repeat first | assumption | exact Zr _ | refine Zq ?_ Zp)) (hrct.mono (by solve | repeat first | assumption | exact Zr _ | refine Zq ?_ Zp))) Ze ?_; rintro _ h5 H5 ⟨rfl, rfl⟩ hle5) | (show G _ (.ops .seq _ (⟨some _, .call { callee := .value (.func 27), args := _, argTypes := _ }, _, _, _, none⟩ :: _) :: _) _ _ _; refine G.call callClassAt rfl rfl (sct2 _ (hcut.mono (by solve | repeat first | assumption | exact Zr _ | refine Zq ?_ Zp)) (hrct.mono (by solve | repeat first | assumption | exact Zr _ | refine Zq ?_ Zp))) Ze ?_; rintro _ h6 H6 ⟨rfl, rfl⟩ hle6) | (refine G.atIdx ?_; refine G.idxImm rfl rfl (tyy rfl) (tyy rfl) (hvC.mono (by solve | repeat first | assumption | exact Zr _ | refine Zq ?_ Zp)) Zj rfl (by rw [hrl]; omega) ?_; intro pp rr hx9 hp9; (rw [hget2] at hx9); (obtain rfl := Option.some.inj hx9)) | (refine G.atLoad ?_; refine G.loadImmAt1 rfl (tyy rfl) rfl rfl Zp rfl rfl ?_) | (refine G.atApp ?_; refine G.blkNil 1 Take.hd ?_; refine G.appendImmS (l := []) (l' := c.2.2.2.1) rfl rfl (tyy rfl) (tyy rfl) rfl rfl Take.hd (hm.mono (by solve | repeat first | assumption | exact Zr _ | refine Zq ?_ Zp)) rfl (by simp only [List.length_nil]; omega) ?_; intro v9; refine G.rowForm Take.hd ?_; rintro A9 c9 rfl) | (refine G.atApp ?_; refine G.appendImmS (l := [] ++ c.2.2.2.1) (l' := c.2.2.2.2) rfl rfl (tyy rfl) (tyy rfl) rfl rfl Za (hy.mono (by solve | repeat first | assumption | exact Zr _ | refine Zq ?_ Zp)) rfl (by simp only [List.nil_append]; omega) ?_; intro v8; refine G.rowForm Take.hd ?_; rintro An cn rfl) | (refine G.atCode ?_; refine G.stopLoop ?_) | (refine G.atCode ?_; first | refine G.seq ?_ | refine G.region ?_ | refine G.block ?_ | refine G.skip ?_ | refine G.drawAuto mixedOk rfl Zw ?_ | refine G.drawAll slB Zw mixedOk Zw ?_ | refine G.anyIn mixedOk ?_ | refine G.ret ?_ | (refine G.cond rfl ?_ ?_ <;> intro hc <;> (try simp only [tests, reduceCtorEq] at hc) <;> (try exact Zf))) | refine G.endOps ?_ | refine G.endStill ?_ | refine G.endHeld ?_ | refine G.back ?_ | (refine G.atAny ?_; first | refine G.anyAutoX slB rfl rfl Zw Zg Zd ?_ | refine G.anyOne rfl Zw Zg Zu ?_ | refine G.anyEnd Zw Zg Zu ?_) | (refine G.atGd ?_; first | refine G.guardYes rfl rfl ?_ | refine G.guardNoS rfl rfl rfl ?_ | refine G.guardU rfl rfl rfl ?_ | (refine G.guardS rfl rfl rfl ?_ ?_ <;> intro hc <;> (try simp only [tests, reduceCtorEq] at hc) <;> (try exact Zf))) | (refine G.atBin ?_; first | (refine G.atEql ?_; first | refine G.eqStr0 rfl rfl rfl ?_) | (refine G.atNeq ?_; first | refine G.op rfl rfl ?_ | refine G.neStr0 rfl rfl rfl ?_) | refine G.op rfl rfl ?_) | refine G.op rfl rfl ?_ | (refine G.atLen ?_; first | refine G.lenSlice rfl (tyy rfl) rfl ?_) | (refine G.atLoad ?_; first | refine G.loadOwn1 rfl (tyy rfl) rfl rfl Za rfl rfl ?_) | (refine G.atFld ?_; first | refine G.fieldAddr rfl (tyy rfl) rfl rfl ?_ | refine G.fieldAddrP rfl (tyy rfl) rfl rfl ?_) | (refine G.atBsl ?_; refine G.buildSlice (tyy rfl) (tyy rfl) rfl rfl rfl rfl ?_; intro _))
            all_goals first | (exfalso; omega) | exact G.done1 rfl rfl [] (SubH.nil _) ⟨congrArg (Value.int .i64) (hbad _ (by rw [hckE]; (repeat' split) <;> first | rfl | (exfalso; simp_all; done) | (exfalso; omega) | (exfalso; simp_all; omega)) (by decide)).symm, rfl⟩ | skip
            all_goals
              have hckL : clCk T (C.take i) c = if (c.2.2.2.1 ++ c.2.2.2.2).all (fun n => (ixT T n).isSome) = false then 22 else 0 := by
                clear sat sct1 sct2
                rw [hckE]; (repeat' split) <;> first | rfl | (exfalso; omega) | (exfalso; simp_all; done) | (exfalso; simp_all; omega)
              clear hckE
              rw [strsR_length]
              have hLn : ∀ n ∈ [] ++ c.2.2.2.1 ++ c.2.2.2.2, n.length <= 100000000 := fun n hn => by
                rw [List.nil_append] at hn
                rcases List.mem_append.1 hn with hn | hn
                . have := b5 n hn; omega
                . have := b6 n hn; omega
              rw [show [] ++ c.2.2.2.1 ++ c.2.2.2.2 = c.2.2.2.1 ++ c.2.2.2.2 from rfl] at *
              generalize hLe : c.2.2.2.1 ++ c.2.2.2.2 = L at *
              refine G.freezeRow Take.hd ?_
              intro hF hleF hL
              refine G.go ?_
              refine G.loop (σ := Nat) (fun k => [(133, .int .i64 k), (132, .int .i64 L.length), (131, .slice An L.length cn), (53, .int .i64 i), (52, .int .i64 C.length), (51, .slice AC C.length cC), (1, .pointer (some ⟨gS, 0, none⟩))])
                (fun _ => [.blk gS [.slice AT T.length cT, .slice AC C.length cC] 25]) (fun k _ => k <= L.length /\ (L.take k).all (fun n => (ixT T n).isSome) = true) (fun k => L.length - k) 0 ⟨rfl, rfl, rfl, rfl, rfl, rfl, rfl, trivial⟩ Zu ⟨Nat.zero_le _, by simp⟩ ?_
              rintro k h8 hle8 ⟨hk, hall⟩
              by_cases hkt : k < L.length
              . obtain ⟨x, hx⟩ : ∃ t, L[k]? = some t := ⟨L[k], List.getElem?_eq_getElem hkt⟩
                have hgetx : (strsR L)[k]? = some [str x] := by simp [strsR, hx]
                have sax := sat x (hLn x (List.mem_of_getElem? hx))
                have hLl : L.length <= 20000000 := by rw [<- hLe, List.length_append]; omega
                cases hq : ixT T x with
                | some q =>
                  rw [hq, ixV_some] at sax
                  repeat' (first | (refine G.atIdx ?_; refine G.idxImm rfl rfl (tyy rfl) (tyy rfl) (hL.mono (by solve | repeat first | assumption | exact Zr _ | refine Zq ?_ Zp)) Zj rfl (by rw [strsR_length]; omega) ?_; intro pp rr hx9 hp9; (rw [hgetx] at hx9); (obtain rfl := Option.some.inj hx9)) | (show G _ (.ops .seq _ (⟨some _, .call { callee := .value (.func 26), args := _, argTypes := _ }, _, _, _, none⟩ :: _) :: _) _ _ _; refine G.call callAt13 rfl rfl (sax _ (hvT.mono (by solve | repeat first | assumption | exact Zr _ | refine Zq ?_ Zp))) Ze ?_; rintro _ h9 H9 ⟨rfl, rfl⟩ hle9) | (refine G.atCode ?_; first | refine G.seq ?_ | refine G.region ?_ | refine G.block ?_ | refine G.skip ?_ | (refine G.cond rfl ?_ ?_ <;> intro hc <;> (try simp only [tests, reduceCtorEq] at hc) <;> (try exact Zf))) | refine G.endOps ?_ | refine G.endBlk ?_ | (refine G.atBin ?_; first | (refine G.atAdd ?_; first | refine G.arith rfl rfl rfl rfl rfl Zi ?_) | refine G.op rfl rfl ?_) | refine G.op rfl rfl ?_ | (refine G.atLoad ?_; first | refine G.loadOwn1 rfl (tyy rfl) rfl rfl Za rfl rfl ?_ | refine G.loadImm1 rfl (tyy rfl) rfl rfl Zp rfl ?_) | (refine G.atFld ?_; first | refine G.fieldAddr rfl (tyy rfl) rfl rfl ?_))
                  all_goals first | (exfalso; omega) | exact G.again (k + 1) ⟨sint (by simp), rfl, rfl, rfl, rfl, rfl, rfl, trivial⟩ Zu ⟨by omega, by rw [take_get hx, List.all_append, hall]; simp [hq]⟩ (by solve | repeat first | assumption | exact Zr _ | refine Zq ?_ Zp) (by omega) | skip
                | none =>
                  have hno : L.all (fun n => (ixT T n).isSome) = false := by
                    rw [Bool.eq_false_iff]
                    intro hh
                    have := List.all_eq_true.1 hh x (List.mem_of_getElem? hx)
                    rw [hq] at this; cases this
                  rw [hq, show ixV none = -1 from rfl] at sax
                  repeat' (first | (refine G.atIdx ?_; refine G.idxImm rfl rfl (tyy rfl) (tyy rfl) (hL.mono (by solve | repeat first | assumption | exact Zr _ | refine Zq ?_ Zp)) Zj rfl (by rw [strsR_length]; omega) ?_; intro pp rr hx9 hp9; (rw [hgetx] at hx9); (obtain rfl := Option.some.inj hx9)) | (show G _ (.ops .seq _ (⟨some _, .call { callee := .value (.func 26), args := _, argTypes := _ }, _, _, _, none⟩ :: _) :: _) _ _ _; refine G.call callAt13 rfl rfl (sax _ (hvT.mono (by solve | repeat first | assumption | exact Zr _ | refine Zq ?_ Zp))) Ze ?_; rintro _ h9 H9 ⟨rfl, rfl⟩ hle9) | (refine G.atCode ?_; first | refine G.seq ?_ | refine G.region ?_ | refine G.block ?_ | refine G.skip ?_ | refine G.ret ?_ | (refine G.cond rfl ?_ ?_ <;> intro hc <;> (try simp only [tests, reduceCtorEq] at hc) <;> (try exact Zf))) | refine G.endOps ?_ | (refine G.atBin ?_; first | refine G.op rfl rfl ?_) | refine G.op rfl rfl ?_ | (refine G.atLoad ?_; first | refine G.loadOwn1 rfl (tyy rfl) rfl rfl Za rfl rfl ?_ | refine G.loadImm1 rfl (tyy rfl) rfl rfl Zp rfl ?_) | (refine G.atFld ?_; first | refine G.fieldAddr rfl (tyy rfl) rfl rfl ?_))
                  all_goals first | (exfalso; omega) | exact G.done1 rfl rfl [] (SubH.nil _) ⟨congrArg (Value.int .i64) (hbad _ (by rw [hckL, hno]; rfl) (by decide)).symm, rfl⟩ | skip
              . obtain rfl : k = L.length := by omega
                rw [List.take_length] at hall
                repeat' (first | (refine G.atCode ?_; first | refine G.seq ?_ | refine G.region ?_ | refine G.exit rfl ?_ | (refine G.cond rfl ?_ ?_ <;> intro hc <;> (try simp only [tests, reduceCtorEq] at hc) <;> (try exact Zf))) | refine G.endOps ?_ | refine G.endBlk ?_ | (refine G.atBin ?_; first | (refine G.atAdd ?_; first | refine G.arith rfl rfl rfl rfl rfl Zi ?_) | refine G.op rfl rfl ?_) | refine G.op rfl rfl ?_)
                all_goals first | (exfalso; omega) | exact G.again (i + 1) ⟨sint (by simp), rfl, rfl, rfl, trivial⟩ Zu ⟨by omega, hgood (by rw [hckL, hall]; rfl)⟩ (by solve | repeat first | assumption | exact Zr _ | refine Zq ?_ Zp) (by omega) | skip
          | none =>
            rw [h2, show ixV none = -1 from rfl] at sct2
            have hckE := clCk_eq T (C.take i) c
            rw [h1, h2] at hckE
            generalize gtC (C.take i) c.2.1 = c2 at *
            simp only [Option.isSome_none, Option.isSome_some] at hckE
            repeat' (first | (show G _ (.ops .seq _ (⟨some _, .call { callee := .value (.func 33), args := _, argTypes := _ }, _, _, _, none⟩ :: _) :: _) _ _ _; refine G.call callRType9 rfl rfl (ref09_Type c.1 (by omega) _) Ze ?_; rintro _ h4 H4 ⟨rfl, rfl⟩ hle4) | (refine G.atSlc ?_; refine G.slicePre (b' := i) rfl rfl (tyy rfl) (tyy rfl) rfl rfl (by omega) ?_) | (show G _ (.ops .seq _ (⟨some _, .call { callee := .value (.func 27), args := _, argTypes := _ }, _, _, _, none⟩ :: _) :: _) _ _ _; refine G.call callClassAt rfl rfl (sct1 _ (hcut.mono (by solve | repeat first | assumption | exact Zr _ | refine Zq ?_ Zp)) (hrct.mono (by solve | repeat first | assumption | exact Zr _ | refine Zq ?_ Zp))) Ze ?_; rintro _ h5 H5 ⟨rfl, rfl⟩ hle5) | (show G _ (.ops .seq _ (⟨some _, .call { callee := .value (.func 27), args := _, argTypes := _ }, _, _, _, none⟩ :: _) :: _) _ _ _; refine G.call callClassAt rfl rfl (sct2 _ (hcut.mono (by solve | repeat first | assumption | exact Zr _ | refine Zq ?_ Zp)) (hrct.mono (by solve | repeat first | assumption | exact Zr _ | refine Zq ?_ Zp))) Ze ?_; rintro _ h6 H6 ⟨rfl, rfl⟩ hle6) | (refine G.atApp ?_; refine G.blkNil 1 Take.hd ?_; refine G.appendImmS (l := []) (l' := c.2.2.2.1) rfl rfl (tyy rfl) (tyy rfl) rfl rfl Take.hd (hm.mono (by solve | repeat first | assumption | exact Zr _ | refine Zq ?_ Zp)) rfl (by simp only [List.length_nil]; omega) ?_; intro v9; refine G.rowForm Take.hd ?_; rintro A9 c9 rfl) | (refine G.atApp ?_; refine G.appendImmS (l := [] ++ c.2.2.2.1) (l' := c.2.2.2.2) rfl rfl (tyy rfl) (tyy rfl) rfl rfl Za (hy.mono (by solve | repeat first | assumption | exact Zr _ | refine Zq ?_ Zp)) rfl (by simp only [List.nil_append]; omega) ?_; intro v8; refine G.rowForm Take.hd ?_; rintro An cn rfl) | (refine G.atCode ?_; refine G.stopLoop ?_) | (refine G.atCode ?_; first | refine G.seq ?_ | refine G.region ?_ | refine G.block ?_ | refine G.skip ?_ | refine G.drawAuto mixedOk rfl Zw ?_ | refine G.drawAll slB Zw mixedOk Zw ?_ | refine G.anyIn mixedOk ?_ | refine G.ret ?_ | (refine G.cond rfl ?_ ?_ <;> intro hc <;> (try simp only [tests, reduceCtorEq] at hc) <;> (try exact Zf))) | refine G.endOps ?_ | refine G.endStill ?_ | refine G.endHeld ?_ | refine G.back ?_ | (refine G.atAny ?_; first | refine G.anyAutoX slB rfl rfl Zw Zg Zd ?_ | refine G.anyOne rfl Zw Zg Zu ?_ | refine G.anyEnd Zw Zg Zu ?_) | (refine G.atGd ?_; first | refine G.guardYes rfl rfl ?_ | refine G.guardNoS rfl rfl rfl ?_ | refine G.guardU rfl rfl rfl ?_ | (refine G.guardS rfl rfl rfl ?_ ?_ <;> intro hc <;> (try simp only [tests, reduceCtorEq] at hc) <;> (try exact Zf))) | (refine G.atBin ?_; first | (refine G.atEql ?_; first | refine G.eqStr0 rfl rfl rfl ?_) | (refine G.atNeq ?_; first | refine G.op rfl rfl ?_ | refine G.neStr0 rfl rfl rfl ?_) | refine G.op rfl rfl ?_) | refine G.op rfl rfl ?_ | (refine G.atLen ?_; first | refine G.lenSlice rfl (tyy rfl) rfl ?_) | (refine G.atLoad ?_; first | refine G.loadOwn1 rfl (tyy rfl) rfl rfl Za rfl rfl ?_) | (refine G.atFld ?_; first | refine G.fieldAddr rfl (tyy rfl) rfl rfl ?_) | (refine G.atBsl ?_; refine G.buildSlice (tyy rfl) (tyy rfl) rfl rfl rfl rfl ?_; intro _))
            all_goals first | (exfalso; omega) | exact G.done1 rfl rfl [] (SubH.nil _) ⟨congrArg (Value.int .i64) (hbad _ (by rw [hckE]; (repeat' split) <;> first | rfl | (exfalso; simp_all; done) | (exfalso; omega) | (exfalso; simp_all; omega)) (by decide)).symm, rfl⟩ | skip
            all_goals
              have hckL : clCk T (C.take i) c = if (c.2.2.2.1 ++ c.2.2.2.2).all (fun n => (ixT T n).isSome) = false then 22 else 0 := by
                clear sat sct1 sct2
                rw [hckE]; (repeat' split) <;> first | rfl | (exfalso; omega) | (exfalso; simp_all; done) | (exfalso; simp_all; omega)
              clear hckE
              rw [strsR_length]
              have hLn : ∀ n ∈ [] ++ c.2.2.2.1 ++ c.2.2.2.2, n.length <= 100000000 := fun n hn => by
                rw [List.nil_append] at hn
                rcases List.mem_append.1 hn with hn | hn
                . have := b5 n hn; omega
                . have := b6 n hn; omega
              rw [show [] ++ c.2.2.2.1 ++ c.2.2.2.2 = c.2.2.2.1 ++ c.2.2.2.2 from rfl] at *
              generalize hLe : c.2.2.2.1 ++ c.2.2.2.2 = L at *
              refine G.freezeRow Take.hd ?_
              intro hF hleF hL
              refine G.go ?_
              refine G.loop (σ := Nat) (fun k => [(133, .int .i64 k), (132, .int .i64 L.length), (131, .slice An L.length cn), (53, .int .i64 i), (52, .int .i64 C.length), (51, .slice AC C.length cC), (1, .pointer (some ⟨gS, 0, none⟩))])
                (fun _ => [.blk gS [.slice AT T.length cT, .slice AC C.length cC] 25]) (fun k _ => k <= L.length /\ (L.take k).all (fun n => (ixT T n).isSome) = true) (fun k => L.length - k) 0 ⟨rfl, rfl, rfl, rfl, rfl, rfl, rfl, trivial⟩ Zu ⟨Nat.zero_le _, by simp⟩ ?_
              rintro k h8 hle8 ⟨hk, hall⟩
              by_cases hkt : k < L.length
              . obtain ⟨x, hx⟩ : ∃ t, L[k]? = some t := ⟨L[k], List.getElem?_eq_getElem hkt⟩
                have hgetx : (strsR L)[k]? = some [str x] := by simp [strsR, hx]
                have sax := sat x (hLn x (List.mem_of_getElem? hx))
                have hLl : L.length <= 20000000 := by rw [<- hLe, List.length_append]; omega
                cases hq : ixT T x with
                | some q =>
                  rw [hq, ixV_some] at sax
                  repeat' (first | (refine G.atIdx ?_; refine G.idxImm rfl rfl (tyy rfl) (tyy rfl) (hL.mono (by solve | repeat first | assumption | exact Zr _ | refine Zq ?_ Zp)) Zj rfl (by rw [strsR_length]; omega) ?_; intro pp rr hx9 hp9; (rw [hgetx] at hx9); (obtain rfl := Option.some.inj hx9)) | (show G _ (.ops .seq _ (⟨some _, .call { callee := .value (.func 26), args := _, argTypes := _ }, _, _, _, none⟩ :: _) :: _) _ _ _; refine G.call callAt13 rfl rfl (sax _ (hvT.mono (by solve | repeat first | assumption | exact Zr _ | refine Zq ?_ Zp))) Ze ?_; rintro _ h9 H9 ⟨rfl, rfl⟩ hle9) | (refine G.atCode ?_; first | refine G.seq ?_ | refine G.region ?_ | refine G.block ?_ | refine G.skip ?_ | (refine G.cond rfl ?_ ?_ <;> intro hc <;> (try simp only [tests, reduceCtorEq] at hc) <;> (try exact Zf))) | refine G.endOps ?_ | refine G.endBlk ?_ | (refine G.atBin ?_; first | (refine G.atAdd ?_; first | refine G.arith rfl rfl rfl rfl rfl Zi ?_) | refine G.op rfl rfl ?_) | refine G.op rfl rfl ?_ | (refine G.atLoad ?_; first | refine G.loadOwn1 rfl (tyy rfl) rfl rfl Za rfl rfl ?_ | refine G.loadImm1 rfl (tyy rfl) rfl rfl Zp rfl ?_) | (refine G.atFld ?_; first | refine G.fieldAddr rfl (tyy rfl) rfl rfl ?_))
                  all_goals first | (exfalso; omega) | exact G.again (k + 1) ⟨sint (by simp), rfl, rfl, rfl, rfl, rfl, rfl, trivial⟩ Zu ⟨by omega, by rw [take_get hx, List.all_append, hall]; simp [hq]⟩ (by solve | repeat first | assumption | exact Zr _ | refine Zq ?_ Zp) (by omega) | skip
                | none =>
                  have hno : L.all (fun n => (ixT T n).isSome) = false := by
                    rw [Bool.eq_false_iff]
                    intro hh
                    have := List.all_eq_true.1 hh x (List.mem_of_getElem? hx)
                    rw [hq] at this; cases this
                  rw [hq, show ixV none = -1 from rfl] at sax
                  repeat' (first | (refine G.atIdx ?_; refine G.idxImm rfl rfl (tyy rfl) (tyy rfl) (hL.mono (by solve | repeat first | assumption | exact Zr _ | refine Zq ?_ Zp)) Zj rfl (by rw [strsR_length]; omega) ?_; intro pp rr hx9 hp9; (rw [hgetx] at hx9); (obtain rfl := Option.some.inj hx9)) | (show G _ (.ops .seq _ (⟨some _, .call { callee := .value (.func 26), args := _, argTypes := _ }, _, _, _, none⟩ :: _) :: _) _ _ _; refine G.call callAt13 rfl rfl (sax _ (hvT.mono (by solve | repeat first | assumption | exact Zr _ | refine Zq ?_ Zp))) Ze ?_; rintro _ h9 H9 ⟨rfl, rfl⟩ hle9) | (refine G.atCode ?_; first | refine G.seq ?_ | refine G.region ?_ | refine G.block ?_ | refine G.skip ?_ | refine G.ret ?_ | (refine G.cond rfl ?_ ?_ <;> intro hc <;> (try simp only [tests, reduceCtorEq] at hc) <;> (try exact Zf))) | refine G.endOps ?_ | (refine G.atBin ?_; first | refine G.op rfl rfl ?_) | refine G.op rfl rfl ?_ | (refine G.atLoad ?_; first | refine G.loadOwn1 rfl (tyy rfl) rfl rfl Za rfl rfl ?_ | refine G.loadImm1 rfl (tyy rfl) rfl rfl Zp rfl ?_) | (refine G.atFld ?_; first | refine G.fieldAddr rfl (tyy rfl) rfl rfl ?_))
                  all_goals first | (exfalso; omega) | exact G.done1 rfl rfl [] (SubH.nil _) ⟨congrArg (Value.int .i64) (hbad _ (by rw [hckL, hno]; rfl) (by decide)).symm, rfl⟩ | skip
              . obtain rfl : k = L.length := by omega
                rw [List.take_length] at hall
                repeat' (first | (refine G.atCode ?_; first | refine G.seq ?_ | refine G.region ?_ | refine G.exit rfl ?_ | (refine G.cond rfl ?_ ?_ <;> intro hc <;> (try simp only [tests, reduceCtorEq] at hc) <;> (try exact Zf))) | refine G.endOps ?_ | refine G.endBlk ?_ | (refine G.atBin ?_; first | (refine G.atAdd ?_; first | refine G.arith rfl rfl rfl rfl rfl Zi ?_) | refine G.op rfl rfl ?_) | refine G.op rfl rfl ?_)
                all_goals first | (exfalso; omega) | exact G.again (i + 1) ⟨sint (by simp), rfl, rfl, rfl, trivial⟩ Zu ⟨by omega, hgood (by rw [hckL, hall]; rfl)⟩ (by solve | repeat first | assumption | exact Zr _ | refine Zq ?_ Zp) (by omega) | skip
      . obtain rfl : i = C.length := by omega
        rw [goM_end] at hgc
        rw [chkS_end h0 hg hgc]
        have sk := sat objL (by decide)
        rw [objL_ix] at sk
        unfold endCk
        cases hq : ixT T objC with
        | none =>
          rw [hq, show ixV none = -1 from rfl] at sk
          simp only [Option.isSome_none, if_true]
          repeat' (first | (show G _ (.ops .seq _ (⟨some _, .call { callee := .value (.func 26), args := _, argTypes := _ }, _, _, _, none⟩ :: _) :: _) _ _ _; refine G.call callAt13 rfl rfl (sk _ (hvT.mono (by solve | repeat first | assumption | exact Zr _ | refine Zq ?_ Zp))) Ze ?_; rintro _ h2 H2 ⟨rfl, rfl⟩ hle2) | (refine G.atCode ?_; first | refine G.seq ?_ | refine G.region ?_ | refine G.exit rfl ?_ | refine G.ret ?_ | (refine G.cond rfl ?_ ?_ <;> intro hc <;> (try simp only [tests, reduceCtorEq] at hc) <;> (try exact Zf))) | refine G.endOps ?_ | (refine G.atBin ?_; first | refine G.op rfl rfl ?_) | refine G.op rfl rfl ?_ | (refine G.atLoad ?_; first | refine G.loadOwn1 rfl (tyy rfl) rfl rfl Za rfl rfl ?_) | (refine G.atFld ?_; first | refine G.fieldAddr rfl (tyy rfl) rfl rfl ?_))
          all_goals first | (exfalso; omega) | exact G.done1 rfl rfl [] (SubH.nil _) ⟨rfl, rfl⟩ | skip
        | some q =>
          rw [hq, ixV_some] at sk
          obtain ⟨tt, htt, _, _⟩ := ixM_some hq
          have hgq : gtT T objC = tt := by unfold gtT; rw [hq]; exact getD_of htt
          rw [hgq]
          have hgett := tyR_get htt
          have hql := (List.getElem?_eq_some_iff.1 htt).1
          simp only [Option.isSome_some, Bool.true_eq_false, if_false]
          repeat' (first | (show G _ (.ops .seq _ (⟨some _, .call { callee := .value (.func 26), args := _, argTypes := _ }, _, _, _, none⟩ :: _) :: _) _ _ _; refine G.call callAt13 rfl rfl (sk _ (hvT.mono (by solve | repeat first | assumption | exact Zr _ | refine Zq ?_ Zp))) Ze ?_; rintro _ h2 H2 ⟨rfl, rfl⟩ hle2) | (refine G.atIdx ?_; refine G.idxImm rfl rfl (tyy rfl) (tyy rfl) (hvT.mono (by solve | repeat first | assumption | exact Zr _ | refine Zq ?_ Zp)) Zj rfl (by rw [tyR_length]; omega) ?_; intro pp rr hx9 hp9; (rw [hgett] at hx9); (obtain rfl := Option.some.inj hx9)) | (refine G.atLoad ?_; refine G.loadImmAt1 rfl (tyy rfl) rfl rfl Zp rfl rfl ?_) | (refine G.atCode ?_; first | refine G.seq ?_ | refine G.region ?_ | refine G.skip ?_ | refine G.exit rfl ?_ | refine G.ret ?_ | (refine G.cond rfl ?_ ?_ <;> intro hc <;> (try simp only [tests, reduceCtorEq] at hc) <;> (try exact Zf))) | refine G.endOps ?_ | (refine G.atGd ?_; first | refine G.guardYes rfl rfl ?_ | refine G.guardNoS rfl rfl rfl ?_ | (refine G.guardS rfl rfl rfl ?_ ?_ <;> intro hc <;> (try simp only [tests, reduceCtorEq] at hc) <;> (try exact Zf))) | (refine G.atBin ?_; first | (refine G.atNeq ?_; first | refine G.op rfl rfl ?_) | refine G.op rfl rfl ?_) | refine G.op rfl rfl ?_ | (refine G.atLoad ?_; first | refine G.loadOwn1 rfl (tyy rfl) rfl rfl Za rfl rfl ?_) | (refine G.atFld ?_; first | refine G.fieldAddr rfl (tyy rfl) rfl rfl ?_ | refine G.fieldAddrP rfl (tyy rfl) rfl rfl ?_))
          all_goals first
            | (exfalso; omega)
            | exact G.done1 rfl rfl [] (SubH.nil _) ⟨congrArg (Value.int .i64) (by clear sk sat; (repeat' split) <;> first | rfl | (exfalso; simp_all; done) | (exfalso; omega) | (exfalso; simp_all; omega)), rfl⟩
            | skip
end Go.Proofs.Ytfmekdmpghhegaa
