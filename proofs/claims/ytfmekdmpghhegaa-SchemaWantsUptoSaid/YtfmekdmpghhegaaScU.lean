/- castellanlaw13.Small; the laws SchemaChecks, SchemaChains. -/
import Derived.Test.YtfmekdmpghhegaaScR
import Derived.Test.YtfmekdmpghhegaaScT
namespace Go.Proofs.Ytfmekdmpghhegaa
set_option linter.all false
set_option maxRecDepth 4000
open Go.RowKit

theorem callSmall13 : Callable Try.prog 12 := ⟨_, Try.func12, by kernel_rfl, rfl⟩
set_option maxHeartbeats 2000000 in
theorem law13_Small (T : List Ty4) (C : List Cls) (vT vC : Value) (rc : List (List Value)) (hB : ScB T C) (h : Heap) (hvT : HSl h vT 4 (tyR T)) (hvC : HSl h vC 5 rc) (hrc : ClsC h C rc) :
    Spec Try.prog 12 [.agg #[vT, vC]] h [] (fun u _ H' => (∃ b, u = .bool b /\ (b = true -> chkS T C = 0)) /\ H' = []) := by
  have hrl := hrc.len
  have hbt := hB.tn
  have hbc := hB.cn
  have sck := ref13_Check T C vT vC rc hB
  obtain ⟨AT, cT, rfl, hcT, hmT, _⟩ := hvT.form
  obtain ⟨AC, cC, rfl, hcC, hmC, _⟩ := hvC.form
  simp only [tyR_length, hrl] at *
  generalize chkS T C = e at *
  refine Spec.enter Try.func12 rfl rfl ?_; intro w0
  repeat' (first | (show G _ (.ops .seq _ (⟨some _, .call { callee := .value (.func 11), args := _, argTypes := _ }, _, _, _, none⟩ :: _) :: _) _ _ _; refine G.call callCheckR rfl rfl (sck _ (hvT.mono (by solve | repeat first | assumption | exact Zr _ | refine Zq ?_ Zp)) (hvC.mono (by solve | repeat first | assumption | exact Zr _ | refine Zq ?_ Zp)) (hrc.mono (by solve | repeat first | assumption | exact Zr _ | refine Zq ?_ Zp))) Ze ?_; rintro _ h2 H2 ⟨rfl, rfl⟩ hle2) | (refine G.atCode ?_; first | refine G.seq ?_ | refine G.region ?_ | refine G.ret ?_) | refine G.endOps ?_ | (refine G.atGd ?_; first | refine G.guardYes rfl rfl ?_ | refine G.guardNoS rfl rfl rfl ?_ | (refine G.guardS rfl rfl rfl ?_ ?_ <;> intro hc <;> (try simp only [tests, reduceCtorEq] at hc) <;> (try exact Zf))) | (refine G.atBin ?_; first | (refine G.atEql ?_; first | refine G.op rfl rfl ?_) | refine G.op rfl rfl ?_) | refine G.op rfl rfl ?_ | (refine G.atLen ?_; first | refine G.lenSlice rfl (tyy rfl) rfl ?_) | (refine G.atLoad ?_; first | refine G.loadOwn1 rfl (tyy rfl) rfl rfl Za rfl rfl ?_ | refine G.loadOwnA rfl (tyy rfl) rfl rfl Za rfl rfl ?_) | (refine G.atFld ?_; first | refine G.fieldAddr rfl (tyy rfl) rfl rfl ?_) | (refine G.atBox ?_; refine G.box rfl rfl rfl ?_; intro _))
  all_goals first
    | (exfalso; omega)
    | exact G.done1 rfl rfl [] (SubH.nil _) ⟨⟨_, rfl, fun e => by cases e⟩, rfl⟩
    | exact G.done1 rfl rfl [] (SubH.nil _) ⟨⟨_, rfl, fun hb => by have := of_decide_eq_true hb; omega⟩, rfl⟩
    | skip
set_option maxRecDepth 8000 in
set_option maxHeartbeats 4000000 in
theorem law_SchemaChecks (T : List Ty4) (C : List Cls) (vT vC : Value) (rc : List (List Value)) (hB : ScB T C) (h : Heap) (hvT : HSl h vT 4 (tyR T)) (hvC : HSl h vC 5 rc) (hrc : ClsC h C rc) :
    Spec Try.prog 3 [.agg #[vT, vC]] h [] (fun u _ _ => u = .bool true) := by
  have hrl := hrc.len
  have hbt := hB.tn
  have hbc := hB.cn
  obtain ⟨AT, cT, rfl, hcT, hmT, _⟩ := hvT.form
  obtain ⟨AC, cC, rfl, hcC, hmC, _⟩ := hvC.form
  simp only [tyR_length, hrl] at hvT hvC ⊢
  have sck := ref13_Check T C (.slice AT T.length cT) (.slice AC C.length cC) rc hB
  have sck2 := schema_Check T C (.slice AT T.length cT) (.slice AC C.length cC) rc hB
  have h9 : 128 < T.length \/ 128 < C.length -> chkS T C = 9 := fun hh => by unfold chkS; rw [if_pos hh]
  generalize chkS T C = e at *
  refine Spec.enter Try.func3 rfl rfl ?_; intro w0
  repeat' (first | (show G _ (.ops .seq _ (⟨some _, .call { callee := .value (.func 10), args := _, argTypes := _ }, _, _, _, none⟩ :: _) :: _) _ _ _; refine G.call callCheckX rfl rfl (sck2 _ (hvT.mono (by solve | repeat first | assumption | exact Zr _ | refine Zq ?_ Zp)) (hvC.mono (by solve | repeat first | assumption | exact Zr _ | refine Zq ?_ Zp)) (hrc.mono (by solve | repeat first | assumption | exact Zr _ | refine Zq ?_ Zp))) Ze ?_; rintro _ h2 H2 ⟨rfl, rfl⟩ hle2) | (show G _ (.ops .seq _ (⟨some _, .call { callee := .value (.func 9), args := _, argTypes := _ }, _, _, _, none⟩ :: _) :: _) _ _ _; refine G.call callAwake13 rfl rfl (law13_awake _) Ze ?_; rintro _ haw Haw ⟨rfl, rfl⟩ hleaw) | (refine G.atCode ?_; refine G.stopLoop ?_) | (refine G.atCode ?_; first | refine G.seq ?_ | refine G.region ?_ | refine G.block ?_ | refine G.skip ?_ | refine G.ret ?_ | (refine G.cond rfl ?_ ?_ <;> intro hc <;> (try simp only [tests, reduceCtorEq] at hc) <;> (try exact Zf))) | refine G.endOps ?_ | (refine G.atGd ?_; first | refine G.guardYes rfl rfl ?_ | refine G.guardNoS rfl rfl rfl ?_ | (refine G.guardS rfl rfl rfl ?_ ?_ <;> intro hc <;> (try simp only [tests, reduceCtorEq] at hc) <;> (try exact Zf))) | (refine G.atBin ?_; first | (refine G.atEql ?_; first | refine G.op rfl rfl ?_) | refine G.op rfl rfl ?_) | refine G.op rfl rfl ?_ | (refine G.atLen ?_; first | refine G.lenSlice rfl (tyy rfl) rfl ?_) | (refine G.atLoad ?_; first | refine G.loadOwn1 rfl (tyy rfl) rfl rfl Za rfl rfl ?_ | refine G.loadOwnA rfl (tyy rfl) rfl rfl Za rfl rfl ?_) | (refine G.atFld ?_; first | refine G.fieldAddr rfl (tyy rfl) rfl rfl ?_) | (refine G.atBox ?_; refine G.box rfl rfl rfl ?_; intro _))
  all_goals first | (exfalso; omega) | exact G.done1 rfl rfl [] (SubH.nil _) (by rw [h9 (by omega)]; rfl) | (exfalso; simp_all; done) | skip
  rename_i gS _
  refine G.go ?_
  refine G.loop (σ := Nat) (fun i => [(24, .int .i64 i), (23, .int .i64 C.length), (22, .slice AC C.length cC), (1, .pointer (some ⟨gS, 0, none⟩))])
    (fun _ => [.blk gS [.slice AT T.length cT, .slice AC C.length cC] 25]) (fun i _ => i <= C.length) (fun i => C.length - i) 0 ⟨rfl, rfl, rfl, rfl, trivial⟩ Zu (Nat.zero_le _) ?_
  rintro i h1 hle1 hi
  by_cases hlt : i < C.length
  . obtain ⟨c, hc⟩ : ∃ t, C[i]? = some t := ⟨C[i], List.getElem?_eq_getElem hlt⟩
    obtain ⟨vm, vy, hget, hm, hy⟩ := hrc.get hc
    obtain ⟨Am, cm, rfl, _⟩ := hm.form
    obtain ⟨Ay, cy, rfl, _⟩ := hy.form
    have hl5 : ([str c.1, str c.2.1, .int .i64 c.2.2.1, .slice Am (strsR c.2.2.2.1).length cm, .slice Ay (strsR c.2.2.2.2).length cy] : List Value).length = 5 := rfl
    repeat' (first | (refine G.atIdx ?_; refine G.idxImm rfl rfl (tyy rfl) (tyy rfl) (hvC.mono (by solve | repeat first | assumption | exact Zr _ | refine Zq ?_ Zp)) Zj rfl (by rw [hrl]; omega) ?_; intro pp rr hx9 hp9; (rw [hget] at hx9); (obtain rfl := Option.some.inj hx9)) | (show G _ (.ops .seq _ (⟨some _, .call { callee := .value (.func 9), args := _, argTypes := _ }, _, _, _, none⟩ :: _) :: _) _ _ _; refine G.call callAwake13 rfl rfl (law13_awake _) Ze ?_; rintro _ haw Haw ⟨rfl, rfl⟩ hleaw) | (refine G.atCode ?_; first | refine G.seq ?_ | refine G.region ?_ | refine G.block ?_ | refine G.skip ?_ | refine G.ret ?_ | (refine G.cond rfl ?_ ?_ <;> intro hc <;> (try simp only [tests, reduceCtorEq] at hc) <;> (try exact Zf))) | refine G.endOps ?_ | refine G.endBlk ?_ | (refine G.atGd ?_; first | refine G.guardYes rfl rfl ?_ | refine G.guardNoS rfl rfl rfl ?_ | (refine G.guardS rfl rfl rfl ?_ ?_ <;> intro hc <;> (try simp only [tests, reduceCtorEq] at hc) <;> (try exact Zf))) | (refine G.atBin ?_; first | (refine G.atAdd ?_; first | refine G.arith rfl rfl rfl rfl rfl Zi ?_) | refine G.op rfl rfl ?_) | refine G.op rfl rfl ?_ | (refine G.atLen ?_; first | refine G.lenSlice rfl (tyy rfl) rfl ?_) | (refine G.atLoad ?_; first | refine G.loadOwn1 rfl (tyy rfl) rfl rfl Za rfl rfl ?_ | refine G.loadImmA rfl (tyy rfl) rfl rfl Zp Zp rfl ?_) | (refine G.atFld ?_; first | refine G.fieldAddr rfl (tyy rfl) rfl rfl ?_) | (refine G.atSto ?_; refine G.storeOwn rfl rfl (tyy rfl) Za rfl rfl rfl rfl ?_) | (refine G.atAlc ?_; refine G.alloc (tyy rfl) rfl rfl ?_; intro _))
    all_goals first | (exfalso; omega) | exact G.done1 rfl rfl [] (SubH.nil _) rfl | exact G.again (i + 1) ⟨sint (by simp), rfl, rfl, rfl, trivial⟩ Zu (by omega) (by solve | repeat first | assumption | exact Zr _ | refine Zq ?_ Zp) (by omega) | skip
  . obtain rfl : i = C.length := by omega
    repeat' (first | (show G _ (.ops .seq _ (⟨some _, .call { callee := .value (.func 10), args := _, argTypes := _ }, _, _, _, none⟩ :: _) :: _) _ _ _; refine G.call callCheckX rfl rfl (sck2 _ (hvT.mono (by solve | repeat first | assumption | exact Zr _ | refine Zq ?_ Zp)) (hvC.mono (by solve | repeat first | assumption | exact Zr _ | refine Zq ?_ Zp)) (hrc.mono (by solve | repeat first | assumption | exact Zr _ | refine Zq ?_ Zp))) Ze ?_; rintro _ h2 H2 ⟨rfl, rfl⟩ hle2) | (show G _ (.ops .seq _ (⟨some _, .call { callee := .value (.func 11), args := _, argTypes := _ }, _, _, _, none⟩ :: _) :: _) _ _ _; refine G.call callCheckR rfl rfl (sck _ (hvT.mono (by solve | repeat first | assumption | exact Zr _ | refine Zq ?_ Zp)) (hvC.mono (by solve | repeat first | assumption | exact Zr _ | refine Zq ?_ Zp)) (hrc.mono (by solve | repeat first | assumption | exact Zr _ | refine Zq ?_ Zp))) Ze ?_; rintro _ h2 H2 ⟨rfl, rfl⟩ hle2) | (show G _ (.ops .seq _ (⟨some _, .call { callee := .value (.func 9), args := _, argTypes := _ }, _, _, _, none⟩ :: _) :: _) _ _ _; refine G.call callAwake13 rfl rfl (law13_awake _) Ze ?_; rintro _ haw Haw ⟨rfl, rfl⟩ hleaw) | (refine G.atCode ?_; first | refine G.seq ?_ | refine G.region ?_ | refine G.anyIn mixedOk ?_ | refine G.exit rfl ?_ | refine G.ret ?_ | (refine G.cond rfl ?_ ?_ <;> intro hc <;> (try simp only [tests, reduceCtorEq] at hc) <;> (try exact Zf))) | refine G.endOps ?_ | refine G.endHeld ?_ | refine G.back ?_ | (refine G.atAny ?_; first | refine G.anyAutoX slB rfl rfl Zw Zg Zd ?_ | refine G.anyOne rfl Zw Zg Zu ?_ | refine G.anyEndX Zw ?_) | (refine G.atGd ?_; first | refine G.guardYes rfl rfl ?_) | (refine G.atBin ?_; first | (refine G.atEql ?_; first | refine G.op rfl rfl ?_) | refine G.op rfl rfl ?_) | refine G.op rfl rfl ?_ | (refine G.atLoad ?_; first | refine G.loadOwnA rfl (tyy rfl) rfl rfl Za rfl rfl ?_))
    all_goals first | (exfalso; omega) | exact G.done1 rfl rfl [] (SubH.nil _) (by solve | rfl | simp) | (exfalso; simp_all; done) | skip
set_option maxRecDepth 8000 in
set_option maxHeartbeats 4000000 in
theorem law_SchemaChains (T : List Ty4) (C : List Cls) (vT vC : Value) (rc : List (List Value)) (hB : ScB T C) (h : Heap) (hvT : HSl h vT 4 (tyR T)) (hvC : HSl h vC 5 rc) (hrc : ClsC h C rc) :
    Spec Try.prog 7 [.agg #[vT, vC]] h [] (fun u _ _ => u = .bool true) := by
  have hrl := hrc.len
  have hbt := hB.tn
  have hbc := hB.cn
  obtain ⟨AT, cT, rfl, hcT, hmT, _⟩ := hvT.form
  obtain ⟨AC, cC, rfl, hcC, hmC, _⟩ := hvC.form
  simp only [tyR_length, hrl] at hvT hvC ⊢
  have ssm := law13_Small T C (.slice AT T.length cT) (.slice AC C.length cC) rc hB
  by_cases hk : chkS T C = 0
  . obtain ⟨g, hTl, hCl⟩ := good_of hk
    have sch : ∀ q : List UInt8, q.length <= 10000000 -> ∀ hh, HSl hh (.slice AC C.length cC) 5 rc -> ClsC hh C rc -> Spec Try.prog 23 [.agg #[.slice AT T.length cT, .slice AC C.length cC], str q] hh [] (fun u h' H' => HSl h' u 1 (strsR (chM C q)) /\ H' = []) := fun q hq hh x y => by
      have := schema_Chain C hB.cok (by omega) AT T.length cT (.slice AC C.length cC) rc q hq hh x y
      rw [chGo_end g] at this
      exact this
    refine Spec.enter Try.func7 rfl rfl ?_; intro w0
    repeat' (first | (refine G.atCode ?_; first | refine G.seq ?_ | refine G.region ?_) | refine G.endOps ?_ | refine G.op rfl rfl ?_ | (refine G.atLoad ?_; first | refine G.loadOwnA rfl (tyy rfl) rfl rfl Za rfl rfl ?_) | (refine G.atBox ?_; refine G.box rfl rfl rfl ?_; intro _))
    rename_i gS
    repeat' (first | (show G _ (.ops .seq _ (⟨some _, .call { callee := .value (.func 12), args := _, argTypes := _ }, _, _, _, none⟩ :: _) :: _) _ _ _; refine G.call callSmall13 rfl rfl (ssm _ (hvT.mono (by solve | repeat first | assumption | exact Zr _ | refine Zq ?_ Zp)) (hvC.mono (by solve | repeat first | assumption | exact Zr _ | refine Zq ?_ Zp)) (hrc.mono (by solve | repeat first | assumption | exact Zr _ | refine Zq ?_ Zp))) Ze ?_; rintro _ h2 H2 ⟨⟨bs, rfl, hbs⟩, rfl⟩ hle2) | (show G _ (.ops .seq _ (⟨some _, .call { callee := .value (.func 9), args := _, argTypes := _ }, _, _, _, none⟩ :: _) :: _) _ _ _; refine G.call callAwake13 rfl rfl (law13_awake _) Ze ?_; rintro _ haw Haw ⟨rfl, rfl⟩ hleaw) | (refine G.atCode ?_; refine G.stopLoop ?_) | (refine G.atCode ?_; first | refine G.seq ?_ | refine G.region ?_ | refine G.block ?_ | refine G.skip ?_ | refine G.ret ?_ | (refine G.cond rfl ?_ ?_ <;> intro hc <;> (try simp only [tests, reduceCtorEq] at hc) <;> (try exact Zf))) | refine G.endOps ?_ | refine G.op rfl rfl ?_ | (refine G.atLen ?_; first | refine G.lenSlice rfl (tyy rfl) rfl ?_) | (refine G.atLoad ?_; first | refine G.loadOwn1 rfl (tyy rfl) rfl rfl Za rfl rfl ?_) | (refine G.atFld ?_; first | refine G.fieldAddr rfl (tyy rfl) rfl rfl ?_))
    all_goals first | (exfalso; omega) | exact G.done1 rfl rfl [] (SubH.nil _) rfl | (exfalso; simp_all; done) | skip
    refine G.go ?_
    refine G.loop (σ := Nat) (fun i => [(13, .int .i64 i), (12, .int .i64 C.length), (11, .slice AC C.length cC), (1, .pointer (some ⟨gS, 0, none⟩))])
      (fun _ => [.blk gS [.slice AT T.length cT, .slice AC C.length cC] 25]) (fun i _ => i <= C.length) (fun i => C.length - i) 0 ⟨rfl, rfl, rfl, rfl, trivial⟩ Zu (Nat.zero_le _) ?_
    rintro i h1 hle1 hi
    by_cases hlt : i < C.length
    . obtain ⟨c, hc⟩ : ∃ t, C[i]? = some t := ⟨C[i], List.getElem?_eq_getElem hlt⟩
      obtain ⟨vm, vy, hget, hm, hy⟩ := hrc.get hc
      obtain ⟨Am, cm, rfl, _⟩ := hm.form
      obtain ⟨Ay, cy, rfl, _⟩ := hy.form
      obtain ⟨b1, b2, b3, b4, b5, b6⟩ := hB.cl c (List.mem_of_getElem? hc)
      have hl5 : ([str c.1, str c.2.1, .int .i64 c.2.2.1, .slice Am (strsR c.2.2.2.1).length cm, .slice Ay (strsR c.2.2.2.2).length cy] : List Value).length = 5 := rfl
      have hst := chM_step g (g.one i c hc) hc
      have sc1 := sch c.1 (by omega)
      have sc2 := sch c.2.1 (by omega)
      by_cases hz : c.2.1.length = 0
      . rw [if_pos hz] at hst
        rw [hst] at sc1
        have hg0 : (strsR [c.1])[0]? = some [str c.1] := rfl
        repeat' (first | (refine G.atIdx ?_; refine G.idxImm rfl rfl (tyy rfl) (tyy rfl) (hvC.mono (by solve | repeat first | assumption | exact Zr _ | refine Zq ?_ Zp)) Zj rfl (by rw [hrl]; omega) ?_; intro pp rr hx9 hp9; (rw [hget] at hx9); (obtain rfl := Option.some.inj hx9)) | (show G _ (.ops .seq _ (⟨some _, .call { callee := .value (.func 23), args := _, argTypes := _ }, _, _, _, none⟩ :: _) :: _) _ _ _; refine G.call callChain rfl rfl (sc1 _ (hvC.mono (by solve | repeat first | assumption | exact Zr _ | refine Zq ?_ Zp)) (hrc.mono (by solve | repeat first | assumption | exact Zr _ | refine Zq ?_ Zp))) Ze ?_; rintro vl h3 H3 ⟨hvl, rfl⟩ hle3; obtain ⟨Al, cl, rfl, _⟩ := hvl.form) | (refine G.atCode ?_; first | refine G.seq ?_ | refine G.region ?_ | refine G.block ?_ | refine G.skip ?_ | refine G.anyIn mixedOk ?_ | refine G.ret ?_ | (refine G.cond rfl ?_ ?_ <;> intro hc <;> (try simp only [tests, reduceCtorEq] at hc) <;> (try exact Zf))) | refine G.endOps ?_ | refine G.endHeld ?_ | refine G.back ?_ | refine G.endBlk ?_ | (refine G.atAny ?_; first | refine G.anyAutoX slB rfl rfl Zw Zg Zd ?_ | refine G.anyOne rfl Zw Zg Zu ?_ | refine G.anyEnd Zw Zg Zu ?_) | (refine G.atGd ?_; first | refine G.guardYes rfl rfl ?_ | refine G.guardNoS rfl rfl rfl ?_ | refine G.guardU rfl rfl rfl ?_ | (refine G.guardS rfl rfl rfl ?_ ?_ <;> intro hc <;> (try simp only [tests, reduceCtorEq] at hc) <;> (try exact Zf))) | (refine G.atBin ?_; first | (refine G.atAdd ?_; first | refine G.arith rfl rfl rfl rfl rfl Zi ?_) | (refine G.atEql ?_; first | refine G.op rfl rfl ?_ | refine G.eqStr0 rfl rfl rfl ?_) | (refine G.atNeq ?_; first | refine G.op rfl rfl ?_ | refine G.neStr0 rfl rfl rfl ?_ | refine G.neStr rfl rfl rfl ?_) | refine G.op rfl rfl ?_) | refine G.op rfl rfl ?_ | (refine G.atLen ?_; first | refine G.lenSlice rfl (tyy rfl) rfl ?_) | (refine G.atLoad ?_; first | refine G.loadOwn1 rfl (tyy rfl) rfl rfl Za rfl rfl ?_ | refine G.loadOwnA rfl (tyy rfl) rfl rfl Za rfl rfl ?_ | refine G.loadImm1 rfl (tyy rfl) rfl rfl Zp rfl ?_ | refine G.loadImmA rfl (tyy rfl) rfl rfl Zp Zp rfl ?_) | (refine G.atFld ?_; first | refine G.fieldAddr rfl (tyy rfl) rfl rfl ?_) | (refine G.atSto ?_; refine G.storeOwn rfl rfl (tyy rfl) Za rfl rfl rfl rfl ?_) | (refine G.atAlc ?_; refine G.alloc (tyy rfl) rfl rfl ?_; intro _) | (refine G.atIdx ?_; first | (refine G.idxImmS rfl rfl (tyy rfl) (tyy rfl) Zl Zj rfl Zo ?_; intro _ _)))
        all_goals first | (exfalso; omega) | exact G.again (i + 1) ⟨sint (by simp), rfl, rfl, rfl, trivial⟩ Zu (by omega) (by solve | repeat first | assumption | exact Zr _ | refine Zq ?_ Zp) (by omega) | (exfalso; simp_all [strAt]; done) | skip
      . rw [if_neg hz] at hst
        rw [hst] at sc1
        generalize chM C c.2.1 = Lu at *
        have hg0 : (strsR (c.1 :: Lu))[0]? = some [str c.1] := rfl
        repeat' (first | (refine G.atIdx ?_; refine G.idxImm rfl rfl (tyy rfl) (tyy rfl) (hvC.mono (by solve | repeat first | assumption | exact Zr _ | refine Zq ?_ Zp)) Zj rfl (by rw [hrl]; omega) ?_; intro pp rr hx9 hp9; (rw [hget] at hx9); (obtain rfl := Option.some.inj hx9)) | (show G _ (.ops .seq _ (⟨some _, .call { callee := .value (.func 23), args := _, argTypes := _ }, _, _, _, none⟩ :: _) :: _) _ _ _; refine G.call callChain rfl rfl (sc1 _ (hvC.mono (by solve | repeat first | assumption | exact Zr _ | refine Zq ?_ Zp)) (hrc.mono (by solve | repeat first | assumption | exact Zr _ | refine Zq ?_ Zp))) Ze ?_; rintro vl h3 H3 ⟨hvl, rfl⟩ hle3; obtain ⟨Al, cl, rfl, hcl9, _⟩ := hvl.form; simp only [strsR_length, List.length_cons] at hvl hcl9 ⊢) | (refine G.atIdx ?_; refine G.idxImm (m := 0) rfl rfl (tyy rfl) (tyy rfl) (hvl.mono (by solve | repeat first | assumption | exact Zr _ | refine Zq ?_ Zp)) rfl rfl (by simp only [strsR_length, List.length_cons]; omega) ?_; intro p8 r8 hx8 hp8; (rw [hg0] at hx8); (obtain rfl := Option.some.inj hx8)) | (refine G.atSlc ?_; refine G.sliceSl (a := 1) (a' := 1) (b := ((Lu.length + 1 : Nat) : Int)) (b' := Lu.length + 1) rfl rfl rfl (tyy rfl) (tyy rfl) rfl rfl (by omega) ⟨by omega, by omega, by omega⟩ ?_) | (show G _ (.ops .seq _ (⟨some _, .call { callee := .value (.func 23), args := _, argTypes := _ }, _, _, _, none⟩ :: _) :: _) _ _ _; refine G.call callChain rfl rfl (sc2 _ (hvC.mono (by solve | repeat first | assumption | exact Zr _ | refine Zq ?_ Zp)) (hrc.mono (by solve | repeat first | assumption | exact Zr _ | refine Zq ?_ Zp))) Ze ?_; rintro vl2 h4 H4 ⟨hvl2, rfl⟩ hle4) | (show G _ (.ops .seq _ (⟨some _, .call { callee := .value (.func 17), args := _, argTypes := _ }, _, _, _, none⟩ :: _) :: _) _ _ _; refine G.call callSame13 rfl rfl (law13_same Lu _ vl2 _ (HSl.mono (hvl.tail 1 (by simp [strsR])) (by solve | repeat first | assumption | exact Zr _ | refine Zq ?_ Zp)) (hvl2.mono (by solve | repeat first | assumption | exact Zr _ | refine Zq ?_ Zp))) Ze ?_; rintro _ h6 H6 ⟨rfl, rfl⟩ hle6) | (refine G.atCode ?_; first | refine G.seq ?_ | refine G.region ?_ | refine G.block ?_ | refine G.skip ?_ | refine G.anyIn mixedOk ?_ | (refine G.cond rfl ?_ ?_ <;> intro hc <;> (try simp only [tests, reduceCtorEq] at hc) <;> (try exact Zf))) | refine G.endOps ?_ | refine G.endHeld ?_ | refine G.back ?_ | refine G.endBlk ?_ | (refine G.atAny ?_; first | refine G.anyAutoX slB rfl rfl Zw Zg Zd ?_ | refine G.anyOne rfl Zw Zg Zu ?_ | refine G.anyEnd Zw Zg Zu ?_) | (refine G.atGd ?_; first | refine G.guardYes rfl rfl ?_ | refine G.guardNoS rfl rfl rfl ?_ | (refine G.guardS rfl rfl rfl ?_ ?_ <;> intro hc <;> (try simp only [tests, reduceCtorEq] at hc) <;> (try exact Zf))) | (refine G.atBin ?_; first | (refine G.atAdd ?_; first | refine G.arith rfl rfl rfl rfl rfl Zi ?_) | (refine G.atEql ?_; first | refine G.op rfl rfl ?_ | refine G.eqStr0 rfl rfl rfl ?_) | (refine G.atNeq ?_; first | refine G.neStr0 rfl rfl rfl ?_ | refine G.neStr rfl rfl rfl ?_) | refine G.op rfl rfl ?_) | refine G.op rfl rfl ?_ | (refine G.atLen ?_; first | refine G.lenSlice rfl (tyy rfl) rfl ?_) | (refine G.atLoad ?_; first | refine G.loadOwn1 rfl (tyy rfl) rfl rfl Za rfl rfl ?_ | refine G.loadOwnA rfl (tyy rfl) rfl rfl Za rfl rfl ?_ | refine G.loadImm1 rfl (tyy rfl) rfl rfl Zp rfl ?_ | refine G.loadImmA rfl (tyy rfl) rfl rfl Zp Zp rfl ?_) | (refine G.atFld ?_; first | refine G.fieldAddr rfl (tyy rfl) rfl rfl ?_) | (refine G.atSto ?_; refine G.storeOwn rfl rfl (tyy rfl) Za rfl rfl rfl rfl ?_) | (refine G.atAlc ?_; refine G.alloc (tyy rfl) rfl rfl ?_; intro _))
        all_goals first | (exfalso; omega) | exact G.again (i + 1) ⟨sint (by simp), rfl, rfl, rfl, trivial⟩ Zu (by omega) (by solve | repeat first | assumption | exact Zr _ | refine Zq ?_ Zp) (by omega) | (exfalso; simp_all; done) | skip
    . obtain rfl : i = C.length := by omega
      repeat' (first | (show G _ (.ops .seq _ (⟨some _, .call { callee := .value (.func 9), args := _, argTypes := _ }, _, _, _, none⟩ :: _) :: _) _ _ _; refine G.call callAwake13 rfl rfl (law13_awake _) Ze ?_; rintro _ haw Haw ⟨rfl, rfl⟩ hleaw) | (refine G.atCode ?_; first | refine G.seq ?_ | refine G.region ?_ | refine G.exit rfl ?_ | refine G.ret ?_ | (refine G.cond rfl ?_ ?_ <;> intro hc <;> (try simp only [tests, reduceCtorEq] at hc) <;> (try exact Zf))) | refine G.endOps ?_ | (refine G.atBin ?_; first | refine G.op rfl rfl ?_) | refine G.op rfl rfl ?_)
      all_goals first | (exfalso; omega) | exact G.done1 rfl rfl [] (SubH.nil _) rfl | skip
  . refine Spec.enter Try.func7 rfl rfl ?_; intro w0
    repeat' (first | (show G _ (.ops .seq _ (⟨some _, .call { callee := .value (.func 12), args := _, argTypes := _ }, _, _, _, none⟩ :: _) :: _) _ _ _; refine G.call callSmall13 rfl rfl (ssm _ (hvT.mono (by solve | repeat first | assumption | exact Zr _ | refine Zq ?_ Zp)) (hvC.mono (by solve | repeat first | assumption | exact Zr _ | refine Zq ?_ Zp)) (hrc.mono (by solve | repeat first | assumption | exact Zr _ | refine Zq ?_ Zp))) Ze ?_; rintro _ h2 H2 ⟨⟨bs, rfl, hbs⟩, rfl⟩ hle2) | (show G _ (.ops .seq _ (⟨some _, .call { callee := .value (.func 9), args := _, argTypes := _ }, _, _, _, none⟩ :: _) :: _) _ _ _; refine G.call callAwake13 rfl rfl (law13_awake _) Ze ?_; rintro _ haw Haw ⟨rfl, rfl⟩ hleaw) | (refine G.atCode ?_; refine G.stopLoop ?_) | (refine G.atCode ?_; first | refine G.seq ?_ | refine G.region ?_ | refine G.block ?_ | refine G.skip ?_ | refine G.ret ?_ | (refine G.cond rfl ?_ ?_ <;> intro hc <;> (try simp only [tests, reduceCtorEq] at hc) <;> (try exact Zf))) | refine G.endOps ?_ | refine G.op rfl rfl ?_ | (refine G.atLen ?_; first | refine G.lenSlice rfl (tyy rfl) rfl ?_) | (refine G.atLoad ?_; first | refine G.loadOwn1 rfl (tyy rfl) rfl rfl Za rfl rfl ?_ | refine G.loadOwnA rfl (tyy rfl) rfl rfl Za rfl rfl ?_) | (refine G.atFld ?_; first | refine G.fieldAddr rfl (tyy rfl) rfl rfl ?_) | (refine G.atBox ?_; refine G.box rfl rfl rfl ?_; intro _))
    all_goals first | (exfalso; omega) | exact G.done1 rfl rfl [] (SubH.nil _) rfl | (exfalso; simp_all; done) | skip
end Go.Proofs.Ytfmekdmpghhegaa
