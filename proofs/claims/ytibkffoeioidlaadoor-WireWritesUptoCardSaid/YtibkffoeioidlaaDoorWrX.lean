/- castellanref11: Same, of two messages that are the same. -/
import Derived.Test.YtibkffoeioidlaaDoorWrL
import Derived.Test.YtibkffoeioidlaaDoorFlC
namespace Go.Proofs.YtibkffoeioidlaaDoor
set_option linter.all false
set_option maxRecDepth 4000
open Go.RowKit

theorem callAlike : Callable Tryd.prog 57 := ⟨_, Tryd.func57, by kernel_rfl, rfl⟩
theorem callSameAttrs : Callable Tryd.prog 58 := ⟨_, Tryd.func58, by kernel_rfl, rfl⟩
theorem callSame11 : Callable Tryd.prog 27 := ⟨_, Tryd.func27, by kernel_rfl, rfl⟩
theorem ctOk : FlatOk Tryd.prog 95 [9, 4, 4, 9] := ⟨by kernel_rfl, by kernel_rfl, by kernel_rfl, by kernel_rfl⟩
set_option maxHeartbeats 1000000 in
theorem ref11_alike (l : List Bs) (v1 v2 : Value) (h : Heap) (h1 : HSl h v1 1 (strsR l)) (h2 : HSl h v2 1 (strsR l)) : Spec Tryd.prog 57 [v1, v2] h [] (fun u _ H' => u = .bool true /\ H' = []) := by
  have hlen := strsR_length l
  obtain ⟨A1, c1, rfl, hc1, hm1, _⟩ := h1.form
  obtain ⟨A2, c2, rfl, hc2, hm2, _⟩ := h2.form
  rw [hlen] at *
  have hml : l.length <= 9223372036854775807 := by simp only [maxLen] at hm1; omega
  refine Spec.enter Tryd.func57 rfl rfl ?_; intro w0
  repeat' (first | (refine G.atCode ?_; refine G.stopLoop ?_) | (refine G.atCode ?_; first | refine G.seq ?_ | refine G.region ?_ | refine G.block ?_ | refine G.skip ?_ | (refine G.cond rfl ?_ ?_ <;> intro hc <;> (try simp only [tests, reduceCtorEq] at hc) <;> (try exact Zf))) | refine G.endOps ?_ | (refine G.atBin ?_; first | (refine G.atNeq ?_; first | refine G.op rfl rfl ?_)) | refine G.op rfl rfl ?_ | (refine G.atLen ?_; first | refine G.lenSlice rfl (tyy rfl) rfl ?_))
  all_goals first | (exfalso; omega) | skip
  refine G.go ?_
  refine G.loop (σ := Nat) (fun i => [(13, .int .i64 i), (12, .int .i64 l.length), (0, .slice A1 l.length c1), (1, .slice A2 l.length c2)])
    (fun _ => []) (fun i _ => i <= l.length) (fun i => l.length - i) 0 ⟨rfl, rfl, rfl, rfl, trivial⟩ (SubH.nil _) (Nat.zero_le _) ?_
  rintro i h3 hle3 hi
  by_cases hlt : i < l.length
  . repeat' (first | (refine G.atIdx ?_; refine G.idxImmS rfl rfl (tyy rfl) (tyy rfl) (h1.mono (by solve | repeat first | assumption | exact Zr _ | refine Zq ?_ Zp)) Zj rfl (by omega) ?_; intro _ _) | (refine G.atIdx ?_; refine G.idxImmS rfl rfl (tyy rfl) (tyy rfl) (h2.mono (by solve | repeat first | assumption | exact Zr _ | refine Zq ?_ Zp)) Zj rfl (by omega) ?_; intro _ _) | (refine G.atCode ?_; first | refine G.seq ?_ | refine G.region ?_ | refine G.block ?_ | refine G.skip ?_ | refine G.drawAll slB Zw mixedOk Zw ?_ | (refine G.cond rfl ?_ ?_ <;> intro hc <;> (try simp only [tests, reduceCtorEq] at hc) <;> (try exact Zf))) | refine G.endOps ?_ | refine G.endStill ?_ | refine G.endBlk ?_ | (refine G.atBin ?_; first | (refine G.atAdd ?_; first | refine G.arith rfl rfl rfl rfl rfl Zi ?_) | (refine G.atNeq ?_; first | refine G.neStr rfl rfl rfl ?_) | refine G.op rfl rfl ?_) | refine G.op rfl rfl ?_ | (refine G.atLoad ?_; first | refine G.loadImm1 rfl (tyy rfl) rfl rfl Zp rfl ?_))
    all_goals first
      | (exfalso; omega)
      | exact G.again (i + 1) ⟨sint (by omega), rfl, rfl, rfl, trivial⟩ (SubH.nil _) (by omega) (by solve | repeat first | assumption | exact Zr _ | refine Zq ?_ Zp) (by omega)
      | (exfalso; simp_all; done)
      | skip
  . obtain rfl : i = l.length := by omega
    repeat' (first | (refine G.atCode ?_; first | refine G.seq ?_ | refine G.region ?_ | refine G.exit rfl ?_ | refine G.ret ?_ | (refine G.cond rfl ?_ ?_ <;> intro hc <;> (try simp only [tests, reduceCtorEq] at hc) <;> (try exact Zf))) | refine G.endOps ?_ | (refine G.atBin ?_; first | refine G.op rfl rfl ?_) | refine G.op rfl rfl ?_)
    all_goals first | (exfalso; omega) | exact G.done1 rfl rfl [] (SubH.nil _) ⟨rfl, rfl⟩ | skip
set_option maxRecDepth 8000 in
set_option maxHeartbeats 2000000 in
theorem ref11_SameAttrs (l : List Atr) (v1 v2 : Value) (h : Heap) (hv1 : AtrsC h l v1) (hv2 : AtrsC h l v2) : Spec Tryd.prog 58 [v1, v2] h [] (fun u _ H' => u = .bool true /\ H' = []) := by
  obtain ⟨A1, c1, rfl, _, hm⟩ := hv1.form
  obtain ⟨A2, c2, rfl, _, _⟩ := hv2.form
  obtain ⟨rows1, hs1, hr1⟩ := hv1
  obtain ⟨rows2, hs2, hr2⟩ := hv2
  have hrl1 := hr1.len
  have hrl2 := hr2.len
  refine Spec.enter Tryd.func58 rfl rfl ?_; intro w0
  repeat' (first | (refine G.atCode ?_; refine G.stopLoop ?_) | (refine G.atCode ?_; first | refine G.seq ?_ | refine G.region ?_ | refine G.block ?_ | refine G.skip ?_ | (refine G.cond rfl ?_ ?_ <;> intro hc <;> (try simp only [tests, reduceCtorEq] at hc) <;> (try exact Zf))) | refine G.endOps ?_ | (refine G.atBin ?_; first | (refine G.atNeq ?_; first | refine G.op rfl rfl ?_)) | refine G.op rfl rfl ?_ | (refine G.atLen ?_; first | refine G.lenSlice rfl (tyy rfl) rfl ?_))
  all_goals first | (exfalso; omega) | skip
  refine G.go ?_
  refine G.loop (σ := Nat) (fun i => [(13, .int .i64 i), (12, .int .i64 l.length), (0, .slice A1 l.length c1), (1, .slice A2 l.length c2)])
    (fun _ => []) (fun i _ => i <= l.length) (fun i => l.length - i) 0 ⟨rfl, rfl, rfl, rfl, trivial⟩ (SubH.nil _) (Nat.zero_le _) ?_
  rintro i h3 hle3 hi
  by_cases hlt : i < l.length
  . obtain ⟨⟨an, avs⟩, ha⟩ : ∃ a, l[i]? = some a := ⟨l[i], List.getElem?_eq_getElem hlt⟩
    obtain ⟨_, hget1, va1, rfl, hva1⟩ := hr1.get ha
    obtain ⟨_, hget2, va2, rfl, hva2⟩ := hr2.get ha
    simp only at hget1 hget2 hva1 hva2
    obtain ⟨B1, d1, rfl, _⟩ := hva1.form
    obtain ⟨B2, d2, rfl, _⟩ := hva2.form
    have hl1 : ([str an, .slice B1 (strsR avs).length d1] : List Value).length = 2 := rfl
    have hl2 : ([str an, .slice B2 (strsR avs).length d2] : List Value).length = 2 := rfl
    repeat' (first | (refine G.atLoad ?_; refine G.loadImmAt1 rfl (tyy rfl) rfl rfl Zp rfl rfl ?_) | (refine G.atIdx ?_; refine G.idxImm rfl rfl (tyy rfl) (tyy rfl) (hs1.mono (by solve | repeat first | assumption | exact Zr _ | refine Zq ?_ Zp)) Zj rfl (by omega) ?_; intro p1 r1 hx1 hp1; (rw [hget1] at hx1); (obtain rfl := Option.some.inj hx1)) | (refine G.atIdx ?_; refine G.idxImm rfl rfl (tyy rfl) (tyy rfl) (hs2.mono (by solve | repeat first | assumption | exact Zr _ | refine Zq ?_ Zp)) Zj rfl (by omega) ?_; intro p2 r2 hx2 hp2; (rw [hget2] at hx2); (obtain rfl := Option.some.inj hx2)) | (show G _ (.ops .seq _ (⟨some _, .call { callee := .value (.func 57), args := _, argTypes := _ }, _, _, _, none⟩ :: _) :: _) _ _ _; refine G.call callAlike rfl rfl (ref11_alike avs _ _ _ (hva1.mono (by solve | repeat first | assumption | exact Zr _ | refine Zq ?_ Zp)) (hva2.mono (by solve | repeat first | assumption | exact Zr _ | refine Zq ?_ Zp))) Ze ?_; rintro _ h9 H9 ⟨rfl, rfl⟩ hle9) | (refine G.atCode ?_; first | refine G.seq ?_ | refine G.region ?_ | refine G.block ?_ | refine G.skip ?_ | refine G.drawAuto mixedOk rfl Zw ?_ | (refine G.cond rfl ?_ ?_ <;> intro hc <;> (try simp only [tests, reduceCtorEq] at hc) <;> (try exact Zf))) | refine G.endOps ?_ | refine G.endStill ?_ | refine G.endBlk ?_ | (refine G.atGd ?_; first | refine G.guardYes rfl rfl ?_ | (refine G.guardS rfl rfl rfl ?_ ?_ <;> intro hc <;> (try simp only [tests, reduceCtorEq] at hc) <;> (try exact Zf))) | (refine G.atBin ?_; first | (refine G.atAdd ?_; first | refine G.arith rfl rfl rfl rfl rfl Zi ?_) | (refine G.atNeq ?_; first | refine G.neStr rfl rfl rfl ?_) | refine G.op rfl rfl ?_) | refine G.op rfl rfl ?_ | (refine G.atFld ?_; first | refine G.fieldAddrP rfl (tyy rfl) rfl rfl ?_))
    all_goals first
      | (exfalso; omega)
      | exact G.again (i + 1) ⟨sint (by omega), rfl, rfl, rfl, trivial⟩ (SubH.nil _) (by omega) (by solve | repeat first | assumption | exact Zr _ | refine Zq ?_ Zp) (by omega)
      | (exfalso; simp_all; done)
      | skip
  . obtain rfl : i = l.length := by omega
    repeat' (first | (refine G.atCode ?_; first | refine G.seq ?_ | refine G.region ?_ | refine G.exit rfl ?_ | refine G.ret ?_ | (refine G.cond rfl ?_ ?_ <;> intro hc <;> (try simp only [tests, reduceCtorEq] at hc) <;> (try exact Zf))) | refine G.endOps ?_ | (refine G.atBin ?_; first | refine G.op rfl rfl ?_) | refine G.op rfl rfl ?_)
    all_goals first | (exfalso; omega) | exact G.done1 rfl rfl [] (SubH.nil _) ⟨rfl, rfl⟩ | skip
set_option maxRecDepth 8000 in
set_option maxHeartbeats 16000000 in
theorem ref11_Same (m : Ms) (pv kv nv av mv cv pv2 kv2 nv2 av2 mv2 cv2 : Value) (h : Heap) (hV : MsV h m pv kv nv av mv cv) (hV2 : MsV h m pv2 kv2 nv2 av2 mv2 cv2) :
    Spec Tryd.prog 27 [.agg (msR m pv kv nv av mv cv).toArray, .agg (msR m pv2 kv2 nv2 av2 mv2 cv2).toArray] h [] (fun u _ H' => u = .bool true /\ H' = []) := by
  have hF := fun h' (ha : FlC h' m.fl (flR m.fl pv kv)) (hb : FlC h' m.fl (flR m.fl pv2 kv2)) => ref10_Same m.fl.sz m.fl (Nat.le_refl _) _ _ h' ha hb
  have f1 := hV.fl
  have f2 := hV2.fl
  have n1 := hV.names
  have n2 := hV2.names
  have a1 := hV.attrs
  have a2 := hV2.attrs
  obtain ⟨⟨pA, pn, pc, rfl⟩, ⟨kA, kn, kc, rfl⟩, ⟨nA, nn, nc, rfl⟩, ⟨aA, an, ac, rfl⟩, _, _⟩ := hV.forms
  obtain ⟨⟨pA2, pn2, pc2, rfl⟩, ⟨kA2, kn2, kc2, rfl⟩, ⟨nA2, nn2, nc2, rfl⟩, ⟨aA2, an2, ac2, rfl⟩, _, _⟩ := hV2.forms
  obtain ⟨mA, mc, rfl, _, hmm⟩ := hV.mods.form
  obtain ⟨mA2, mc2, rfl, _, _⟩ := hV2.mods.form
  obtain ⟨mr, ms, mk⟩ := hV.mods
  obtain ⟨mr2, ms2, mk2⟩ := hV2.mods
  have cs := hV.ctls
  have cs2 := hV2.ctls
  have hcrl := ctlsR_length m.ctls
  obtain ⟨cA, cc, rfl, _, hcm, _⟩ := cs.form
  obtain ⟨cA2, cc2, rfl, _, _, _⟩ := cs2.form
  have hml1 := mk.len
  have hml2 := mk2.len
  rw [hcrl] at *
  clear hV hV2
  simp only [maxLen] at hcm
  have hcrl2 := ctlsR_length m.ctls
  refine Spec.enter Tryd.func27 rfl rfl ?_; intro w0
  repeat' (first | (refine G.atCode ?_; refine G.stopLoop ?_) | (show G _ (.ops .seq _ (⟨some _, .call { callee := .value (.func 56), args := _, argTypes := _ }, _, _, _, none⟩ :: _) :: _) _ _ _; refine G.call callSame10 rfl rfl (hF _ (FlC.mono (by solve | repeat first | assumption | exact Zr _ | refine Zq ?_ Zp) _ _ f1) (FlC.mono (by solve | repeat first | assumption | exact Zr _ | refine Zq ?_ Zp) _ _ f2)) Ze ?_; rintro _ h9 H9 ⟨rfl, rfl⟩ hle9) | (show G _ (.ops .seq _ (⟨some _, .call { callee := .value (.func 57), args := _, argTypes := _ }, _, _, _, none⟩ :: _) :: _) _ _ _; refine G.call callAlike rfl rfl (ref11_alike m.names _ _ _ (n1.mono (by solve | repeat first | assumption | exact Zr _ | refine Zq ?_ Zp)) (n2.mono (by solve | repeat first | assumption | exact Zr _ | refine Zq ?_ Zp))) Ze ?_; rintro _ h9 H9 ⟨rfl, rfl⟩ hle9) | (show G _ (.ops .seq _ (⟨some _, .call { callee := .value (.func 58), args := _, argTypes := _ }, _, _, _, none⟩ :: _) :: _) _ _ _; refine G.call callSameAttrs rfl rfl (ref11_SameAttrs m.attrs _ _ _ (a1.mono (by solve | repeat first | assumption | exact Zr _ | refine Zq ?_ Zp)) (a2.mono (by solve | repeat first | assumption | exact Zr _ | refine Zq ?_ Zp))) Ze ?_; rintro _ h9 H9 ⟨rfl, rfl⟩ hle9) | (refine G.atCode ?_; first | refine G.seq ?_ | refine G.region ?_ | refine G.block ?_) | refine G.endOps ?_ | (refine G.atGd ?_; first | refine G.guardYes rfl rfl ?_ | (refine G.guardS rfl rfl rfl ?_ ?_ <;> intro hc <;> (try simp only [tests, reduceCtorEq] at hc) <;> (try exact Zf))) | (refine G.atBin ?_; first | (refine G.atEql ?_; first | refine G.op rfl rfl ?_ | refine G.eqStr rfl rfl rfl ?_ | refine G.eqBool rfl rfl (tyy rfl) rfl ?_)) | refine G.op rfl rfl ?_ | (refine G.atLen ?_; first | refine G.lenSlice rfl (tyy rfl) rfl ?_) | (refine G.atLoad ?_; first | refine G.loadOwn1 rfl (tyy rfl) rfl rfl Za rfl rfl ?_ | refine G.loadOwnA rfl (tyy rfl) rfl rfl Za rfl rfl ?_) | (refine G.atFld ?_; first | refine G.fieldAddr rfl (tyy rfl) rfl rfl ?_) | (refine G.atBox ?_; refine G.box rfl rfl rfl ?_; intro _))
  all_goals first | (exfalso; omega) | (exfalso; simp_all; done) | skip
  rename_i g1 g2 _ _ _ _ _ _ _ _ _ _ _ _ _ _ _ _ _ _ _ _ _ _ _ _ _ _ _
  refine G.go ?_
  refine G.loop (σ := Nat) (fun i => [(6, .int .i64 i), (5, .bool true), (3, .pointer (some ⟨g2, 0, none⟩)), (2, .pointer (some ⟨g1, 0, none⟩))])
    (fun _ => [.blk g1 (msR m (.slice pA pn pc) (.slice kA kn kc) (.slice nA nn nc) (.slice aA an ac) (.slice mA m.mods.length mc) (.slice cA m.ctls.length cc)) 51, .blk g2 (msR m (.slice pA2 pn2 pc2) (.slice kA2 kn2 kc2) (.slice nA2 nn2 nc2) (.slice aA2 an2 ac2) (.slice mA2 m.mods.length mc2) (.slice cA2 m.ctls.length cc2)) 51])
    (fun i _ => i <= m.mods.length) (fun i => m.mods.length - i) 0 ⟨rfl, by show some (Value.bool (decide _)) = some (Value.bool true); simp, rfl, rfl, trivial⟩ Zu (Nat.zero_le _) ?_
  rintro i h3 hle3 hi
  by_cases hlt : i < m.mods.length
  . obtain ⟨x, hx⟩ : ∃ x, m.mods[i]? = some x := ⟨m.mods[i], List.getElem?_eq_getElem hlt⟩
    obtain ⟨_, hget1, va1, rfl, hva1⟩ := mk.get hx
    obtain ⟨_, hget2, va2, rfl, hva2⟩ := mk2.get hx
    obtain ⟨B1, d1, rfl, _⟩ := hva1.form
    obtain ⟨B2, d2, rfl, _⟩ := hva2.form
    have hl1 : ([.int .i64 x.op, str x.name, .slice B1 (strsR x.values).length d1] : List Value).length = 3 := rfl
    have hl2 : ([.int .i64 x.op, str x.name, .slice B2 (strsR x.values).length d2] : List Value).length = 3 := rfl
    repeat' (first | (refine G.atLoad ?_; refine G.loadImmAt1 rfl (tyy rfl) rfl rfl Zp rfl rfl ?_) | (refine G.atIdx ?_; refine G.idxImm rfl rfl (tyy rfl) (tyy rfl) (ms.mono (by solve | repeat first | assumption | exact Zr _ | refine Zq ?_ Zp)) Zj rfl (by omega) ?_; intro p1 r1 hx1 hp1; (rw [hget1] at hx1); (obtain rfl := Option.some.inj hx1)) | (refine G.atIdx ?_; refine G.idxImm rfl rfl (tyy rfl) (tyy rfl) (ms2.mono (by solve | repeat first | assumption | exact Zr _ | refine Zq ?_ Zp)) Zj rfl (by omega) ?_; intro p2 r2 hx2 hp2; (rw [hget2] at hx2); (obtain rfl := Option.some.inj hx2)) | (show G _ (.ops .seq _ (⟨some _, .call { callee := .value (.func 57), args := _, argTypes := _ }, _, _, _, none⟩ :: _) :: _) _ _ _; refine G.call callAlike rfl rfl (ref11_alike x.values _ _ _ (hva1.mono (by solve | repeat first | assumption | exact Zr _ | refine Zq ?_ Zp)) (hva2.mono (by solve | repeat first | assumption | exact Zr _ | refine Zq ?_ Zp))) Ze ?_; rintro _ h9 H9 ⟨rfl, rfl⟩ hle9) | (refine G.atCode ?_; first | refine G.seq ?_ | refine G.region ?_ | refine G.block ?_ | refine G.skip ?_ | refine G.drawAuto mixedOk rfl Zw ?_ | (refine G.cond rfl ?_ ?_ <;> intro hc <;> (try simp only [tests, reduceCtorEq] at hc) <;> (try exact Zf))) | refine G.endOps ?_ | refine G.endStill ?_ | refine G.endBlk ?_ | (refine G.atGd ?_; first | refine G.guardYes rfl rfl ?_ | (refine G.guardS rfl rfl rfl ?_ ?_ <;> intro hc <;> (try simp only [tests, reduceCtorEq] at hc) <;> (try exact Zf))) | (refine G.atBin ?_; first | (refine G.atAdd ?_; first | refine G.arith rfl rfl rfl rfl rfl Zi ?_) | (refine G.atEql ?_; first | refine G.op rfl rfl ?_ | refine G.eqStr rfl rfl rfl ?_) | refine G.op rfl rfl ?_) | refine G.op rfl rfl ?_ | (refine G.atLen ?_; first | refine G.lenSlice rfl (tyy rfl) rfl ?_) | (refine G.atLoad ?_; first | refine G.loadOwn1 rfl (tyy rfl) rfl rfl Za rfl rfl ?_) | (refine G.atFld ?_; first | refine G.fieldAddr rfl (tyy rfl) rfl rfl ?_ | refine G.fieldAddrP rfl (tyy rfl) rfl rfl ?_))
    all_goals first
      | (exfalso; omega)
      | (exfalso; simp_all; done)
      | exact G.again (i + 1) ⟨sint (by omega), rfl, rfl, rfl, trivial⟩ Zu (by omega) (by solve | repeat first | assumption | exact Zr _ | refine Zq ?_ Zp) (by omega)
      | skip
  . obtain rfl : i = m.mods.length := by omega
    repeat' (first | (refine G.atCode ?_; refine G.stopLoop ?_) | (refine G.atCode ?_; first | refine G.seq ?_ | refine G.region ?_ | refine G.block ?_ | refine G.exit rfl ?_ | (refine G.cond rfl ?_ ?_ <;> intro hc <;> (try simp only [tests, reduceCtorEq] at hc) <;> (try exact Zf))) | refine G.endOps ?_ | (refine G.atGd ?_; first | refine G.guardYes rfl rfl ?_) | (refine G.atBin ?_; first | refine G.op rfl rfl ?_) | refine G.op rfl rfl ?_ | (refine G.atLen ?_; first | refine G.lenSlice rfl (tyy rfl) rfl ?_) | (refine G.atLoad ?_; first | refine G.loadOwn1 rfl (tyy rfl) rfl rfl Za rfl rfl ?_) | (refine G.atFld ?_; first | refine G.fieldAddr rfl (tyy rfl) rfl rfl ?_))
    all_goals first | (exfalso; omega) | skip
    refine G.go ?_
    refine G.loop (σ := Nat) (fun i => [(7, .int .i64 i), (5, .bool true), (3, .pointer (some ⟨g2, 0, none⟩)), (2, .pointer (some ⟨g1, 0, none⟩))])
      (fun _ => [.blk g1 (msR m (.slice pA pn pc) (.slice kA kn kc) (.slice nA nn nc) (.slice aA an ac) (.slice mA m.mods.length mc) (.slice cA m.ctls.length cc)) 51, .blk g2 (msR m (.slice pA2 pn2 pc2) (.slice kA2 kn2 kc2) (.slice nA2 nn2 nc2) (.slice aA2 an2 ac2) (.slice mA2 m.mods.length mc2) (.slice cA2 m.ctls.length cc2)) 51])
      (fun i _ => i <= m.ctls.length) (fun i => m.ctls.length - i) 0 ⟨rfl, rfl, rfl, rfl, trivial⟩ Zu (Nat.zero_le _) ?_
    rintro i h4 hle4 hi
    by_cases hlt : i < m.ctls.length
    . obtain ⟨x, hx⟩ : ∃ x, m.ctls[i]? = some x := ⟨m.ctls[i], List.getElem?_eq_getElem hlt⟩
      have hget := ctlsR_get hx
      unfold ctlR at hget
      have hl1 : ([str x.oid, .bool x.crit, .bool x.has, str x.value] : List Value).length = 4 := rfl
      repeat' (first | (refine G.atIdx ?_; refine G.idxImm rfl rfl (tyy rfl) (tyy rfl) (cs.mono (by solve | repeat first | assumption | exact Zr _ | refine Zq ?_ Zp)) Zj rfl (by omega) ?_; intro p1 r1 hx1 hp1; (rw [hget] at hx1); (obtain rfl := Option.some.inj hx1)) | (refine G.atIdx ?_; refine G.idxImm rfl rfl (tyy rfl) (tyy rfl) (cs2.mono (by solve | repeat first | assumption | exact Zr _ | refine Zq ?_ Zp)) Zj rfl (by omega) ?_; intro p2 r2 hx2 hp2; (rw [hget] at hx2); (obtain rfl := Option.some.inj hx2)) | (refine G.eqAgg rfl rfl ctOk (.cons (tyy rfl) .str (.cons (tyy rfl) .bool (.cons (tyy rfl) .bool (.cons (tyy rfl) .str .nil)))) rfl ?_) | (refine G.atCode ?_; first | refine G.seq ?_ | refine G.region ?_ | refine G.block ?_ | refine G.skip ?_ | refine G.drawAll slB Zw mixedOk Zw ?_ | (refine G.cond rfl ?_ ?_ <;> intro hc <;> (try simp only [tests, reduceCtorEq] at hc) <;> (try exact Zf))) | refine G.endOps ?_ | refine G.endStill ?_ | refine G.endBlk ?_ | (refine G.atGd ?_; first | refine G.guardYes rfl rfl ?_) | (refine G.atBin ?_; first | (refine G.atAdd ?_; first | refine G.arith rfl rfl rfl rfl rfl Zi ?_) | refine G.op rfl rfl ?_) | refine G.op rfl rfl ?_ | (refine G.atLen ?_; first | refine G.lenSlice rfl (tyy rfl) rfl ?_) | (refine G.atLoad ?_; first | refine G.loadOwn1 rfl (tyy rfl) rfl rfl Za rfl rfl ?_ | refine G.loadImmA rfl (tyy rfl) rfl rfl Zp Zp rfl ?_) | (refine G.atFld ?_; first | refine G.fieldAddr rfl (tyy rfl) rfl rfl ?_))
      all_goals first
        | (exfalso; omega)
        | (exfalso; simp_all; done)
        | exact G.again (i + 1) ⟨sint (by omega), by show some (Value.bool _) = some (Value.bool true); simp, rfl, rfl, trivial⟩ Zu (by omega) (by solve | repeat first | assumption | exact Zr _ | refine Zq ?_ Zp) (by omega)
        | skip
    . obtain rfl : i = m.ctls.length := by omega
      repeat' (first | (refine G.atCode ?_; first | refine G.seq ?_ | refine G.region ?_ | refine G.exit rfl ?_ | refine G.ret ?_ | (refine G.cond rfl ?_ ?_ <;> intro hc <;> (try simp only [tests, reduceCtorEq] at hc) <;> (try exact Zf))) | refine G.endOps ?_ | (refine G.atGd ?_; first | refine G.guardYes rfl rfl ?_) | (refine G.atBin ?_; first | refine G.op rfl rfl ?_) | refine G.op rfl rfl ?_ | (refine G.atLen ?_; first | refine G.lenSlice rfl (tyy rfl) rfl ?_) | (refine G.atLoad ?_; first | refine G.loadOwn1 rfl (tyy rfl) rfl rfl Za rfl rfl ?_) | (refine G.atFld ?_; first | refine G.fieldAddr rfl (tyy rfl) rfl rfl ?_))
      all_goals first | (exfalso; omega) | exact G.done1 rfl rfl [] (SubH.nil _) ⟨rfl, rfl⟩ | skip
end Go.Proofs.YtibkffoeioidlaaDoor
