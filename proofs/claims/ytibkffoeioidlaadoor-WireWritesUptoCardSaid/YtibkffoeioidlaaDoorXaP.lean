/- castellanref11.Twin: a message's copy. -/
import Derived.Test.YtibkffoeioidlaaDoorWrZ
import Derived.Test.YtibkffoeioidlaaDoorXaO
namespace Go.Proofs.YtibkffoeioidlaaDoor
set_option linter.all false
set_option maxRecDepth 4000
open Go.RowKit

theorem callTwin11 : Callable Tryd.prog 23 := ⟨_, Tryd.func23, by kernel_rfl, rfl⟩
theorem atrsW_mem2 {l : List Atr} {a : Atr} (h : a ∈ l) : a.2.length <= atrsW l := by
  have h1 : atrW a <= atrsW l := sum_mem h
  have h2 := bsW_len a.2
  have h3 : atrW a = 1 + a.1.length + bsW a.2 := rfl
  omega
theorem mdsW_mem2 {l : List Mdf} {a : Mdf} (h : a ∈ l) : a.values.length <= mdsW l := by
  have h1 : mdW a <= mdsW l := sum_mem h
  have h2 := bsW_len a.values
  have h3 : mdW a = 1 + a.name.length + bsW a.values := rfl
  omega
theorem tw_ctls (l : List Ctl) : ∀ r ∈ ctlsR l, ∀ q ∈ r, q.oneCell' = true := by
  intro r hr q hq
  unfold ctlsR at hr
  obtain ⟨c, _, rfl⟩ := List.mem_map.1 hr
  unfold ctlR at hq
  simp only [List.mem_cons, List.mem_nil_iff, or_false] at hq
  rcases hq with rfl | rfl | rfl | rfl <;> rfl
set_option maxRecDepth 8000 in
set_option maxHeartbeats 16000000 in
theorem ref11_Twin (m : Ms) (hw : m.wt <= 10000000) (pv kv nv av mv cv : Value) (h : Heap) (hV : MsV h m pv kv nv av mv cv) :
    Spec Tryd.prog 23 [.agg (msR m pv kv nv av mv cv).toArray] h [] (fun u h' H' => MsU h' m u /\ H' = []) := by
  have hB := fun h' (hf : FlC h' m.fl (flR m.fl pv kv)) => ref10_Twin m.fl.sz m.fl (Nat.le_refl _) (by unfold Ms.wt at hw; omega) _ h' hf
  have hfl := hV.fl
  have hnm := hV.names
  obtain ⟨⟨pA, pn, pc, rfl⟩, ⟨kA, kn, kc, rfl⟩, _, _, _, _⟩ := hV.forms
  obtain ⟨nA, nc, rfl, _, hnn, _⟩ := hnm.form
  rw [strsR_length] at *
  obtain ⟨aA, ac, rfl, _, hma⟩ := hV.attrs.form
  obtain ⟨mA, mc, rfl, _, hmm⟩ := hV.mods.form
  obtain ⟨ar, asl, ak⟩ := hV.attrs
  obtain ⟨mr, ms, mk⟩ := hV.mods
  have cs := hV.ctls
  have hcrl := ctlsR_length m.ctls
  obtain ⟨cA, cc, rfl, _, hcm, _⟩ := cs.form
  rw [hcrl] at cs
  rw [hcrl]
  clear hV
  simp only [maxLen] at hcm
  have har := ak.len
  have hmr := mk.len
  unfold Ms.wt at hw
  have hal := atrsW_len m.attrs
  have hmdl := mdsW_len m.mods
  have hcl := ctlsW_len m.ctls
  have hnl := bsW_len m.names
  obtain ⟨id, op, dn, ver, sasl, mech, text, scope, deref, size, time, types, fl, names, attrs, mods, rdn, delOld, hasSup, sup, attr, target, oid, has, value, code, matched, ctls⟩ := m
  simp only at hw hB hfl hnm asl ak ms mk cs hcrl har hmr hal hmdl hcl hnl
  refine Spec.enter Tryd.func23 rfl rfl ?_; intro w0
  repeat' (first | (refine G.atCode ?_; refine G.stopLoop ?_) | (show G _ (.ops .seq _ (⟨some _, .call { callee := .value (.func 41), args := _, argTypes := _ }, _, _, _, none⟩ :: _) :: _) _ _ _; refine G.call callTwin10 rfl rfl (hB _ (FlC.mono (by solve | repeat first | assumption | exact Zr _ | refine Zq ?_ Zp) _ _ hfl)) Ze ?_; rintro _ h5 H5 ⟨⟨c5, hc5, rfl⟩, rfl⟩ hle5; obtain ⟨pv5, kv5, rw5, rfl, hs51, hs52, hk5⟩ := hc5.shape; obtain ⟨A5, fn5, d5, rfl⟩ : ∃ A n c, pv5 = .slice A n c := (by obtain ⟨A, c, e, _⟩ := hs51.form; exact ⟨_, _, _, e⟩); obtain ⟨B5, fk5, e5, rfl⟩ : ∃ A n c, kv5 = .slice A n c := (by obtain ⟨A, c, e, _⟩ := hs52.form; exact ⟨_, _, _, e⟩)) | (refine G.atApp ?_; refine G.blkNil 1 Za ?_; refine G.appendImmS (l := []) (l' := names) rfl rfl (tyy rfl) (tyy rfl) rfl rfl Take.hd (hnm.mono (by solve | repeat first | assumption | exact Zr _ | refine Zq ?_ Zp)) rfl (by simp only [List.length_nil]; omega) ?_; intro v9; refine G.rowForm Take.hd ?_; rintro A9 c9 rfl) | (refine G.atCode ?_; first | refine G.seq ?_ | refine G.region ?_ | refine G.block ?_) | refine G.endOps ?_ | refine G.op rfl rfl ?_ | (refine G.atLen ?_; first | refine G.lenSlice rfl (tyy rfl) rfl ?_) | (refine G.atLoad ?_; first | refine G.loadOwn1 rfl (tyy rfl) rfl rfl Za rfl rfl ?_ | refine G.loadOwnA rfl (tyy rfl) rfl rfl Za rfl rfl ?_) | (refine G.atFld ?_; first | refine G.fieldAddr rfl (tyy rfl) rfl rfl ?_) | (refine G.atSto ?_; refine G.storeOwn rfl rfl (tyy rfl) Za rfl rfl rfl rfl ?_) | (refine G.atAlc ?_; refine G.alloc (tyy rfl) rfl rfl ?_; intro _) | (refine G.atBox ?_; refine G.box rfl rfl rfl ?_; intro _) | (refine G.atBsl ?_; refine G.buildSlice (tyy rfl) (tyy rfl) rfl rfl rfl rfl ?_; intro _))
  all_goals first | (exfalso; omega) | skip
  rename_i g1 g2 g3 _
  refine G.freezeRow (e := 9) (sz := 1) Za ?_
  intro h6 hle6 hs6
  rw [List.nil_append, strsR_length] at hs6 ⊢
  refine G.nilRow 83 2 ?_
  refine G.go ?_
  refine G.loop (σ := Nat × Option Addr × Nat × List (List Value)) (fun x => [(22, .int .i64 x.1), (21, .int .i64 attrs.length), (20, .slice aA attrs.length ac), (3, .pointer (some ⟨g3, 0, none⟩)), (2, .pointer (some ⟨g2, 0, none⟩)), (1, .pointer (some ⟨g1, 0, none⟩))])
    (fun x => [.blk g1 (msR ⟨id, op, dn, ver, sasl, mech, text, scope, deref, size, time, types, fl, names, attrs, mods, rdn, delOld, hasSup, sup, attr, target, oid, has, value, code, matched, ctls⟩ (.slice pA pn pc) (.slice kA kn kc) (.slice nA names.length nc) (.slice aA attrs.length ac) (.slice mA mods.length mc) (.slice cA ctls.length cc)) 51, .blk g2 (msR zM nilV nilV nilV nilV nilV nilV) 51, .blk g3 (msR ⟨id, op, dn, ver, sasl, mech, text, scope, deref, size, time, types, fl, names, attrs, mods, rdn, delOld, hasSup, sup, attr, target, oid, has, value, code, matched, ctls⟩ (.slice A5 fn5 d5) (.slice B5 fk5 e5) (.slice A9 names.length c9) (.slice x.2.1 x.2.2.2.length x.2.2.1) (.slice mA mods.length mc) (.slice cA ctls.length cc)) 51, .row (.slice x.2.1 x.2.2.2.length x.2.2.1) 83 2 x.2.2.2])
    (fun x h1 => x.1 <= attrs.length /\ LC AtrC h1 (attrs.take x.1) x.2.2.2) (fun x => attrs.length - x.1) ⟨0, none, 0, []⟩ ⟨rfl, rfl, rfl, rfl, rfl, rfl, trivial⟩ Zu ⟨Nat.zero_le _, rfl⟩ ?_
  rintro ⟨i, aA2, ac2, arows⟩ h4 hle4 ⟨hi, hrows⟩
  simp only at hi hrows
  refine G.norm (by (try dsimp only) <;> exact rfl) (by (try dsimp only) <;> exact rfl) ?_
  have horl := hrows.len
  rw [List.length_take] at horl
  by_cases hlt : i < attrs.length
  . obtain ⟨⟨an, avs⟩, ha⟩ : ∃ a, attrs[i]? = some a := ⟨attrs[i], List.getElem?_eq_getElem hlt⟩
    have hwm := atrsW_mem2 (List.mem_of_getElem? ha)
    obtain ⟨_, hget, va, rfl, hva⟩ := ak.get ha
    simp only at hget hva hwm
    obtain ⟨Aa, ca, rfl, _⟩ := hva.form
    simp only [strsR_length] at hget hva
    have hl2 : ([str an, .slice Aa avs.length ca] : List Value).length = 2 := rfl
    repeat' (first | (refine G.atAny ?_; first | refine G.anyHold 13 slB rfl (H1 := [.blk g3 (msR ⟨id, op, dn, ver, sasl, mech, text, scope, deref, size, time, types, fl, names, attrs, mods, rdn, delOld, hasSup, sup, attr, target, oid, has, value, code, matched, ctls⟩ (.slice A5 fn5 d5) (.slice B5 fk5 e5) (.slice A9 names.length c9) (.slice aA2 arows.length ac2) (.slice mA mods.length mc) (.slice cA ctls.length cc)) 51, .blk _ [str an, .slice Aa avs.length ca] 83]) rfl Zw Zg Zu ?_ | refine G.anyOne rfl Zw Zg Zu ?_ | refine G.anyEndX Zw ?_) | (refine G.atIdx ?_; refine G.idxImm rfl rfl (tyy rfl) (tyy rfl) (asl.mono (by solve | repeat first | assumption | exact Zr _ | refine Zq ?_ Zp)) Zj rfl (by omega) ?_; intro pp rr hx9 hp9; (rw [hget] at hx9); (obtain rfl := Option.some.inj hx9)) | (refine G.atApp ?_; refine G.blkNil 1 Za ?_; refine G.appendImmS (l := []) (l' := avs) rfl rfl (tyy rfl) (tyy rfl) rfl rfl Take.hd (hva.mono (by solve | repeat first | assumption | exact Zr _ | refine Zq ?_ Zp)) rfl (by simp only [List.length_nil]; omega) ?_; intro v9; refine G.rowForm Take.hd ?_; rintro A9 c9 rfl) | (refine G.atApp ?_; refine G.append1 rfl rfl (tyy rfl) (tyy rfl) rfl rfl Za Za rfl rfl rfl Zo ?_; intro _; refine G.rowForm Take.hd ?_; rintro _ _ rfl) | (refine G.atCode ?_; first | refine G.seq ?_ | refine G.region ?_ | refine G.block ?_ | refine G.skip ?_ | refine G.anyIn mixedOk ?_ | (refine G.cond rfl ?_ ?_ <;> intro hc <;> (try simp only [tests, reduceCtorEq] at hc) <;> (try exact Zf))) | refine G.endOps ?_ | refine G.endHeld ?_ | refine G.back ?_ | refine G.endBlk ?_ | (refine G.atBin ?_; first | (refine G.atAdd ?_; first | refine G.arith rfl rfl rfl rfl rfl Zi ?_) | refine G.op rfl rfl ?_) | refine G.op rfl rfl ?_ | (refine G.atLoad ?_; first | refine G.loadOwn1 rfl (tyy rfl) rfl rfl Za rfl rfl ?_ | refine G.loadImmA rfl (tyy rfl) rfl rfl Zp Zp rfl ?_) | (refine G.atFld ?_; first | refine G.fieldAddr rfl (tyy rfl) rfl rfl ?_) | (refine G.atSto ?_; refine G.storeOwn rfl rfl (tyy rfl) Za rfl rfl rfl rfl ?_) | (refine G.atAlc ?_; refine G.alloc (tyy rfl) rfl rfl ?_; intro _) | (refine G.atBld ?_; refine G.build (tyy rfl) rfl rfl rfl ?_) | (refine G.atBsl ?_; refine G.buildSlice (tyy rfl) (tyy rfl) rfl rfl rfl rfl ?_; intro _))
    all_goals first | (exfalso; omega) | (exfalso; simp_all; done) | skip
    all_goals (
      refine G.freezeRow (e := 9) (sz := 1) Za ?_
      intro h7 hle7 hs7
      exact G.again ⟨i + 1, _, _, _⟩ ⟨sint (by omega), rfl, rfl, rfl, rfl, rfl, trivial⟩ Zu ⟨by simp only; omega, by rw [take_get ha]; exact LC.append (hrows.mono (fun x => x.mono (by solve | repeat first | assumption | exact Zr _ | refine Zq ?_ Zp))) (LC.one ⟨_, rfl, hs7⟩)⟩ (by solve | repeat first | assumption | exact Zr _ | refine Zq ?_ Zp) (by simp only; omega))
  obtain rfl : i = attrs.length := by omega
  rw [List.take_length] at hrows
  repeat' (first | (refine G.atCode ?_; refine G.stopLoop ?_) | (refine G.atCode ?_; first | refine G.seq ?_ | refine G.region ?_ | refine G.block ?_ | refine G.exit rfl ?_ | (refine G.cond rfl ?_ ?_ <;> intro hc <;> (try simp only [tests, reduceCtorEq] at hc) <;> (try exact Zf))) | refine G.endOps ?_ | (refine G.atBin ?_; first | refine G.op rfl rfl ?_) | refine G.op rfl rfl ?_ | (refine G.atLen ?_; first | refine G.lenSlice rfl (tyy rfl) rfl ?_) | (refine G.atLoad ?_; first | refine G.loadOwn1 rfl (tyy rfl) rfl rfl Za rfl rfl ?_) | (refine G.atFld ?_; first | refine G.fieldAddr rfl (tyy rfl) rfl rfl ?_) | (refine G.atSto ?_; refine G.storeOwn rfl rfl (tyy rfl) Za rfl rfl rfl rfl ?_))
  all_goals first | (exfalso; omega) | (exfalso; simp_all; done) | skip
  refine G.freezeRow (e := 83) (sz := 2) Za ?_
  intro h10 hle10 hs10
  have hrA := hrows.mono (fun x => x.mono hle10)
  clear hrows
  refine G.nilRow 85 3 ?_
  refine G.go ?_
  refine G.loop (σ := Nat × Option Addr × Nat × List (List Value)) (fun x => [(43, .int .i64 x.1), (42, .int .i64 mods.length), (41, .slice mA mods.length mc), (3, .pointer (some ⟨g3, 0, none⟩)), (2, .pointer (some ⟨g2, 0, none⟩)), (1, .pointer (some ⟨g1, 0, none⟩))])
    (fun x => [.blk g1 (msR ⟨id, op, dn, ver, sasl, mech, text, scope, deref, size, time, types, fl, names, attrs, mods, rdn, delOld, hasSup, sup, attr, target, oid, has, value, code, matched, ctls⟩ (.slice pA pn pc) (.slice kA kn kc) (.slice nA names.length nc) (.slice aA attrs.length ac) (.slice mA mods.length mc) (.slice cA ctls.length cc)) 51, .blk g2 (msR zM nilV nilV nilV nilV nilV nilV) 51, .blk g3 (msR ⟨id, op, dn, ver, sasl, mech, text, scope, deref, size, time, types, fl, names, attrs, mods, rdn, delOld, hasSup, sup, attr, target, oid, has, value, code, matched, ctls⟩ (.slice A5 fn5 d5) (.slice B5 fk5 e5) (.slice A9 names.length c9) (.slice aA2 arows.length ac2) (.slice x.2.1 x.2.2.2.length x.2.2.1) (.slice cA ctls.length cc)) 51, .row (.slice x.2.1 x.2.2.2.length x.2.2.1) 85 3 x.2.2.2])
    (fun x h1 => x.1 <= mods.length /\ LC MdC h1 (mods.take x.1) x.2.2.2) (fun x => mods.length - x.1) ⟨0, none, 0, []⟩ ⟨rfl, rfl, rfl, rfl, rfl, rfl, trivial⟩ Zu ⟨Nat.zero_le _, rfl⟩ ?_
  rintro ⟨i, mA2, mc2, mrows⟩ h4 hle4 ⟨hi, hrows⟩
  simp only at hi hrows
  refine G.norm (by (try dsimp only) <;> exact rfl) (by (try dsimp only) <;> exact rfl) ?_
  have horl := hrows.len
  rw [List.length_take] at horl
  by_cases hlt : i < mods.length
  . obtain ⟨⟨mo, an, avs⟩, ha⟩ : ∃ a, mods[i]? = some a := ⟨mods[i], List.getElem?_eq_getElem hlt⟩
    have hwm := mdsW_mem2 (List.mem_of_getElem? ha)
    obtain ⟨_, hget, va, rfl, hva⟩ := mk.get ha
    simp only at hget hva hwm
    obtain ⟨Aa, ca, rfl, _⟩ := hva.form
    simp only [strsR_length] at hget hva
    have hl2 : ([.int .i64 mo, str an, .slice Aa avs.length ca] : List Value).length = 3 := rfl
    repeat' (first | (refine G.atAny ?_; first | refine G.anyHold 15 slB rfl (H1 := [.blk g3 (msR ⟨id, op, dn, ver, sasl, mech, text, scope, deref, size, time, types, fl, names, attrs, mods, rdn, delOld, hasSup, sup, attr, target, oid, has, value, code, matched, ctls⟩ (.slice A5 fn5 d5) (.slice B5 fk5 e5) (.slice A9 names.length c9) (.slice aA2 arows.length ac2) (.slice mA2 mrows.length mc2) (.slice cA ctls.length cc)) 51, .blk _ [.int .i64 mo, str an, .slice Aa avs.length ca] 85]) rfl Zw Zg Zu ?_ | refine G.anyOne rfl Zw Zg Zu ?_ | refine G.anyEndX Zw ?_) | (refine G.atIdx ?_; refine G.idxImm rfl rfl (tyy rfl) (tyy rfl) (ms.mono (by solve | repeat first | assumption | exact Zr _ | refine Zq ?_ Zp)) Zj rfl (by omega) ?_; intro pp rr hx9 hp9; (rw [hget] at hx9); (obtain rfl := Option.some.inj hx9)) | (refine G.atApp ?_; refine G.blkNil 1 Za ?_; refine G.appendImmS (l := []) (l' := avs) rfl rfl (tyy rfl) (tyy rfl) rfl rfl Take.hd (hva.mono (by solve | repeat first | assumption | exact Zr _ | refine Zq ?_ Zp)) rfl (by simp only [List.length_nil]; omega) ?_; intro v9; refine G.rowForm Take.hd ?_; rintro A9 c9 rfl) | (refine G.atApp ?_; refine G.append1 rfl rfl (tyy rfl) (tyy rfl) rfl rfl Za Za rfl rfl rfl Zo ?_; intro _; refine G.rowForm Take.hd ?_; rintro _ _ rfl) | (refine G.atCode ?_; first | refine G.seq ?_ | refine G.region ?_ | refine G.block ?_ | refine G.skip ?_ | refine G.anyIn mixedOk ?_ | (refine G.cond rfl ?_ ?_ <;> intro hc <;> (try simp only [tests, reduceCtorEq] at hc) <;> (try exact Zf))) | refine G.endOps ?_ | refine G.endHeld ?_ | refine G.back ?_ | refine G.endBlk ?_ | (refine G.atBin ?_; first | (refine G.atAdd ?_; first | refine G.arith rfl rfl rfl rfl rfl Zi ?_) | refine G.op rfl rfl ?_) | refine G.op rfl rfl ?_ | (refine G.atLoad ?_; first | refine G.loadOwn1 rfl (tyy rfl) rfl rfl Za rfl rfl ?_ | refine G.loadImmA rfl (tyy rfl) rfl rfl Zp Zp rfl ?_) | (refine G.atFld ?_; first | refine G.fieldAddr rfl (tyy rfl) rfl rfl ?_) | (refine G.atSto ?_; refine G.storeOwn rfl rfl (tyy rfl) Za rfl rfl rfl rfl ?_) | (refine G.atAlc ?_; refine G.alloc (tyy rfl) rfl rfl ?_; intro _) | (refine G.atBld ?_; refine G.build (tyy rfl) rfl rfl rfl ?_) | (refine G.atBsl ?_; refine G.buildSlice (tyy rfl) (tyy rfl) rfl rfl rfl rfl ?_; intro _))
    all_goals first | (exfalso; omega) | (exfalso; simp_all; done) | skip
    all_goals (
      refine G.freezeRow (e := 9) (sz := 1) Za ?_
      intro h7 hle7 hs7
      exact G.again ⟨i + 1, _, _, _⟩ ⟨sint (by omega), rfl, rfl, rfl, rfl, rfl, trivial⟩ Zu ⟨by simp only; omega, by rw [take_get ha]; exact LC.append (hrows.mono (fun x => x.mono (by solve | repeat first | assumption | exact Zr _ | refine Zq ?_ Zp))) (LC.one ⟨_, rfl, hs7⟩)⟩ (by solve | repeat first | assumption | exact Zr _ | refine Zq ?_ Zp) (by simp only; omega))
  obtain rfl : i = mods.length := by omega
  rw [List.take_length] at hrows
  repeat' (first | (refine G.atApp ?_; refine G.blkNil 4 Za ?_; refine G.appendImm (rows := []) rfl rfl (tyy rfl) (tyy rfl) rfl rfl Take.hd (cs.mono (by solve | repeat first | assumption | exact Zr _ | refine Zq ?_ Zp)) (tw_ctls _) rfl (by simp only [List.length_nil]; omega) ?_; intro v9; refine G.rowForm Take.hd ?_; rintro A8 c8 rfl) | (refine G.atCode ?_; first | refine G.seq ?_ | refine G.region ?_ | refine G.exit rfl ?_ | refine G.ret ?_ | (refine G.cond rfl ?_ ?_ <;> intro hc <;> (try simp only [tests, reduceCtorEq] at hc) <;> (try exact Zf))) | refine G.endOps ?_ | (refine G.atBin ?_; first | refine G.op rfl rfl ?_) | (refine G.atLoad ?_; first | refine G.loadOwn1 rfl (tyy rfl) rfl rfl Za rfl rfl ?_ | refine G.loadOwnA rfl (tyy rfl) rfl rfl Za rfl rfl ?_) | (refine G.atFld ?_; first | refine G.fieldAddr rfl (tyy rfl) rfl rfl ?_) | (refine G.atSto ?_; refine G.storeOwn rfl rfl (tyy rfl) Za rfl rfl rfl rfl ?_) | (refine G.atBsl ?_; refine G.buildSlice (tyy rfl) (tyy rfl) rfl rfl rfl rfl ?_; intro _))
  all_goals first | (exfalso; omega) | (exfalso; simp_all; done) | skip
  refine G.freezeRow (e := 85) (sz := 3) Za ?_
  intro h11 hle11 hs11
  refine G.freezeRow (e := 95) (sz := 4) Za ?_
  intro h12 hle12 hs12
  exact G.done (rs := [.cell 2 51]) rfl (.cellA rfl (tyy rfl) rfl rfl Za rfl .nil) rfl [] (SubH.nil _) ⟨MsU.mk_ (m := ⟨id, op, dn, ver, sasl, mech, text, scope, deref, size, time, types, fl, names, attrs, mods, rdn, delOld, hasSup, sup, attr, target, oid, has, value, code, matched, ctls⟩) ⟨FlC.mono (by solve | repeat first | assumption | exact Zr _ | refine Zq ?_ Zp) _ _ hc5, hs6.mono (by solve | repeat first | assumption | exact Zr _ | refine Zq ?_ Zp), ⟨_, hs10.mono (by solve | repeat first | assumption | exact Zr _ | refine Zq ?_ Zp), hrA.mono (fun x => x.mono (by solve | repeat first | assumption | exact Zr _ | refine Zq ?_ Zp))⟩, ⟨_, hs11.mono (by solve | repeat first | assumption | exact Zr _ | refine Zq ?_ Zp), hrows.mono (fun x => x.mono (by solve | repeat first | assumption | exact Zr _ | refine Zq ?_ Zp))⟩, hs12⟩, rfl⟩
end Go.Proofs.YtibkffoeioidlaaDoor
namespace Go.Proofs.YtibkffoeioidlaaDoor
set_option linter.all false
set_option maxRecDepth 4000
open Go.RowKit

set_option maxRecDepth 8000 in
set_option maxHeartbeats 8000000 in
theorem law_WireWrites (m : Ms) (hI : MsI m) (hw : m.wt <= 10000000) (pv kv nv av mv cv : Value) (h : Heap) (hT : TabW h) (hV : MsV h m pv kv nv av mv cv) :
    Spec Tryd.prog 6 [.agg (msR m pv kv nv av mv cv).toArray] h [] (fun u _ _ => u = .bool true) := by
  have hTw := fun h hV => ref11_Twin m hw pv kv nv av mv cv h hV
  have hW := fun h hT hV => wire_Write m hI hw pv kv nv av mv cv h hT hV
  have hR := fun h pv kv nv av mv cv hV => ref11_Write m hI hw pv kv nv av mv cv h hV
  have hS := fun h pv2 kv2 nv2 av2 mv2 cv2 h1 h2 => ref11_Same m pv kv nv av mv cv pv2 kv2 nv2 av2 mv2 cv2 h h1 h2
  generalize writeM m = r at *
  obtain ⟨a, e⟩ := r
  obtain ⟨⟨pA, pn, pc, rfl⟩, ⟨kA, kn, kc, rfl⟩, ⟨nA, nn, nc, rfl⟩, ⟨aA, an, ac, rfl⟩, ⟨mA, mn, mc, rfl⟩, ⟨cA, cn, cc, rfl⟩⟩ := hV.forms
  refine Spec.enter Tryd.func6 rfl rfl ?_; intro w0
  repeat' (first | (refine G.atCode ?_; first | refine G.seq ?_ | refine G.region ?_) | refine G.endOps ?_ | refine G.op rfl rfl ?_ | (refine G.atLoad ?_; first | refine G.loadOwnA rfl (tyy rfl) rfl rfl Za rfl rfl ?_) | (refine G.atBox ?_; refine G.box rfl rfl rfl ?_; intro _))
  show G _ (.ops .seq _ (⟨some _, .call { callee := .value (.func 23), args := _, argTypes := _ }, _, _, _, none⟩ :: _) :: _) _ _ _
  refine G.call callTwin11 rfl rfl (hTw _ (hV.mono (by solve | repeat first | assumption | exact Zr _ | refine Zq ?_ Zp))) Ze ?_
  rintro _ h2 H2 ⟨⟨pv8, kv8, nv8, av8, mv8, cv8, rfl, hV8⟩, rfl⟩ hle2
  obtain ⟨⟨pA8, pn8, pc8, rfl⟩, ⟨kA8, kn8, kc8, rfl⟩, ⟨nA8, nn8, nc8, rfl⟩, ⟨aA8, an8, ac8, rfl⟩, ⟨mA8, mn8, mc8, rfl⟩, ⟨cA8, cn8, cc8, rfl⟩⟩ := hV8.forms
  repeat' (first | (show G _ (.ops .seq _ (⟨some _, .call { callee := .value (.func 26), args := _, argTypes := _ }, _, _, _, none⟩ :: _) :: _) _ _ _; refine G.call callAwake11 rfl rfl (law11_awake _ (hT.mono (by solve | repeat first | assumption | exact Zr _ | refine Zq ?_ Zp))) Ze ?_; rintro _ h5 H5 ⟨rfl, rfl⟩ hle5) | (show G _ (.ops .seq _ (⟨some _, .call { callee := .value (.func 24), args := _, argTypes := _ }, _, _, _, none⟩ :: _) :: _) _ _ _; refine G.call callWriteW rfl rfl (hW _ (hT.mono (by solve | repeat first | assumption | exact Zr _ | refine Zq ?_ Zp)) (hV.mono (by solve | repeat first | assumption | exact Zr _ | refine Zq ?_ Zp))) Ze ?_; rintro _ h3 H3 ⟨rfl, rfl⟩ hle3) | (show G _ (.ops .seq _ (⟨some _, .call { callee := .value (.func 25), args := _, argTypes := _ }, _, _, _, none⟩ :: _) :: _) _ _ _; refine G.call callWrite11 rfl rfl (hR _ _ _ _ _ _ _ (hV8.mono (by solve | repeat first | assumption | exact Zr _ | refine Zq ?_ Zp))) Ze ?_; rintro _ h4 H4 ⟨rfl, rfl⟩ hle4) | (show G _ (.ops .seq _ (⟨some _, .call { callee := .value (.func 27), args := _, argTypes := _ }, _, _, _, none⟩ :: _) :: _) _ _ _; refine G.call callSame11 rfl rfl (hS _ _ _ _ _ _ _ (hV.mono (by solve | repeat first | assumption | exact Zr _ | refine Zq ?_ Zp)) (hV8.mono (by solve | repeat first | assumption | exact Zr _ | refine Zq ?_ Zp))) Ze ?_; rintro _ h10 H10 ⟨rfl, rfl⟩ hle10) | (refine G.atCode ?_; first | refine G.seq ?_ | refine G.region ?_ | refine G.ret ?_) | refine G.endOps ?_ | (refine G.atGd ?_; first | refine G.guardYes rfl rfl ?_ | (refine G.guardS rfl rfl rfl ?_ ?_ <;> intro hc <;> (try simp only [tests, reduceCtorEq] at hc) <;> (try exact Zf))) | (refine G.atBin ?_; first | (refine G.atEql ?_; first | refine G.op rfl rfl ?_ | refine G.eqStr rfl rfl rfl ?_)) | refine G.op rfl rfl ?_ | (refine G.atLoad ?_; first | refine G.loadOwnA rfl (tyy rfl) rfl rfl Za rfl rfl ?_) | (refine G.atSto ?_; refine G.storeOwn rfl rfl (tyy rfl) Za rfl rfl rfl rfl ?_) | (refine G.atAlc ?_; refine G.alloc (tyy rfl) rfl rfl ?_; intro _))
  all_goals first | (exfalso; omega) | (exfalso; simp_all; done) | exact G.done1 rfl rfl [] (SubH.nil _) (by first | rfl | simp) | skip
  all_goals trace_state
end Go.Proofs.YtibkffoeioidlaaDoor
