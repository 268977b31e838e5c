/- castellanref11.Op: an operation's element (those without lists). -/
import Derived.Test.YtibkffoeioidlaaDoorXaK
namespace Go.Proofs.YtibkffoeioidlaaDoor
set_option linter.all false
set_option maxRecDepth 4000
open Go.RowKit

theorem callOp11 : Callable Tryd.prog 51 := ⟨_, Tryd.func51, by kernel_rfl, rfl⟩
abbrev Op11 (op : Int) : Prop := ∀ (m : Ms) (_ : m.op = op) (_ : MsI m) (_ : m.wt <= 10000000) (pv kv nv av mv cv : Value) (h : Heap) (_ : MsV h m pv kv nv av mv cv),
    Spec Tryd.prog 51 [.agg (msR m pv kv nv av mv cv).toArray] h [] (fun u h' H' => ElN (elemM m) (okM m) u h' /\ H' = [])
theorem nb (x : Bool) : (!(false || !x)) = x := by cases x <;> rfl
set_option maxRecDepth 8000 in
set_option maxHeartbeats 16000000 in
theorem ref11_op0 : Op11 0 := by
  intro m hop hI hw pv kv nv av mv cv h hV
  obtain ⟨⟨pA, pn, pc, rfl⟩, ⟨kA, kn, kc, rfl⟩, ⟨nA, nn, nc, rfl⟩, ⟨aA, an, ac, rfl⟩, ⟨mA, mn, mc, rfl⟩, ⟨cA, cn, cc, rfl⟩⟩ := hV.forms
  clear hV
  have hiv := hI.ver
  have hic := hI.code
  have hit := hI.target
  clear hI
  unfold Ms.wt at hw
  obtain ⟨id, op9, dn, ver, sasl, mech, text, scope, deref, size, time, types, fl, names, attrs, mods, rdn, delOld, hasSup, sup, attr, target, oid, has, value, code, matched, ctls⟩ := m
  simp only at hop hw hiv hic hit
  subst hop
  cases sasl
  case' true => cases has
  all_goals (
    refine Spec.enter Tryd.func51 rfl rfl ?_; intro w0
    refine G.nilRow 90 3 ?_
    repeat' (first | (refine G.atAny ?_; first | refine G.anyAutoX slB rfl rfl Zw (by solve | exact Heap.none_le _ | assumption | exact Zr _ | (repeat first | assumption | exact Zr _ | refine Zq ?_ Zp)) Zd ?_ | refine G.anyKeep slB rfl Zw (by solve | exact Heap.none_le _ | assumption | exact Zr _ | (repeat first | assumption | exact Zr _ | refine Zq ?_ Zp)) Zu ?_ | refine G.anyOne rfl Zw (by solve | exact Heap.none_le _ | assumption | exact Zr _ | (repeat first | assumption | exact Zr _ | refine Zq ?_ Zp)) Zu ?_ | refine G.anyEndX Zw ?_) | (show G _ (.ops .seq _ (⟨some _, .call { callee := .value (.func 50), args := _, argTypes := _ }, _, _, _, none⟩ :: _) :: _) _ _ _; refine G.call callTagR rfl rfl (ref11_Tag _ _) Ze ?_; rintro _ h2 H2 ⟨rfl, rfl⟩ hle2) | (show G _ (.ops .seq _ (⟨some _, .call { callee := .value (.func 53), args := _, argTypes := _ }, _, _, _, none⟩ :: _) :: _) _ _ _; refine G.callT callFput rfl rfl Ze (form_putN _ _ _ _ _ _ _ _ (by rfl) (by first | (simp only [List.length_append, List.length_cons, List.length_nil] <;> omega) | omega) _) ?_; rintro _ h2 H2 ⟨rfl, _, _, rfl⟩ hle2) | (show G _ (.ops .seq _ (⟨some _, .call { callee := .value (.func 77), args := _, argTypes := _ }, _, _, _, none⟩ :: _) :: _) _ _ _; refine G.callT callFnum rfl rfl Ze (form_numN _ _ _ _ _ Zp _ _ _ _ _ (by rfl) (by first | (simp only [List.length_append, List.length_cons, List.length_nil] <;> omega) | omega) _) ?_; rintro _ h2 H2 ⟨rfl, _, _, rfl⟩ hle2) | (show G _ (.ops .seq _ (⟨some _, .call { callee := .value (.func 78), args := _, argTypes := _ }, _, _, _, none⟩ :: _) :: _) _ _ _; refine G.callT callFlist rfl rfl Ze (form_listN _ _ _ _ _ _ _ _ _ _ (by rfl) (by first | (simp only [List.length_append, List.length_cons, List.length_nil] <;> omega) | omega) _) ?_; rintro _ h2 H2 ⟨rfl, _, _, rfl⟩ hle2) | (show G _ (.ops .seq _ (⟨some _, .call { callee := .value (.func 79), args := _, argTypes := _ }, _, _, _, none⟩ :: _) :: _) _ _ _; refine G.call callTwo11 rfl rfl (ref11_two _ _ _) Ze ?_; rintro _ h2 H2 ⟨⟨twA, twc, rfl, rows2, twr, twk⟩, rfl⟩ hle2) | (show G _ (.ops .seq _ (⟨some _, .call { callee := .value (.func 80), args := _, argTypes := _ }, _, _, _, none⟩ :: _) :: _) _ _ _; refine G.freezeBlk (e := 9) Za ?_; intro hf hlf hcf; refine G.call callTexts11 rfl rfl (ref11_texts [mech] _ (by simp) _ (HSl.ofBlk1 (rows := strsR [mech]) (n := 1) hcf (rowed_strs _) rfl (by decide))) Ze ?_; rintro _ h2 H2 ⟨⟨twA, twc, rfl, rows2, twr, twk⟩, rfl⟩ hle2) | (refine G.atCode ?_; first | refine G.seq ?_ | refine G.region ?_ | refine G.block ?_ | refine G.anyIn mixedOk ?_ | refine G.ret ?_ | (refine G.cond rfl ?_ ?_ <;> intro hc <;> (try simp only [tests, reduceCtorEq] at hc) <;> (try exact Zf))) | refine G.endOps ?_ | refine G.endHeld ?_ | refine G.back ?_ | refine G.endBlk ?_ | (refine G.atBin ?_; first | (refine G.atEql ?_; first | refine G.op rfl rfl ?_)) | refine G.op rfl rfl ?_ | (refine G.atLoad ?_; first | refine G.loadOwn1 rfl (tyy rfl) rfl rfl Za rfl rfl ?_ | refine G.loadOwnA rfl (tyy rfl) rfl rfl Za rfl rfl ?_) | (refine G.atFld ?_; first | refine G.fieldAddr rfl (tyy rfl) rfl rfl ?_) | (refine G.atSto ?_; refine G.storeOwn rfl rfl (tyy rfl) Za rfl rfl rfl rfl ?_) | (refine G.atAlc ?_; refine G.alloc (tyy rfl) rfl rfl ?_; intro _) | (refine G.atBox ?_; refine G.box rfl rfl rfl ?_; intro _) | (refine G.atBld ?_; refine G.build (tyy rfl) rfl rfl rfl ?_) | (refine G.atBsl ?_; refine G.buildSlice (tyy rfl) (tyy rfl) rfl rfl rfl rfl ?_; intro _)))
  all_goals first | (exfalso; omega) | (exfalso; simp_all; done) | skip
  all_goals refine G.freezeRow (e := 90) (sz := 3) Za ?_
  all_goals intro h9 hle9 hs9
  all_goals refine G.done (rs := [.cell 2 90, .tmp 3]) rfl (.cellA rfl (tyy rfl) rfl rfl Za rfl (.tmp rfl .nil)) rfl [] (SubH.nil _) ⟨ElN.mk2 (by first | rfl | exact nb _) (NodeC.mk_ hs9 ?_), rfl⟩
  all_goals first
    | exact (KidsC.of1 (lf_C _ 2 (intB ver)) (KidsC.of1 (lf_C _ 4 dn) (KidsC.of1 (lf_C _ 128 text) (KidsC.nil_ _))))
    | exact (KidsC.of1 (lf_C _ 2 (intB ver)) (KidsC.of1 (lf_C _ 4 dn) (KidsC.of1 (NodeC.mk_ (twr.mono (by solve | repeat first | assumption | exact Zr _ | refine Zq ?_ Zp)) (twk.mono' (by solve | repeat first | assumption | exact Zr _ | refine Zq ?_ Zp))) (KidsC.nil_ _))))
set_option maxRecDepth 8000 in
set_option maxHeartbeats 16000000 in
theorem ref11_op2 : Op11 2 := by
  intro m hop hI hw pv kv nv av mv cv h hV
  obtain ⟨⟨pA, pn, pc, rfl⟩, ⟨kA, kn, kc, rfl⟩, ⟨nA, nn, nc, rfl⟩, ⟨aA, an, ac, rfl⟩, ⟨mA, mn, mc, rfl⟩, ⟨cA, cn, cc, rfl⟩⟩ := hV.forms
  clear hV
  have hiv := hI.ver
  have hic := hI.code
  have hit := hI.target
  clear hI
  unfold Ms.wt at hw
  obtain ⟨id, op9, dn, ver, sasl, mech, text, scope, deref, size, time, types, fl, names, attrs, mods, rdn, delOld, hasSup, sup, attr, target, oid, has, value, code, matched, ctls⟩ := m
  simp only at hop hw hiv hic hit
  subst hop
  all_goals (
    refine Spec.enter Tryd.func51 rfl rfl ?_; intro w0
    repeat' (first | (show G _ (.ops .seq _ (⟨some _, .call { callee := .value (.func 50), args := _, argTypes := _ }, _, _, _, none⟩ :: _) :: _) _ _ _; refine G.call callTagR rfl rfl (ref11_Tag _ _) Ze ?_; rintro _ h2 H2 ⟨rfl, rfl⟩ hle2) | (refine G.atCode ?_; first | refine G.seq ?_ | refine G.region ?_ | refine G.block ?_ | refine G.ret ?_ | (refine G.cond rfl ?_ ?_ <;> intro hc <;> (try simp only [tests, reduceCtorEq] at hc) <;> (try exact Zf))) | refine G.endOps ?_ | (refine G.atBin ?_; first | (refine G.atEql ?_; first | refine G.op rfl rfl ?_)) | refine G.op rfl rfl ?_ | (refine G.atLoad ?_; first | refine G.loadOwn1 rfl (tyy rfl) rfl rfl Za rfl rfl ?_ | refine G.loadOwnA rfl (tyy rfl) rfl rfl Za rfl rfl ?_) | (refine G.atFld ?_; first | refine G.fieldAddr rfl (tyy rfl) rfl rfl ?_) | (refine G.atSto ?_; refine G.storeOwn rfl rfl (tyy rfl) Za rfl rfl rfl rfl ?_) | (refine G.atAlc ?_; refine G.alloc (tyy rfl) rfl rfl ?_; intro _) | (refine G.atBox ?_; refine G.box rfl rfl rfl ?_; intro _) | (refine G.atBld ?_; refine G.build (tyy rfl) rfl rfl rfl ?_)))
  all_goals first | (exfalso; omega) | (exfalso; simp_all; done) | skip
  all_goals first
    | exact G.done (rs := [.cell 2 90, .tmp 3]) rfl (.cellA rfl (tyy rfl) rfl rfl Za rfl (.tmp rfl .nil)) rfl [] (SubH.nil _) ⟨ElN.mk2 (rfl) (lf_C _ 66 []), rfl⟩
set_option maxRecDepth 8000 in
set_option maxHeartbeats 16000000 in
theorem ref11_opL {op : Int} (hop1 : op = 10 \/ op = 16) : Op11 op := by
  intro m hop hI hw pv kv nv av mv cv h hV
  obtain ⟨⟨pA, pn, pc, rfl⟩, ⟨kA, kn, kc, rfl⟩, ⟨nA, nn, nc, rfl⟩, ⟨aA, an, ac, rfl⟩, ⟨mA, mn, mc, rfl⟩, ⟨cA, cn, cc, rfl⟩⟩ := hV.forms
  clear hV
  have hiv := hI.ver
  have hic := hI.code
  have hit := hI.target
  clear hI
  unfold Ms.wt at hw
  obtain ⟨id, op9, dn, ver, sasl, mech, text, scope, deref, size, time, types, fl, names, attrs, mods, rdn, delOld, hasSup, sup, attr, target, oid, has, value, code, matched, ctls⟩ := m
  simp only at hop hw hiv hic hit
  subst hop
  rcases hop1 with rfl | rfl
  all_goals (
    refine Spec.enter Tryd.func51 rfl rfl ?_; intro w0
    repeat' (first | (refine G.atAny ?_; first | refine G.anyAutoX slB rfl rfl Zw (by solve | exact Heap.none_le _ | assumption | exact Zr _ | (repeat first | assumption | exact Zr _ | refine Zq ?_ Zp)) Zd ?_ | refine G.anyKeep slB rfl Zw (by solve | exact Heap.none_le _ | assumption | exact Zr _ | (repeat first | assumption | exact Zr _ | refine Zq ?_ Zp)) Zu ?_ | refine G.anyOne rfl Zw (by solve | exact Heap.none_le _ | assumption | exact Zr _ | (repeat first | assumption | exact Zr _ | refine Zq ?_ Zp)) Zu ?_ | refine G.anyEndX Zw ?_) | (show G _ (.ops .seq _ (⟨some _, .call { callee := .value (.func 50), args := _, argTypes := _ }, _, _, _, none⟩ :: _) :: _) _ _ _; refine G.call callTagR rfl rfl (ref11_Tag _ _) Ze ?_; rintro _ h2 H2 ⟨rfl, rfl⟩ hle2) | (show G _ (.ops .seq _ (⟨some _, .call { callee := .value (.func 52), args := _, argTypes := _ }, _, _, _, none⟩ :: _) :: _) _ _ _; refine G.call callRInt rfl rfl (ref_Int _ Zp _) Ze ?_; rintro _ h2 H2 ⟨rfl, rfl⟩ hle2) | (refine G.atCode ?_; first | refine G.seq ?_ | refine G.region ?_ | refine G.block ?_ | refine G.anyIn mixedOk ?_ | refine G.ret ?_ | (refine G.cond rfl ?_ ?_ <;> intro hc <;> (try simp only [tests, reduceCtorEq] at hc) <;> (try exact Zf))) | refine G.endOps ?_ | refine G.endHeld ?_ | refine G.back ?_ | (refine G.atGd ?_; first | refine G.guardYes rfl rfl ?_ | refine G.guardNoS rfl rfl rfl ?_ | (refine G.guardS rfl rfl rfl ?_ ?_ <;> intro hc <;> (try simp only [tests, reduceCtorEq] at hc) <;> (try exact Zf))) | (refine G.atBin ?_; first | (refine G.atEql ?_; first | refine G.op rfl rfl ?_) | refine G.op rfl rfl ?_) | refine G.op rfl rfl ?_ | (refine G.atLoad ?_; first | refine G.loadOwn1 rfl (tyy rfl) rfl rfl Za rfl rfl ?_ | refine G.loadOwnA rfl (tyy rfl) rfl rfl Za rfl rfl ?_) | (refine G.atFld ?_; first | refine G.fieldAddr rfl (tyy rfl) rfl rfl ?_) | (refine G.atSto ?_; refine G.storeOwn rfl rfl (tyy rfl) Za rfl rfl rfl rfl ?_) | (refine G.atAlc ?_; refine G.alloc (tyy rfl) rfl rfl ?_; intro _) | (refine G.atBox ?_; refine G.box rfl rfl rfl ?_; intro _) | (refine G.atBld ?_; refine G.build (tyy rfl) rfl rfl rfl ?_)))
  all_goals first | (exfalso; omega) | (exfalso; simp_all; done) | skip
  all_goals first
    | exact G.done (rs := [.cell 2 90, .tmp 3]) rfl (.cellA rfl (tyy rfl) rfl rfl Za rfl (.tmp rfl .nil)) rfl [] (SubH.nil _) ⟨ElN.mk2 (rfl) (lf_C _ 74 dn), rfl⟩
    | exact G.done (rs := [.cell 2 90, .tmp 3]) rfl (.cellA rfl (tyy rfl) rfl rfl Za rfl (.tmp rfl .nil)) rfl [] (SubH.nil _) ⟨ElN.mk2 (by show _ = inM target 0 2147483647; simp [inM] <;> omega) (lf_C _ 80 (intB target)), rfl⟩
set_option maxRecDepth 8000 in
set_option maxHeartbeats 16000000 in
theorem ref11_opS {op : Int} (hop1 : op = 12 \/ op = 14 \/ op = 23 \/ op = 24 \/ op = 1 \/ op = 5 \/ op = 7 \/ op = 9 \/ op = 11 \/ op = 13 \/ op = 15) : Op11 op := by
  intro m hop hI hw pv kv nv av mv cv h hV
  obtain ⟨⟨pA, pn, pc, rfl⟩, ⟨kA, kn, kc, rfl⟩, ⟨nA, nn, nc, rfl⟩, ⟨aA, an, ac, rfl⟩, ⟨mA, mn, mc, rfl⟩, ⟨cA, cn, cc, rfl⟩⟩ := hV.forms
  clear hV
  have hiv := hI.ver
  have hic := hI.code
  have hit := hI.target
  clear hI
  unfold Ms.wt at hw
  obtain ⟨id, op9, dn, ver, sasl, mech, text, scope, deref, size, time, types, fl, names, attrs, mods, rdn, delOld, hasSup, sup, attr, target, oid, has, value, code, matched, ctls⟩ := m
  simp only at hop hw hiv hic hit
  subst hop
  rcases hop1 with rfl | rfl | rfl | rfl | rfl | rfl | rfl | rfl | rfl | rfl | rfl
  case' inl => cases hasSup
  case' inr.inr.inl => cases has
  case' inr.inr.inr.inl => rcases oid with _ | ⟨oc, os⟩ <;> cases has
  all_goals (
    refine Spec.enter Tryd.func51 rfl rfl ?_; intro w0
    refine G.nilRow 90 3 ?_
    repeat' (first | (refine G.atAny ?_; first | refine G.anyAutoX slB rfl rfl Zw (by solve | exact Heap.none_le _ | assumption | exact Zr _ | (repeat first | assumption | exact Zr _ | refine Zq ?_ Zp)) Zd ?_ | refine G.anyKeep slB rfl Zw (by solve | exact Heap.none_le _ | assumption | exact Zr _ | (repeat first | assumption | exact Zr _ | refine Zq ?_ Zp)) Zu ?_ | refine G.anyOne rfl Zw (by solve | exact Heap.none_le _ | assumption | exact Zr _ | (repeat first | assumption | exact Zr _ | refine Zq ?_ Zp)) Zu ?_ | refine G.anyEndX Zw ?_) | (show G _ (.ops .seq _ (⟨some _, .call { callee := .value (.func 50), args := _, argTypes := _ }, _, _, _, none⟩ :: _) :: _) _ _ _; refine G.call callTagR rfl rfl (ref11_Tag _ _) Ze ?_; rintro _ h2 H2 ⟨rfl, rfl⟩ hle2) | (show G _ (.ops .seq _ (⟨some _, .call { callee := .value (.func 53), args := _, argTypes := _ }, _, _, _, none⟩ :: _) :: _) _ _ _; refine G.callT callFput rfl rfl Ze (form_putN _ _ _ _ _ _ _ _ (by rfl) (by first | (simp only [List.length_append, List.length_cons, List.length_nil] <;> omega) | omega) _) ?_; rintro _ h2 H2 ⟨rfl, _, _, rfl⟩ hle2) | (show G _ (.ops .seq _ (⟨some _, .call { callee := .value (.func 77), args := _, argTypes := _ }, _, _, _, none⟩ :: _) :: _) _ _ _; refine G.callT callFnum rfl rfl Ze (form_numN _ _ _ _ _ Zp _ _ _ _ _ (by rfl) (by first | (simp only [List.length_append, List.length_cons, List.length_nil] <;> omega) | omega) _) ?_; rintro _ h2 H2 ⟨rfl, _, _, rfl⟩ hle2) | (show G _ (.ops .seq _ (⟨some _, .call { callee := .value (.func 54), args := _, argTypes := _ }, _, _, _, none⟩ :: _) :: _) _ _ _; refine G.callT callFtruth rfl rfl Ze (form_truthN _ _ _ _ _ _ _ (by rfl) (by first | (simp only [List.length_append, List.length_cons, List.length_nil] <;> omega) | omega) _) ?_; rintro _ h2 H2 ⟨rfl, _, _, rfl⟩ hle2) | (show G _ (.ops .seq _ (⟨some _, .call { callee := .value (.func 78), args := _, argTypes := _ }, _, _, _, none⟩ :: _) :: _) _ _ _; refine G.callT callFlist rfl rfl Ze (form_listN _ _ _ _ _ _ _ _ _ _ (by rfl) (by first | (simp only [List.length_append, List.length_cons, List.length_nil] <;> omega) | omega) _) ?_; rintro _ h2 H2 ⟨rfl, _, _, rfl⟩ hle2) | (show G _ (.ops .seq _ (⟨some _, .call { callee := .value (.func 79), args := _, argTypes := _ }, _, _, _, none⟩ :: _) :: _) _ _ _; refine G.call callTwo11 rfl rfl (ref11_two _ _ _) Ze ?_; rintro _ h2 H2 ⟨⟨twA, twc, rfl, rows2, twr, twk⟩, rfl⟩ hle2) | (refine G.atCode ?_; first | refine G.seq ?_ | refine G.region ?_ | refine G.block ?_ | refine G.skip ?_ | refine G.anyIn mixedOk ?_ | refine G.ret ?_ | (refine G.cond rfl ?_ ?_ <;> intro hc <;> (try simp only [tests, reduceCtorEq] at hc) <;> (try exact Zf))) | refine G.endOps ?_ | refine G.endHeld ?_ | refine G.back ?_ | refine G.endBlk ?_ | (refine G.atGd ?_; first | refine G.guardYes rfl rfl ?_ | refine G.guardNoS rfl rfl rfl ?_) | (refine G.atBin ?_; first | (refine G.atEql ?_; first | refine G.op rfl rfl ?_) | (refine G.atNeq ?_; first | refine G.neStr0 rfl rfl rfl ?_)) | refine G.op rfl rfl ?_ | (refine G.atLoad ?_; first | refine G.loadOwn1 rfl (tyy rfl) rfl rfl Za rfl rfl ?_ | refine G.loadOwnA rfl (tyy rfl) rfl rfl Za rfl rfl ?_) | (refine G.atFld ?_; first | refine G.fieldAddr rfl (tyy rfl) rfl rfl ?_) | (refine G.atSto ?_; refine G.storeOwn rfl rfl (tyy rfl) Za rfl rfl rfl rfl ?_) | (refine G.atAlc ?_; refine G.alloc (tyy rfl) rfl rfl ?_; intro _) | (refine G.atBox ?_; refine G.box rfl rfl rfl ?_; intro _) | (refine G.atBld ?_; refine G.build (tyy rfl) rfl rfl rfl ?_)))
  all_goals first | (exfalso; omega) | (exfalso; simp_all; done) | skip
  all_goals refine G.freezeRow (e := 90) (sz := 3) Za ?_
  all_goals intro h9 hle9 hs9
  all_goals refine G.done (rs := [.cell 2 90, .tmp 3]) rfl (.cellA rfl (tyy rfl) rfl rfl Za rfl (.tmp rfl .nil)) rfl [] (SubH.nil _) ⟨ElN.mk2 (by first | rfl | exact nb _) (NodeC.mk_ hs9 ?_), rfl⟩
  all_goals first
    | exact (KidsC.of1 (lf_C _ 4 dn) (KidsC.of1 (lf_C _ 4 rdn) (KidsC.of1 (lf_C _ 1 (if delOld = true then [255] else [0])) (KidsC.nil_ _))))
    | exact (KidsC.of1 (lf_C _ 4 dn) (KidsC.of1 (lf_C _ 4 rdn) (KidsC.of1 (lf_C _ 1 (if delOld = true then [255] else [0])) (KidsC.of1 (lf_C _ 128 sup) (KidsC.nil_ _)))))
    | exact (KidsC.of1 (lf_C _ 4 dn) (KidsC.of1 (NodeC.mk_ (twr.mono (by solve | repeat first | assumption | exact Zr _ | refine Zq ?_ Zp)) (twk.mono' (by solve | repeat first | assumption | exact Zr _ | refine Zq ?_ Zp))) (KidsC.nil_ _)))
    | exact (KidsC.of1 (lf_C _ 128 oid) (KidsC.nil_ _))
    | exact (KidsC.of1 (lf_C _ 128 oid) (KidsC.of1 (lf_C _ 129 value) (KidsC.nil_ _)))
    | exact (KidsC.of1 (lf_C _ 10 (intB code)) (KidsC.of1 (lf_C _ 4 matched) (KidsC.of1 (lf_C _ 4 text) (KidsC.nil_ _))))
    | exact (KidsC.of1 (lf_C _ 10 (intB code)) (KidsC.of1 (lf_C _ 4 matched) (KidsC.of1 (lf_C _ 4 text) (KidsC.of1 (lf_C _ 139 value) (KidsC.nil_ _)))))
    | exact (KidsC.of1 (lf_C _ 10 (intB code)) (KidsC.of1 (lf_C _ 4 matched) (KidsC.of1 (lf_C _ 4 text) (KidsC.of1 (lf_C _ 138 (oc :: os)) (KidsC.nil_ _)))))
    | exact (KidsC.of1 (lf_C _ 10 (intB code)) (KidsC.of1 (lf_C _ 4 matched) (KidsC.of1 (lf_C _ 4 text) (KidsC.of1 (lf_C _ 138 (oc :: os)) (KidsC.of1 (lf_C _ 139 value) (KidsC.nil_ _))))))
end Go.Proofs.YtibkffoeioidlaaDoor
