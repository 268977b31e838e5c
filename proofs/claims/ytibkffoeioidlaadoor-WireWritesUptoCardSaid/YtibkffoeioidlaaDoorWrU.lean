/- wire.element: a search's element. -/
import Derived.Test.YtibkffoeioidlaaDoorWrS
namespace Go.Proofs.YtibkffoeioidlaaDoor
set_option linter.all false
set_option maxRecDepth 4000
open Go.RowKit

theorem wire_inB {b : Bool} (n lo hi : Int) (hb : inM n lo hi = b) (h : Heap) : Spec Tryd.prog 42 [.int .i64 n, .int .i64 lo, .int .i64 hi] h [] (fun u _ H' => u = .bool b /\ H' = []) := by
  rw [<- hb]; exact wire_in n lo hi h
set_option maxRecDepth 8000 in
set_option maxHeartbeats 8000000 in
theorem wire_el3 : ElSpec 3 := by
  intro m hop hI hw pv kv nv av mv cv h hT hV
  obtain ⟨⟨pA, pn, pc, rfl⟩, ⟨kA, kn, kc, rfl⟩, ⟨nA, nn, nc, rfl⟩, ⟨aA, an, ac, rfl⟩, ⟨mA, mn, mc, rfl⟩, ⟨cA, cn, cc, rfl⟩⟩ := hV.forms
  have i1 := hI.scope
  have i2 := hI.deref
  have i3 := hI.size
  have i4 := hI.time
  have hfl := hV.fl
  have hnm := hV.names
  clear hV hI
  unfold Ms.wt at hw
  obtain ⟨id, op, dn, ver, sasl, mech, text, scope, deref, size, time, types, fl, names, attrs, mods, rdn, delOld, hasSup, sup, attr, target, oid, has, value, code, matched, ctls⟩ := m
  simp only at hop hw i1 i2 i3 i4 hfl hnm
  subst hop
  have hTag : ∀ h, TabW h -> Spec Tryd.prog 43 [.int .i64 3] h [] (fun u _ H' => u = .int .i64 99 /\ H' = []) := fun h hT => wire_tag 3 h hT
  have hAs := fun gc h hf => wire_asked fl.sz fl (Nat.le_refl _) (by omega) 0 (by omega) gc (flR fl (.slice pA pn pc) (.slice kA kn kc)) h hf
  have w1 := wt_num 10 scope
  have w2 := wt_num 10 deref
  have w3 := wt_num 2 size
  have w4 := wt_num 2 time
  have hbl := bsW_len names
  have hnl : (txtsN names).length = names.length := by simp [txtsN]
  have hwt := wt_txts names
  have hok : okM ⟨id, 3, dn, ver, sasl, mech, text, scope, deref, size, time, types, fl, names, attrs, mods, rdn, delOld, hasSup, sup, attr, target, oid, has, value, code, matched, ctls⟩ = ((askM 0 fl).isSome && (inM scope 0 2 && (inM deref 0 3 && (inM size 0 2147483647 && inM time 0 2147483647)))) := rfl
  have hel : elemM ⟨id, 3, dn, ver, sasl, mech, text, scope, deref, size, time, types, fl, names, attrs, mods, rdn, delOld, hasSup, sup, attr, target, oid, has, value, code, matched, ctls⟩ = sqN 99 [txtN dn, numN 10 scope, numN 10 deref, numN 2 size, numN 2 time, truN types, flN fl, sqN 48 (txtsN names)] := rfl
  rw [hok, hel]
  clear hok hel
  refine Spec.enter Tryd.func44 rfl rfl ?_; intro w0
  refine G.nilRow 90 3 ?_
  repeat' (first | (show G _ (.ops .seq _ (⟨some _, .call { callee := .value (.func 43), args := _, argTypes := _ }, _, _, _, none⟩ :: _) :: _) _ _ _; refine G.call callTagW rfl rfl (hTag _ (hT.mono (by solve | repeat first | assumption | exact Zr _ | refine Zq ?_ Zp))) Ze ?_; rintro _ h2 H2 ⟨rfl, rfl⟩ hle2) | (show G _ (.ops .seq _ (⟨some _, .call { callee := .value (.func 72), args := _, argTypes := _ }, _, _, _, none⟩ :: _) :: _) _ _ _; refine G.call callAsked rfl rfl (hAs _ _ (FlC.mono (by solve | repeat first | assumption | exact Zr _ | refine Zq ?_ Zp) _ _ hfl)) Ze ?_; rintro _ h4 H4 ⟨t9, d9, A9, m9, c9, n9, b9, nd9, rfl, rfl, hw9, hf9, hres⟩ hle4; refine Hold.out ?_) | (refine G.atCode ?_; first | refine G.seq ?_ | refine G.region ?_ | refine G.block ?_ | (refine G.cond rfl ?_ ?_ <;> intro hc <;> (try simp only [tests, reduceCtorEq] at hc) <;> (try exact Zf))) | refine G.endOps ?_ | (refine G.atBin ?_; first | (refine G.atEql ?_; first | refine G.op rfl rfl ?_)) | refine G.op rfl rfl ?_ | (refine G.atLoad ?_; first | refine G.loadOwn1 rfl (tyy rfl) rfl rfl Za rfl rfl ?_ | refine G.loadOwnA rfl (tyy rfl) rfl rfl Za rfl rfl ?_) | (refine G.atFld ?_; first | refine G.fieldAddr rfl (tyy rfl) rfl rfl ?_) | (refine G.atSto ?_; refine G.storeOwn rfl rfl (tyy rfl) Za rfl rfl rfl rfl ?_) | (refine G.atAlc ?_; refine G.alloc (tyy rfl) rfl rfl ?_; intro _) | (refine G.atBox ?_; refine G.box rfl rfl rfl ?_; intro _))
  all_goals first | (exfalso; omega) | skip
  refine ⟨?_⟩
  obtain ⟨hokb, hnd⟩ : (askM 0 fl).isSome = b9 /\ (b9 = true -> nd9 = flN fl) := by
    rcases hres with ⟨rfl, ho, rfl⟩ | ⟨rfl, ho⟩
    . exact ⟨by rw [ho]; rfl, fun _ => rfl⟩
    . exact ⟨by rw [ho]; rfl, fun e => by cases e⟩
  rw [hokb]
  clear hokb hres
  generalize hq1 : inM scope 0 2 = q1
  generalize hq2 : inM deref 0 3 = q2
  generalize hq3 : inM size 0 2147483647 = q3
  generalize hq4 : inM time 0 2147483647 = q4
  repeat' (first | (refine G.atAny ?_; first | refine G.anyAutoX slB rfl rfl Zw (by solve | exact Heap.none_le _ | assumption | exact Zr _ | (repeat first | assumption | exact Zr _ | refine Zq ?_ Zp)) Zd ?_ | refine G.anyKeep slB rfl Zw (by solve | exact Heap.none_le _ | assumption | exact Zr _ | (repeat first | assumption | exact Zr _ | refine Zq ?_ Zp)) Zu ?_ | refine G.anyOne rfl Zw (by solve | exact Heap.none_le _ | assumption | exact Zr _ | (repeat first | assumption | exact Zr _ | refine Zq ?_ Zp)) Zu ?_ | refine G.anyEndX Zw ?_) | (show G _ (.ops .seq _ (⟨some _, .call { callee := .value (.func 42), args := _, argTypes := _ }, _, _, _, none⟩ :: _) :: _) _ _ _; refine G.call callInW rfl rfl (wire_inB _ _ _ hq1 _) Ze ?_; rintro _ h2 H2 ⟨rfl, rfl⟩ hle2) | (show G _ (.ops .seq _ (⟨some _, .call { callee := .value (.func 42), args := _, argTypes := _ }, _, _, _, none⟩ :: _) :: _) _ _ _; refine G.call callInW rfl rfl (wire_inB _ _ _ hq2 _) Ze ?_; rintro _ h2 H2 ⟨rfl, rfl⟩ hle2) | (show G _ (.ops .seq _ (⟨some _, .call { callee := .value (.func 42), args := _, argTypes := _ }, _, _, _, none⟩ :: _) :: _) _ _ _; refine G.call callInW rfl rfl (wire_inB _ _ _ hq3 _) Ze ?_; rintro _ h2 H2 ⟨rfl, rfl⟩ hle2) | (show G _ (.ops .seq _ (⟨some _, .call { callee := .value (.func 42), args := _, argTypes := _ }, _, _, _, none⟩ :: _) :: _) _ _ _; refine G.call callInW rfl rfl (wire_inB _ _ _ hq4 _) Ze ?_; rintro _ h2 H2 ⟨rfl, rfl⟩ hle2) | (show G _ (.ops .seq _ (⟨some _, .call { callee := .value (.func 45), args := _, argTypes := _ }, _, _, _, none⟩ :: _) :: _) _ _ _; refine G.call callNumN rfl rfl (wire_numN _ _ Zp _) Ze ?_; rintro _ h2 H2 ⟨rfl, rfl⟩ hle2) | (show G _ (.ops .seq _ (⟨some _, .call { callee := .value (.func 46), args := _, argTypes := _ }, _, _, _, none⟩ :: _) :: _) _ _ _; refine G.call callTextN rfl rfl (wire_textN _ _) Ze ?_; rintro _ h2 H2 ⟨rfl, rfl⟩ hle2) | (show G _ (.ops .seq _ (⟨some _, .call { callee := .value (.func 47), args := _, argTypes := _ }, _, _, _, none⟩ :: _) :: _) _ _ _; refine G.call callTruN rfl rfl (wire_truN _ _) Ze ?_; rintro _ h2 H2 ⟨rfl, rfl⟩ hle2) | (show G _ (.ops .seq _ (⟨some _, .call { callee := .value (.func 73), args := _, argTypes := _ }, _, _, _, none⟩ :: _) :: _) _ _ _; refine G.call callTextsN rfl rfl (wire_textsN names _ (by omega) _ (hnm.mono (by solve | repeat first | assumption | exact Zr _ | refine Zq ?_ Zp))) Ze ?_; rintro _ h2 H2 ⟨⟨tsA, tsc, rfl, htsk⟩, rfl⟩ hle2) | (show G _ (.ops .seq _ (⟨some _, .call { callee := .value (.func 48), args := _, argTypes := _ }, _, _, _, none⟩ :: _) :: _) _ _ _; refine G.call callSeq rfl rfl (tlv_SeqK 48 (txtsN names) (by omega) _ _ (htsk.mono (by solve | repeat first | assumption | exact Zr _ | refine Zq ?_ Zp))) Ze ?_; rintro _ h2 H2 ⟨⟨rA, rc, rfl, rk⟩, rfl⟩ hle2) | (refine G.atApp ?_; refine G.appendBlk (news := [[_, _, _], [_, _, _], [_, _, _], [_, _, _], [_, _, _], [_, _, _], [_, _, _], [_, _, _]]) rfl rfl (tyy rfl) (tyy rfl) rfl rfl Za Za rfl rfl (rowed3 rfl) rfl rfl (by simp only [List.length_append, List.length_cons, List.length_nil]; omega) ?_; intro _; refine G.rowForm Take.hd ?_; rintro _ _ rfl) | (show G _ (.ops .seq _ (⟨some _, .call { callee := .value (.func 48), args := _, argTypes := _ }, _, _, _, none⟩ :: _) :: _) _ _ _; refine G.freezeRow (sz := 3) (e := 90) Za ?_; intro hf1 hlf1 hsf1; refine G.call callSeq rfl rfl (tlv_SeqK 99 [txtN dn, numN 10 scope, numN 10 deref, numN 2 size, numN 2 time, truN types, nd9, sqN 48 (txtsN names)] (by simp only [wts, wt_txt, wt_sq, wt_lf, wt_tru]; omega) _ _ ⟨_, hsf1, (KidsC.of1 (lf_C _ 4 dn) (KidsC.of1 (lf_C _ 10 (intB scope)) (KidsC.of1 (lf_C _ 10 (intB deref)) (KidsC.of1 (lf_C _ 2 (intB size)) (KidsC.of1 (lf_C _ 2 (intB time)) (KidsC.of1 (lf_C _ 1 (if types = true then [255] else [0])) (KidsC.of1 (NodeC.mono (by solve | repeat first | assumption | exact Zr _ | refine Zq ?_ Zp) _ _ hf9) (KidsC.of1 (seq_node (rk.mono (by solve | repeat first | assumption | exact Zr _ | refine Zq ?_ Zp))) (KidsC.nil_ _)))))))))⟩) Ze ?_; rintro _ h2 H2 ⟨⟨qA, qc, rfl, qk⟩, rfl⟩ hle2) | (refine G.atCode ?_; first | refine G.seq ?_ | refine G.region ?_ | refine G.anyIn mixedOk ?_ | refine G.ret ?_) | refine G.endOps ?_ | refine G.endHeld ?_ | refine G.back ?_ | refine G.endBlk ?_ | (refine G.atGd ?_; first | refine G.guardYes rfl rfl ?_ | refine G.guardNoS rfl rfl rfl ?_ | (refine G.guardS rfl rfl rfl ?_ ?_ <;> intro hc <;> (try simp only [tests, reduceCtorEq] at hc) <;> (try exact Zf))) | refine G.op rfl rfl ?_ | (refine G.atLoad ?_; first | refine G.loadOwn1 rfl (tyy rfl) rfl rfl Za rfl rfl ?_ | refine G.loadOwnA rfl (tyy rfl) rfl rfl Za rfl rfl ?_) | (refine G.atFld ?_; first | refine G.fieldAddr rfl (tyy rfl) rfl rfl ?_) | (refine G.atSto ?_; refine G.storeOwn rfl rfl (tyy rfl) Za rfl rfl rfl rfl ?_) | (refine G.atAlc ?_; refine G.alloc (tyy rfl) rfl rfl ?_; intro _) | (refine G.atBsl ?_; refine G.buildSlice (tyy rfl) (tyy rfl) rfl rfl rfl rfl ?_; intro _))
  all_goals first | (exfalso; omega) | skip
  all_goals exact G.done (rs := [.cell 2 90, .tmp 3]) rfl (.cellA rfl (tyy rfl) rfl rfl Za rfl (.tmp rfl .nil)) rfl [] (SubH.nil _) ⟨ElN.mk3 (by simp_all) (seq_node (ks := [txtN dn, numN 10 scope, numN 10 deref, numN 2 size, numN 2 time, truN types, nd9, sqN 48 (txtsN names)]) (qk.mono (by solve | repeat first | assumption | exact Zr _ | refine Zq ?_ Zp))) (fun e => by
    simp only [Bool.and_eq_true] at e
    rw [hnd e.1]), rfl⟩
end Go.Proofs.YtibkffoeioidlaaDoor
