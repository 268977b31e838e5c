/- wire.element: lists of attributes. -/
import Derived.Test.YtibkffoeioidlaaDoorWrU
import Derived.Test.YtibkffoeioidlaaDoorWrL
namespace Go.Proofs.YtibkffoeioidlaaDoor
set_option linter.all false
set_option maxRecDepth 4000
open Go.RowKit

theorem qA8s (x : Atr) : qA 8 x = decide (((strsR x.2).length : Int) > 0) := by
  rw [strsR_length]
  exact qA8 x.1 x.2
set_option maxRecDepth 8000 in
set_option maxHeartbeats 8000000 in
theorem wire_el4 : ElSpec 4 := by
  intro m hop hI hw pv kv nv av mv cv h hT hV
  obtain ⟨⟨pA, pn, pc, rfl⟩, ⟨kA, kn, kc, rfl⟩, ⟨nA, nn, nc, rfl⟩, ⟨aA, an, ac, rfl⟩, ⟨mA, mn, mc, rfl⟩, ⟨cA, cn, cc, rfl⟩⟩ := hV.forms
  have hat := hV.attrs
  have hmd := hI.mds
  clear hV hI
  unfold Ms.wt at hw
  obtain ⟨id, op, dn, ver, sasl, mech, text, scope, deref, size, time, types, fl, names, attrs, mods, rdn, delOld, hasSup, sup, attr, target, oid, has, value, code, matched, ctls⟩ := m
  simp only at hop hw hat hmd
  subst hop
  have hTag : ∀ h, TabW h -> Spec Tryd.prog 43 [.int .i64 4] h [] (fun u _ H' => u = .int .i64 100 /\ H' = []) := fun h hT => wire_tag 4 h hT
  have hall := atrsW_len attrs
  have hwa := wt_attrs attrs
  have hok : okM ⟨id, 4, dn, ver, sasl, mech, text, scope, deref, size, time, types, fl, names, attrs, mods, rdn, delOld, hasSup, sup, attr, target, oid, has, value, code, matched, ctls⟩ = attrs.all (qA 4) := by
    exact (List.all_eq_true.2 fun _ _ => rfl).symm
  have hel : elemM ⟨id, 4, dn, ver, sasl, mech, text, scope, deref, size, time, types, fl, names, attrs, mods, rdn, delOld, hasSup, sup, attr, target, oid, has, value, code, matched, ctls⟩ = sqN 100 [txtN dn, sqN 48 (attrs.map attrN)] := rfl
  rw [hok, hel]
  clear hok hel
  obtain ⟨rowa, sa, ka⟩ := hat
  have hral := ka.len
  obtain ⟨aA', ac', ea, _⟩ := sa.form
  injection ea with _ ean _
  subst ean
  refine Spec.enter Tryd.func44 rfl rfl ?_; intro w0
  repeat' (first | (show G _ (.ops .seq _ (⟨some _, .call { callee := .value (.func 43), args := _, argTypes := _ }, _, _, _, none⟩ :: _) :: _) _ _ _; refine G.call callTagW rfl rfl (hTag _ (hT.mono (by solve | repeat first | assumption | exact Zr _ | refine Zq ?_ Zp))) Ze ?_; rintro _ h2 H2 ⟨rfl, rfl⟩ hle2) | (refine G.atCode ?_; refine G.stopLoop ?_) | (refine G.atCode ?_; first | refine G.seq ?_ | refine G.region ?_ | refine G.block ?_ | refine G.skip ?_ | (refine G.cond rfl ?_ ?_ <;> intro hc <;> (try simp only [tests, reduceCtorEq] at hc) <;> (try exact Zf))) | refine G.endOps ?_ | (refine G.atBin ?_; first | (refine G.atEql ?_; first | refine G.op rfl rfl ?_)) | refine G.op rfl rfl ?_ | (refine G.atLen ?_; first | refine G.lenSlice rfl (tyy rfl) rfl ?_) | (refine G.atLoad ?_; first | refine G.loadOwn1 rfl (tyy rfl) rfl rfl Za rfl rfl ?_) | (refine G.atFld ?_; first | refine G.fieldAddr rfl (tyy rfl) rfl rfl ?_) | (refine G.atAlc ?_; refine G.alloc (tyy rfl) rfl rfl ?_; intro _) | (refine G.atBox ?_; refine G.box rfl rfl rfl ?_; intro _))
  all_goals first | (exfalso; omega) | skip
  rename_i g1 g2 _ _ _ _
  refine G.nilRow 90 3 ?_
  refine G.go ?_
  refine G.loop (σ := Nat × Bool × List (List Value) × Option Addr × Nat) (fun x => [(174, .int .i64 x.1), (173, .int .i64 rowa.length), (172, .slice aA rowa.length ac), (10, .slice x.2.2.2.1 x.2.2.1.length x.2.2.2.2), (6, .slice none 0 0), (5, .bool x.2.1), (4, .int .i64 100), (2, .pointer (some ⟨g2, 0, none⟩)), (1, .pointer (some ⟨g1, 0, none⟩))])
    (fun x => [.blk g1 (msR ⟨id, 4, dn, ver, sasl, mech, text, scope, deref, size, time, types, fl, names, attrs, mods, rdn, delOld, hasSup, sup, attr, target, oid, has, value, code, matched, ctls⟩ (.slice pA pn pc) (.slice kA kn kc) (.slice nA nn nc) (.slice aA rowa.length ac) (.slice mA mn mc) (.slice cA cn cc)) 51, .blk g2 [.int .i64 0, str [], .slice none 0 0] 90, .row (.slice x.2.2.2.1 x.2.2.1.length x.2.2.2.2) 90 3 x.2.2.1])
    (fun x h' => x.1 <= attrs.length /\ x.2.2.1.length = x.1 /\ x.2.1 = (attrs.take x.1).all (qA 4) /\ KidsC h' ((attrs.take x.1).map attrN) x.2.2.1) (fun x => attrs.length - x.1) ⟨0, true, [], none, 0⟩ ⟨rfl, rfl, rfl, rfl, rfl, rfl, rfl, rfl, rfl, trivial⟩ Zu ⟨Nat.zero_le _, rfl, rfl, KidsC.nil_ _⟩ ?_
  rintro ⟨i, okb, rws, A, c⟩ h5 hle5 ⟨hi, hil, hob, hik⟩
  simp only at hi hil hob hik
  refine G.norm (by (try dsimp only) <;> exact rfl) (by (try dsimp only) <;> exact rfl) ?_
  by_cases hlt : i < attrs.length
  . obtain ⟨x, hx⟩ : ∃ x, attrs[i]? = some x := ⟨attrs[i], List.getElem?_eq_getElem hlt⟩
    have hmem := List.mem_of_getElem? hx
    have hxw : atrW x <= atrsW attrs := sum_mem hmem
    unfold atrW at hxw
    obtain ⟨r0, e1, v1, rfl, hs1⟩ := ka.get hx
    obtain ⟨xA, xc, rfl, _, _, _⟩ := hs1.form
    have hl1 : ([str x.1, .slice xA (strsR x.2).length xc] : List Value).length = 2 := rfl
    have hbl := bsW_len x.2
    have hwt := wt_txts x.2
    have hsl1 := strsR_length x.2
    have htl : (txtsN x.2).length = x.2.length := by simp [txtsN]
    repeat' (first | (refine G.atAny ?_; first | refine G.anyAutoX slB rfl rfl Zw (by solve | exact Heap.none_le _ | assumption | exact Zr _ | (repeat first | assumption | exact Zr _ | refine Zq ?_ Zp)) Zd ?_ | refine G.anyKeep slB rfl Zw (by solve | exact Heap.none_le _ | assumption | exact Zr _ | (repeat first | assumption | exact Zr _ | refine Zq ?_ Zp)) Zu ?_ | refine G.anyOne rfl Zw (by solve | exact Heap.none_le _ | assumption | exact Zr _ | (repeat first | assumption | exact Zr _ | refine Zq ?_ Zp)) Zu ?_ | refine G.anyEndX Zw ?_) | (refine G.atIdx ?_; refine G.idxImm rfl rfl (tyy rfl) (tyy rfl) (sa.mono (by solve | repeat first | assumption | exact Zr _ | refine Zq ?_ Zp)) Zj rfl (by omega) ?_; intro p1 r1 hx1 hp1; (rw [e1] at hx1); (obtain rfl := Option.some.inj hx1)) | (show G _ (.ops .seq _ (⟨some _, .call { callee := .value (.func 46), args := _, argTypes := _ }, _, _, _, none⟩ :: _) :: _) _ _ _; refine G.call callTextN rfl rfl (wire_textN _ _) Ze ?_; rintro _ h2 H2 ⟨rfl, rfl⟩ hle2) | (show G _ (.ops .seq _ (⟨some _, .call { callee := .value (.func 73), args := _, argTypes := _ }, _, _, _, none⟩ :: _) :: _) _ _ _; refine G.call callTextsN rfl rfl (wire_textsN x.2 _ (by omega) _ (hs1.mono (by solve | repeat first | assumption | exact Zr _ | refine Zq ?_ Zp))) Ze ?_; rintro _ h2 H2 ⟨⟨tsA, tsc, rfl, htsk⟩, rfl⟩ hle2) | (show G _ (.ops .seq _ (⟨some _, .call { callee := .value (.func 48), args := _, argTypes := _ }, _, _, _, none⟩ :: _) :: _) _ _ _; refine G.call callSeq rfl rfl (tlv_SeqK 49 (txtsN x.2) (by omega) _ _ (htsk.mono (by solve | repeat first | assumption | exact Zr _ | refine Zq ?_ Zp))) Ze ?_; rintro _ h2 H2 ⟨⟨rA, rc, rfl, rk⟩, rfl⟩ hle2) | (show G _ (.ops .seq _ (⟨some _, .call { callee := .value (.func 48), args := _, argTypes := _ }, _, _, _, none⟩ :: _) :: _) _ _ _; refine G.call callSeq rfl rfl (tlv_SeqB 48 [txtN x.1, sqN 49 (txtsN x.2)] (by simp only [wts, wt_txt, wt_sq, wt_lf, wt_tru]; omega) _ _ [lfC 4 x.1, [.int .i64 49, str [], .slice rA (txtsN x.2).length rc]] _ rfl rfl (rowed3 rfl) _ (KidsC.of1 (lf_C _ 4 x.1) (KidsC.of1 (seq_node (rk.mono (by solve | repeat first | assumption | exact Zr _ | refine Zq ?_ Zp))) (KidsC.nil_ _)))) Ze ?_; rintro _ h2 H2 ⟨⟨sA, sc, rfl, sk⟩, rfl⟩ hle2) | (refine G.atApp ?_; refine G.append1 rfl rfl (tyy rfl) (tyy rfl) rfl rfl Za Za rfl rfl rfl Zo ?_; intro _; refine G.rowForm Take.hd ?_; rintro _ _ rfl) | (refine G.atCode ?_; first | refine G.seq ?_ | refine G.region ?_ | refine G.block ?_ | refine G.skip ?_ | refine G.anyIn mixedOk ?_ | (refine G.cond rfl ?_ ?_ <;> intro hc <;> (try simp only [tests, reduceCtorEq] at hc) <;> (try exact Zf))) | refine G.endOps ?_ | refine G.endHeld ?_ | refine G.back ?_ | refine G.endBlk ?_ | (refine G.atGd ?_; first | refine G.guardYes rfl rfl ?_ | refine G.guardNoS rfl rfl rfl ?_ | refine G.guardU rfl rfl rfl ?_ | (refine G.guardS rfl rfl rfl ?_ ?_ <;> intro hc <;> (try simp only [tests, reduceCtorEq] at hc) <;> (try exact Zf))) | (refine G.atBin ?_; first | (refine G.atAdd ?_; first | refine G.arith rfl rfl rfl rfl rfl Zi ?_) | (refine G.atEql ?_; first | refine G.op rfl rfl ?_) | refine G.op rfl rfl ?_) | refine G.op rfl rfl ?_ | (refine G.atLoad ?_; first | refine G.loadOwn1 rfl (tyy rfl) rfl rfl Za rfl rfl ?_ | refine G.loadImmA rfl (tyy rfl) rfl rfl Zp Zp rfl ?_) | (refine G.atFld ?_; first | refine G.fieldAddr rfl (tyy rfl) rfl rfl ?_) | (refine G.atSto ?_; refine G.storeOwn rfl rfl (tyy rfl) Za rfl rfl rfl rfl ?_) | (refine G.atAlc ?_; refine G.alloc (tyy rfl) rfl rfl ?_; intro _) | (refine G.atBsl ?_; refine G.buildSlice (tyy rfl) (tyy rfl) rfl rfl rfl rfl ?_; intro _))
    all_goals first | (exfalso; omega) | skip
    all_goals
      rename_i A' c'
      refine G.again ⟨i + 1, okb && (qA 4) x, rws ++ [[.int .i64 48, str [], .slice sA [txtN x.1, sqN 49 (txtsN x.2)].length sc]], A', c'⟩ ⟨sint (by simp), rfl, rfl, rfl, rfl, ?_, rfl, rfl, rfl, trivial⟩ Zu ⟨by simp only; omega, by simp [hil], by simp only; rw [hob, take_get hx, List.all_append]; simp, ?_⟩ (by solve | repeat first | assumption | exact Zr _ | refine Zq ?_ Zp) (by simp only; omega)
    all_goals first
      | (simp only [take_get hx, List.map_append, List.map_cons, List.map_nil]
         exact (hik.mono' (by solve | repeat first | assumption | exact Zr _ | refine Zq ?_ Zp)).append (KidsC.one (seq_node (sk.mono (by solve | repeat first | assumption | exact Zr _ | refine Zq ?_ Zp)))))
      | skip
    all_goals first
      | (rw [‹okb = true›]; rfl)
      | (rw [‹okb = false›]; rfl)
  . obtain rfl : i = attrs.length := by omega
    rw [List.take_length] at hob hik
    have hln := hik.len
    refine G.freezeRow (v := .slice A rws.length c) Za ?_
    intro h9 hle9 hs9
    refine G.nilRow 90 3 ?_
    rw [hln] at hs9 ⊢
    have hks : KsC h9 (attrs.map attrN) (.slice A (attrs.map attrN).length c) := ⟨rws, hs9, hik.mono' hle9⟩
    repeat' (first | (show G _ (.ops .seq _ (⟨some _, .call { callee := .value (.func 46), args := _, argTypes := _ }, _, _, _, none⟩ :: _) :: _) _ _ _; refine G.call callTextN rfl rfl (wire_textN _ _) Ze ?_; rintro _ h2 H2 ⟨rfl, rfl⟩ hle2) | (show G _ (.ops .seq _ (⟨some _, .call { callee := .value (.func 48), args := _, argTypes := _ }, _, _, _, none⟩ :: _) :: _) _ _ _; refine G.call callSeq rfl rfl (tlv_SeqK 48 (attrs.map attrN) (by omega) _ _ (hks.mono (by solve | repeat first | assumption | exact Zr _ | refine Zq ?_ Zp))) Ze ?_; rintro _ h2 H2 ⟨⟨rA, rc, rfl, rk⟩, rfl⟩ hle2) | (refine G.atApp ?_; refine G.appendBlk (news := [[_, _, _], [_, _, _]]) rfl rfl (tyy rfl) (tyy rfl) rfl rfl Za Za rfl rfl (rowed3 rfl) rfl rfl (by simp only [List.length_append, List.length_cons, List.length_nil]; omega) ?_; intro _; refine G.rowForm Take.hd ?_; rintro _ _ rfl) | (show G _ (.ops .seq _ (⟨some _, .call { callee := .value (.func 48), args := _, argTypes := _ }, _, _, _, none⟩ :: _) :: _) _ _ _; refine G.freezeRow (sz := 3) (e := 90) Za ?_; intro hf1 hlf1 hsf1; refine G.call callSeq rfl rfl (tlv_SeqK 100 [txtN dn, sqN 48 (attrs.map attrN)] (by simp only [wts, wt_txt, wt_sq, wt_lf, wt_tru]; omega) _ _ ⟨_, hsf1, (KidsC.of1 (lf_C _ 4 dn) (KidsC.of1 (seq_node (rk.mono (by solve | repeat first | assumption | exact Zr _ | refine Zq ?_ Zp))) (KidsC.nil_ _)))⟩) Ze ?_; rintro _ h2 H2 ⟨⟨qA, qc, rfl, qk⟩, rfl⟩ hle2) | (refine G.atCode ?_; first | refine G.seq ?_ | refine G.region ?_ | refine G.exit rfl ?_ | refine G.ret ?_ | (refine G.cond rfl ?_ ?_ <;> intro hc <;> (try simp only [tests, reduceCtorEq] at hc) <;> (try exact Zf))) | refine G.endOps ?_ | refine G.endBlk ?_ | (refine G.atBin ?_; first | refine G.op rfl rfl ?_) | refine G.op rfl rfl ?_ | (refine G.atLoad ?_; first | refine G.loadOwn1 rfl (tyy rfl) rfl rfl Za rfl rfl ?_) | (refine G.atFld ?_; first | refine G.fieldAddr rfl (tyy rfl) rfl rfl ?_) | (refine G.atSto ?_; refine G.storeOwn rfl rfl (tyy rfl) Za rfl rfl rfl rfl ?_) | (refine G.atBsl ?_; refine G.buildSlice (tyy rfl) (tyy rfl) rfl rfl rfl rfl ?_; intro _))
    all_goals first | (exfalso; omega) | skip
    all_goals exact G.done (rs := [.cell 2 90, .tmp 3]) rfl (.cellA rfl (tyy rfl) rfl rfl Za rfl (.tmp rfl .nil)) rfl [] (SubH.nil _) ⟨ElN.mk2 hob (seq_node (ks := [txtN dn, sqN 48 (attrs.map attrN)]) (qk.mono (by solve | repeat first | assumption | exact Zr _ | refine Zq ?_ Zp))), rfl⟩
set_option maxRecDepth 8000 in
set_option maxHeartbeats 8000000 in
theorem wire_el8 : ElSpec 8 := by
  intro m hop hI hw pv kv nv av mv cv h hT hV
  obtain ⟨⟨pA, pn, pc, rfl⟩, ⟨kA, kn, kc, rfl⟩, ⟨nA, nn, nc, rfl⟩, ⟨aA, an, ac, rfl⟩, ⟨mA, mn, mc, rfl⟩, ⟨cA, cn, cc, rfl⟩⟩ := hV.forms
  have hat := hV.attrs
  have hmd := hI.mds
  clear hV hI
  unfold Ms.wt at hw
  obtain ⟨id, op, dn, ver, sasl, mech, text, scope, deref, size, time, types, fl, names, attrs, mods, rdn, delOld, hasSup, sup, attr, target, oid, has, value, code, matched, ctls⟩ := m
  simp only at hop hw hat hmd
  subst hop
  have hTag : ∀ h, TabW h -> Spec Tryd.prog 43 [.int .i64 8] h [] (fun u _ H' => u = .int .i64 104 /\ H' = []) := fun h hT => wire_tag 8 h hT
  have hall := atrsW_len attrs
  have hwa := wt_attrs attrs
  have hok : okM ⟨id, 8, dn, ver, sasl, mech, text, scope, deref, size, time, types, fl, names, attrs, mods, rdn, delOld, hasSup, sup, attr, target, oid, has, value, code, matched, ctls⟩ = attrs.all (qA 8) := by
    show (attrs.all fun a => decide (0 < a.2.length)) = _
    congr 1
  have hel : elemM ⟨id, 8, dn, ver, sasl, mech, text, scope, deref, size, time, types, fl, names, attrs, mods, rdn, delOld, hasSup, sup, attr, target, oid, has, value, code, matched, ctls⟩ = sqN 104 [txtN dn, sqN 48 (attrs.map attrN)] := rfl
  rw [hok, hel]
  clear hok hel
  obtain ⟨rowa, sa, ka⟩ := hat
  have hral := ka.len
  obtain ⟨aA', ac', ea, _⟩ := sa.form
  injection ea with _ ean _
  subst ean
  refine Spec.enter Tryd.func44 rfl rfl ?_; intro w0
  repeat' (first | (show G _ (.ops .seq _ (⟨some _, .call { callee := .value (.func 43), args := _, argTypes := _ }, _, _, _, none⟩ :: _) :: _) _ _ _; refine G.call callTagW rfl rfl (hTag _ (hT.mono (by solve | repeat first | assumption | exact Zr _ | refine Zq ?_ Zp))) Ze ?_; rintro _ h2 H2 ⟨rfl, rfl⟩ hle2) | (refine G.atCode ?_; refine G.stopLoop ?_) | (refine G.atCode ?_; first | refine G.seq ?_ | refine G.region ?_ | refine G.block ?_ | (refine G.cond rfl ?_ ?_ <;> intro hc <;> (try simp only [tests, reduceCtorEq] at hc) <;> (try exact Zf))) | refine G.endOps ?_ | (refine G.atBin ?_; first | (refine G.atEql ?_; first | refine G.op rfl rfl ?_)) | refine G.op rfl rfl ?_ | (refine G.atLen ?_; first | refine G.lenSlice rfl (tyy rfl) rfl ?_) | (refine G.atLoad ?_; first | refine G.loadOwn1 rfl (tyy rfl) rfl rfl Za rfl rfl ?_) | (refine G.atFld ?_; first | refine G.fieldAddr rfl (tyy rfl) rfl rfl ?_) | (refine G.atAlc ?_; refine G.alloc (tyy rfl) rfl rfl ?_; intro _) | (refine G.atBox ?_; refine G.box rfl rfl rfl ?_; intro _))
  all_goals first | (exfalso; omega) | skip
  rename_i g1 g2 _ _ _ _
  refine G.nilRow 90 3 ?_
  refine G.go ?_
  refine G.loop (σ := Nat × Bool × List (List Value) × Option Addr × Nat) (fun x => [(174, .int .i64 x.1), (173, .int .i64 rowa.length), (172, .slice aA rowa.length ac), (10, .slice x.2.2.2.1 x.2.2.1.length x.2.2.2.2), (6, .slice none 0 0), (5, .bool x.2.1), (4, .int .i64 104), (2, .pointer (some ⟨g2, 0, none⟩)), (1, .pointer (some ⟨g1, 0, none⟩))])
    (fun x => [.blk g1 (msR ⟨id, 8, dn, ver, sasl, mech, text, scope, deref, size, time, types, fl, names, attrs, mods, rdn, delOld, hasSup, sup, attr, target, oid, has, value, code, matched, ctls⟩ (.slice pA pn pc) (.slice kA kn kc) (.slice nA nn nc) (.slice aA rowa.length ac) (.slice mA mn mc) (.slice cA cn cc)) 51, .blk g2 [.int .i64 0, str [], .slice none 0 0] 90, .row (.slice x.2.2.2.1 x.2.2.1.length x.2.2.2.2) 90 3 x.2.2.1])
    (fun x h' => x.1 <= attrs.length /\ x.2.2.1.length = x.1 /\ x.2.1 = (attrs.take x.1).all (qA 8) /\ KidsC h' ((attrs.take x.1).map attrN) x.2.2.1) (fun x => attrs.length - x.1) ⟨0, true, [], none, 0⟩ ⟨rfl, rfl, rfl, rfl, rfl, rfl, rfl, rfl, rfl, trivial⟩ Zu ⟨Nat.zero_le _, rfl, rfl, KidsC.nil_ _⟩ ?_
  rintro ⟨i, okb, rws, A, c⟩ h5 hle5 ⟨hi, hil, hob, hik⟩
  simp only at hi hil hob hik
  refine G.norm (by (try dsimp only) <;> exact rfl) (by (try dsimp only) <;> exact rfl) ?_
  by_cases hlt : i < attrs.length
  . obtain ⟨x, hx⟩ : ∃ x, attrs[i]? = some x := ⟨attrs[i], List.getElem?_eq_getElem hlt⟩
    have hmem := List.mem_of_getElem? hx
    have hxw : atrW x <= atrsW attrs := sum_mem hmem
    unfold atrW at hxw
    obtain ⟨r0, e1, v1, rfl, hs1⟩ := ka.get hx
    obtain ⟨xA, xc, rfl, _, _, _⟩ := hs1.form
    have hl1 : ([str x.1, .slice xA (strsR x.2).length xc] : List Value).length = 2 := rfl
    have hbl := bsW_len x.2
    have hwt := wt_txts x.2
    have hsl1 := strsR_length x.2
    have htl : (txtsN x.2).length = x.2.length := by simp [txtsN]
    repeat' (first | (refine G.atAny ?_; first | refine G.anyAutoX slB rfl rfl Zw (by solve | exact Heap.none_le _ | assumption | exact Zr _ | (repeat first | assumption | exact Zr _ | refine Zq ?_ Zp)) Zd ?_ | refine G.anyKeep slB rfl Zw (by solve | exact Heap.none_le _ | assumption | exact Zr _ | (repeat first | assumption | exact Zr _ | refine Zq ?_ Zp)) Zu ?_ | refine G.anyOne rfl Zw (by solve | exact Heap.none_le _ | assumption | exact Zr _ | (repeat first | assumption | exact Zr _ | refine Zq ?_ Zp)) Zu ?_ | refine G.anyEndX Zw ?_) | (refine G.atIdx ?_; refine G.idxImm rfl rfl (tyy rfl) (tyy rfl) (sa.mono (by solve | repeat first | assumption | exact Zr _ | refine Zq ?_ Zp)) Zj rfl (by omega) ?_; intro p1 r1 hx1 hp1; (rw [e1] at hx1); (obtain rfl := Option.some.inj hx1)) | (show G _ (.ops .seq _ (⟨some _, .call { callee := .value (.func 46), args := _, argTypes := _ }, _, _, _, none⟩ :: _) :: _) _ _ _; refine G.call callTextN rfl rfl (wire_textN _ _) Ze ?_; rintro _ h2 H2 ⟨rfl, rfl⟩ hle2) | (show G _ (.ops .seq _ (⟨some _, .call { callee := .value (.func 73), args := _, argTypes := _ }, _, _, _, none⟩ :: _) :: _) _ _ _; refine G.call callTextsN rfl rfl (wire_textsN x.2 _ (by omega) _ (hs1.mono (by solve | repeat first | assumption | exact Zr _ | refine Zq ?_ Zp))) Ze ?_; rintro _ h2 H2 ⟨⟨tsA, tsc, rfl, htsk⟩, rfl⟩ hle2) | (show G _ (.ops .seq _ (⟨some _, .call { callee := .value (.func 48), args := _, argTypes := _ }, _, _, _, none⟩ :: _) :: _) _ _ _; refine G.call callSeq rfl rfl (tlv_SeqK 49 (txtsN x.2) (by omega) _ _ (htsk.mono (by solve | repeat first | assumption | exact Zr _ | refine Zq ?_ Zp))) Ze ?_; rintro _ h2 H2 ⟨⟨rA, rc, rfl, rk⟩, rfl⟩ hle2) | (show G _ (.ops .seq _ (⟨some _, .call { callee := .value (.func 48), args := _, argTypes := _ }, _, _, _, none⟩ :: _) :: _) _ _ _; refine G.call callSeq rfl rfl (tlv_SeqB 48 [txtN x.1, sqN 49 (txtsN x.2)] (by simp only [wts, wt_txt, wt_sq, wt_lf, wt_tru]; omega) _ _ [lfC 4 x.1, [.int .i64 49, str [], .slice rA (txtsN x.2).length rc]] _ rfl rfl (rowed3 rfl) _ (KidsC.of1 (lf_C _ 4 x.1) (KidsC.of1 (seq_node (rk.mono (by solve | repeat first | assumption | exact Zr _ | refine Zq ?_ Zp))) (KidsC.nil_ _)))) Ze ?_; rintro _ h2 H2 ⟨⟨sA, sc, rfl, sk⟩, rfl⟩ hle2) | (refine G.atApp ?_; refine G.append1 rfl rfl (tyy rfl) (tyy rfl) rfl rfl Za Za rfl rfl rfl Zo ?_; intro _; refine G.rowForm Take.hd ?_; rintro _ _ rfl) | (refine G.atCode ?_; first | refine G.seq ?_ | refine G.region ?_ | refine G.block ?_ | refine G.skip ?_ | refine G.anyIn mixedOk ?_ | (refine G.cond rfl ?_ ?_ <;> intro hc <;> (try simp only [tests, reduceCtorEq] at hc) <;> (try exact Zf))) | refine G.endOps ?_ | refine G.endHeld ?_ | refine G.back ?_ | refine G.endBlk ?_ | (refine G.atGd ?_; first | refine G.guardYes rfl rfl ?_ | refine G.guardNoS rfl rfl rfl ?_ | refine G.guardU rfl rfl rfl ?_ | (refine G.guardS rfl rfl rfl ?_ ?_ <;> intro hc <;> (try simp only [tests, reduceCtorEq] at hc) <;> (try exact Zf))) | (refine G.atBin ?_; first | (refine G.atAdd ?_; first | refine G.arith rfl rfl rfl rfl rfl Zi ?_) | (refine G.atEql ?_; first | refine G.op rfl rfl ?_) | refine G.op rfl rfl ?_) | refine G.op rfl rfl ?_ | (refine G.atLen ?_; first | refine G.lenSlice rfl (tyy rfl) rfl ?_) | (refine G.atLoad ?_; first | refine G.loadOwn1 rfl (tyy rfl) rfl rfl Za rfl rfl ?_ | refine G.loadImmA rfl (tyy rfl) rfl rfl Zp Zp rfl ?_) | (refine G.atFld ?_; first | refine G.fieldAddr rfl (tyy rfl) rfl rfl ?_) | (refine G.atSto ?_; refine G.storeOwn rfl rfl (tyy rfl) Za rfl rfl rfl rfl ?_) | (refine G.atAlc ?_; refine G.alloc (tyy rfl) rfl rfl ?_; intro _) | (refine G.atBsl ?_; refine G.buildSlice (tyy rfl) (tyy rfl) rfl rfl rfl rfl ?_; intro _))
    all_goals first | (exfalso; omega) | skip
    all_goals
      rename_i A' c'
      refine G.again ⟨i + 1, okb && (qA 8) x, rws ++ [[.int .i64 48, str [], .slice sA [txtN x.1, sqN 49 (txtsN x.2)].length sc]], A', c'⟩ ⟨sint (by simp), rfl, rfl, rfl, rfl, ?_, rfl, rfl, rfl, trivial⟩ Zu ⟨by simp only; omega, by simp [hil], by simp only; rw [hob, take_get hx, List.all_append]; simp, ?_⟩ (by solve | repeat first | assumption | exact Zr _ | refine Zq ?_ Zp) (by simp only; omega)
    all_goals first
      | (simp only [take_get hx, List.map_append, List.map_cons, List.map_nil]
         exact (hik.mono' (by solve | repeat first | assumption | exact Zr _ | refine Zq ?_ Zp)).append (KidsC.one (seq_node (sk.mono (by solve | repeat first | assumption | exact Zr _ | refine Zq ?_ Zp)))))
      | skip
    all_goals first
      | (rw [‹okb = true›, qA8s]; rfl)
      | (rw [‹okb = false›]; rfl)
  . obtain rfl : i = attrs.length := by omega
    rw [List.take_length] at hob hik
    have hln := hik.len
    refine G.freezeRow (v := .slice A rws.length c) Za ?_
    intro h9 hle9 hs9
    refine G.nilRow 90 3 ?_
    rw [hln] at hs9 ⊢
    have hks : KsC h9 (attrs.map attrN) (.slice A (attrs.map attrN).length c) := ⟨rws, hs9, hik.mono' hle9⟩
    repeat' (first | (show G _ (.ops .seq _ (⟨some _, .call { callee := .value (.func 46), args := _, argTypes := _ }, _, _, _, none⟩ :: _) :: _) _ _ _; refine G.call callTextN rfl rfl (wire_textN _ _) Ze ?_; rintro _ h2 H2 ⟨rfl, rfl⟩ hle2) | (show G _ (.ops .seq _ (⟨some _, .call { callee := .value (.func 48), args := _, argTypes := _ }, _, _, _, none⟩ :: _) :: _) _ _ _; refine G.call callSeq rfl rfl (tlv_SeqK 48 (attrs.map attrN) (by omega) _ _ (hks.mono (by solve | repeat first | assumption | exact Zr _ | refine Zq ?_ Zp))) Ze ?_; rintro _ h2 H2 ⟨⟨rA, rc, rfl, rk⟩, rfl⟩ hle2) | (refine G.atApp ?_; refine G.appendBlk (news := [[_, _, _], [_, _, _]]) rfl rfl (tyy rfl) (tyy rfl) rfl rfl Za Za rfl rfl (rowed3 rfl) rfl rfl (by simp only [List.length_append, List.length_cons, List.length_nil]; omega) ?_; intro _; refine G.rowForm Take.hd ?_; rintro _ _ rfl) | (show G _ (.ops .seq _ (⟨some _, .call { callee := .value (.func 48), args := _, argTypes := _ }, _, _, _, none⟩ :: _) :: _) _ _ _; refine G.freezeRow (sz := 3) (e := 90) Za ?_; intro hf1 hlf1 hsf1; refine G.call callSeq rfl rfl (tlv_SeqK 104 [txtN dn, sqN 48 (attrs.map attrN)] (by simp only [wts, wt_txt, wt_sq, wt_lf, wt_tru]; omega) _ _ ⟨_, hsf1, (KidsC.of1 (lf_C _ 4 dn) (KidsC.of1 (seq_node (rk.mono (by solve | repeat first | assumption | exact Zr _ | refine Zq ?_ Zp))) (KidsC.nil_ _)))⟩) Ze ?_; rintro _ h2 H2 ⟨⟨qA, qc, rfl, qk⟩, rfl⟩ hle2) | (refine G.atCode ?_; first | refine G.seq ?_ | refine G.region ?_ | refine G.exit rfl ?_ | refine G.ret ?_ | (refine G.cond rfl ?_ ?_ <;> intro hc <;> (try simp only [tests, reduceCtorEq] at hc) <;> (try exact Zf))) | refine G.endOps ?_ | refine G.endBlk ?_ | (refine G.atBin ?_; first | refine G.op rfl rfl ?_) | refine G.op rfl rfl ?_ | (refine G.atLoad ?_; first | refine G.loadOwn1 rfl (tyy rfl) rfl rfl Za rfl rfl ?_) | (refine G.atFld ?_; first | refine G.fieldAddr rfl (tyy rfl) rfl rfl ?_) | (refine G.atSto ?_; refine G.storeOwn rfl rfl (tyy rfl) Za rfl rfl rfl rfl ?_) | (refine G.atBsl ?_; refine G.buildSlice (tyy rfl) (tyy rfl) rfl rfl rfl rfl ?_; intro _))
    all_goals first | (exfalso; omega) | skip
    all_goals exact G.done (rs := [.cell 2 90, .tmp 3]) rfl (.cellA rfl (tyy rfl) rfl rfl Za rfl (.tmp rfl .nil)) rfl [] (SubH.nil _) ⟨ElN.mk2 hob (seq_node (ks := [txtN dn, sqN 48 (attrs.map attrN)]) (qk.mono (by solve | repeat first | assumption | exact Zr _ | refine Zq ?_ Zp))), rfl⟩
set_option maxRecDepth 8000 in
set_option maxHeartbeats 8000000 in
theorem wire_el6 : ElSpec 6 := by
  intro m hop hI hw pv kv nv av mv cv h hT hV
  obtain ⟨⟨pA, pn, pc, rfl⟩, ⟨kA, kn, kc, rfl⟩, ⟨nA, nn, nc, rfl⟩, ⟨aA, an, ac, rfl⟩, ⟨mA, mn, mc, rfl⟩, ⟨cA, cn, cc, rfl⟩⟩ := hV.forms
  have hat := hV.mods
  have hmd := hI.mds
  clear hV hI
  unfold Ms.wt at hw
  obtain ⟨id, op, dn, ver, sasl, mech, text, scope, deref, size, time, types, fl, names, attrs, mods, rdn, delOld, hasSup, sup, attr, target, oid, has, value, code, matched, ctls⟩ := m
  simp only at hop hw hat hmd
  subst hop
  have hTag : ∀ h, TabW h -> Spec Tryd.prog 43 [.int .i64 6] h [] (fun u _ H' => u = .int .i64 102 /\ H' = []) := fun h hT => wire_tag 6 h hT
  have hall := mdsW_len mods
  have hwa := wt_mods mods
  have hok : okM ⟨id, 6, dn, ver, sasl, mech, text, scope, deref, size, time, types, fl, names, attrs, mods, rdn, delOld, hasSup, sup, attr, target, oid, has, value, code, matched, ctls⟩ = mods.all (fun x => inM x.op 0 2) := by
    rfl
  have hel : elemM ⟨id, 6, dn, ver, sasl, mech, text, scope, deref, size, time, types, fl, names, attrs, mods, rdn, delOld, hasSup, sup, attr, target, oid, has, value, code, matched, ctls⟩ = sqN 102 [txtN dn, sqN 48 (mods.map modN)] := rfl
  rw [hok, hel]
  clear hok hel
  obtain ⟨rowa, sa, ka⟩ := hat
  have hral := ka.len
  obtain ⟨aA', ac', ea, _⟩ := sa.form
  injection ea with _ ean _
  subst ean
  refine Spec.enter Tryd.func44 rfl rfl ?_; intro w0
  repeat' (first | (show G _ (.ops .seq _ (⟨some _, .call { callee := .value (.func 43), args := _, argTypes := _ }, _, _, _, none⟩ :: _) :: _) _ _ _; refine G.call callTagW rfl rfl (hTag _ (hT.mono (by solve | repeat first | assumption | exact Zr _ | refine Zq ?_ Zp))) Ze ?_; rintro _ h2 H2 ⟨rfl, rfl⟩ hle2) | (refine G.atCode ?_; refine G.stopLoop ?_) | (refine G.atCode ?_; first | refine G.seq ?_ | refine G.region ?_ | refine G.block ?_ | (refine G.cond rfl ?_ ?_ <;> intro hc <;> (try simp only [tests, reduceCtorEq] at hc) <;> (try exact Zf))) | refine G.endOps ?_ | (refine G.atBin ?_; first | (refine G.atEql ?_; first | refine G.op rfl rfl ?_)) | refine G.op rfl rfl ?_ | (refine G.atLen ?_; first | refine G.lenSlice rfl (tyy rfl) rfl ?_) | (refine G.atLoad ?_; first | refine G.loadOwn1 rfl (tyy rfl) rfl rfl Za rfl rfl ?_) | (refine G.atFld ?_; first | refine G.fieldAddr rfl (tyy rfl) rfl rfl ?_) | (refine G.atAlc ?_; refine G.alloc (tyy rfl) rfl rfl ?_; intro _) | (refine G.atBox ?_; refine G.box rfl rfl rfl ?_; intro _))
  all_goals first | (exfalso; omega) | skip
  rename_i g1 g2 _ _ _ _ _
  refine G.nilRow 90 3 ?_
  refine G.go ?_
  refine G.loop (σ := Nat × Bool × List (List Value) × Option Addr × Nat) (fun x => [(216, .int .i64 x.1), (215, .int .i64 rowa.length), (214, .slice mA rowa.length mc), (13, .slice x.2.2.2.1 x.2.2.1.length x.2.2.2.2), (6, .slice none 0 0), (5, .bool x.2.1), (4, .int .i64 102), (2, .pointer (some ⟨g2, 0, none⟩)), (1, .pointer (some ⟨g1, 0, none⟩))])
    (fun x => [.blk g1 (msR ⟨id, 6, dn, ver, sasl, mech, text, scope, deref, size, time, types, fl, names, attrs, mods, rdn, delOld, hasSup, sup, attr, target, oid, has, value, code, matched, ctls⟩ (.slice pA pn pc) (.slice kA kn kc) (.slice nA nn nc) (.slice aA an ac) (.slice mA rowa.length mc) (.slice cA cn cc)) 51, .blk g2 [.int .i64 0, str [], .slice none 0 0] 90, .row (.slice x.2.2.2.1 x.2.2.1.length x.2.2.2.2) 90 3 x.2.2.1])
    (fun x h' => x.1 <= mods.length /\ x.2.2.1.length = x.1 /\ x.2.1 = (mods.take x.1).all (fun x => inM x.op 0 2) /\ KidsC h' ((mods.take x.1).map modN) x.2.2.1) (fun x => mods.length - x.1) ⟨0, true, [], none, 0⟩ ⟨rfl, rfl, rfl, rfl, rfl, rfl, rfl, rfl, rfl, trivial⟩ Zu ⟨Nat.zero_le _, rfl, rfl, KidsC.nil_ _⟩ ?_
  rintro ⟨i, okb, rws, A, c⟩ h5 hle5 ⟨hi, hil, hob, hik⟩
  simp only at hi hil hob hik
  refine G.norm (by (try dsimp only) <;> exact rfl) (by (try dsimp only) <;> exact rfl) ?_
  by_cases hlt : i < mods.length
  . obtain ⟨x, hx⟩ : ∃ x, mods[i]? = some x := ⟨mods[i], List.getElem?_eq_getElem hlt⟩
    have hmem := List.mem_of_getElem? hx
    have hxw : mdW x <= mdsW mods := sum_mem hmem
    unfold mdW at hxw
    obtain ⟨r0, e1, v1, rfl, hs1⟩ := ka.get hx
    obtain ⟨xA, xc, rfl, _, _, _⟩ := hs1.form
    have hl1 : ([.int .i64 x.op, str x.name, .slice xA (strsR x.values).length xc] : List Value).length = 3 := rfl
    have hxi := hmd x hmem
    have hxn := wt_num 10 x.op
    have hxa := wt_attr (x.name, x.values)
    simp only [atrW] at hxa
    generalize hq1 : inM x.op 0 2 = q1
    have hbl := bsW_len x.values
    have hwt := wt_txts x.values
    have hsl1 := strsR_length x.values
    have htl : (txtsN x.values).length = x.values.length := by simp [txtsN]
    repeat' (first | (refine G.atAny ?_; first | refine G.anyAutoX slB rfl rfl Zw (by solve | exact Heap.none_le _ | assumption | exact Zr _ | (repeat first | assumption | exact Zr _ | refine Zq ?_ Zp)) Zd ?_ | refine G.anyKeep slB rfl Zw (by solve | exact Heap.none_le _ | assumption | exact Zr _ | (repeat first | assumption | exact Zr _ | refine Zq ?_ Zp)) Zu ?_ | refine G.anyOne rfl Zw (by solve | exact Heap.none_le _ | assumption | exact Zr _ | (repeat first | assumption | exact Zr _ | refine Zq ?_ Zp)) Zu ?_ | refine G.anyEndX Zw ?_) | (refine G.atIdx ?_; refine G.idxImm rfl rfl (tyy rfl) (tyy rfl) (sa.mono (by solve | repeat first | assumption | exact Zr _ | refine Zq ?_ Zp)) Zj rfl (by omega) ?_; intro p1 r1 hx1 hp1; (rw [e1] at hx1); (obtain rfl := Option.some.inj hx1)) | (show G _ (.ops .seq _ (⟨some _, .call { callee := .value (.func 42), args := _, argTypes := _ }, _, _, _, none⟩ :: _) :: _) _ _ _; refine G.call callInW rfl rfl (wire_inB _ _ _ hq1 _) Ze ?_; rintro _ h2 H2 ⟨rfl, rfl⟩ hle2) | (show G _ (.ops .seq _ (⟨some _, .call { callee := .value (.func 45), args := _, argTypes := _ }, _, _, _, none⟩ :: _) :: _) _ _ _; refine G.call callNumN rfl rfl (wire_numN _ _ Zp _) Ze ?_; rintro _ h2 H2 ⟨rfl, rfl⟩ hle2) | (show G _ (.ops .seq _ (⟨some _, .call { callee := .value (.func 46), args := _, argTypes := _ }, _, _, _, none⟩ :: _) :: _) _ _ _; refine G.call callTextN rfl rfl (wire_textN _ _) Ze ?_; rintro _ h2 H2 ⟨rfl, rfl⟩ hle2) | (show G _ (.ops .seq _ (⟨some _, .call { callee := .value (.func 73), args := _, argTypes := _ }, _, _, _, none⟩ :: _) :: _) _ _ _; refine G.call callTextsN rfl rfl (wire_textsN x.values _ (by omega) _ (hs1.mono (by solve | repeat first | assumption | exact Zr _ | refine Zq ?_ Zp))) Ze ?_; rintro _ h2 H2 ⟨⟨tsA, tsc, rfl, htsk⟩, rfl⟩ hle2) | (show G _ (.ops .seq _ (⟨some _, .call { callee := .value (.func 48), args := _, argTypes := _ }, _, _, _, none⟩ :: _) :: _) _ _ _; refine G.call callSeq rfl rfl (tlv_SeqK 49 (txtsN x.values) (by omega) _ _ (htsk.mono (by solve | repeat first | assumption | exact Zr _ | refine Zq ?_ Zp))) Ze ?_; rintro _ h2 H2 ⟨⟨rA, rc, rfl, rk⟩, rfl⟩ hle2) | (show G _ (.ops .seq _ (⟨some _, .call { callee := .value (.func 48), args := _, argTypes := _ }, _, _, _, none⟩ :: _) :: _) _ _ _; refine G.call callSeq rfl rfl (tlv_SeqB 48 [txtN x.name, sqN 49 (txtsN x.values)] (by simp only [wts, wt_txt, wt_sq, wt_lf, wt_tru]; omega) _ _ [lfC 4 x.name, [.int .i64 49, str [], .slice rA (txtsN x.values).length rc]] _ rfl rfl (rowed3 rfl) _ (KidsC.of1 (lf_C _ 4 x.name) (KidsC.of1 (seq_node (rk.mono (by solve | repeat first | assumption | exact Zr _ | refine Zq ?_ Zp))) (KidsC.nil_ _)))) Ze ?_; rintro _ h2 H2 ⟨⟨sA, sc, rfl, sk⟩, rfl⟩ hle2) | (show G _ (.ops .seq _ (⟨some _, .call { callee := .value (.func 48), args := _, argTypes := _ }, _, _, _, none⟩ :: _) :: _) _ _ _; refine G.call callSeq rfl rfl (tlv_SeqB 48 [numN 10 x.op, attrN (x.name, x.values)] (by simp only [wts, wt_txt, wt_sq, wt_lf, wt_tru]; omega) _ _ [lfC 10 (intB x.op), [.int .i64 48, str [], .slice sA [txtN x.name, sqN 49 (txtsN x.values)].length sc]] _ rfl rfl (rowed3 rfl) _ (KidsC.of1 (lf_C _ 10 (intB x.op)) (KidsC.of1 (seq_node (sk.mono (by solve | repeat first | assumption | exact Zr _ | refine Zq ?_ Zp))) (KidsC.nil_ _)))) Ze ?_; rintro _ h2 H2 ⟨⟨zA, zc, rfl, zk⟩, rfl⟩ hle2) | (refine G.atApp ?_; refine G.append1 rfl rfl (tyy rfl) (tyy rfl) rfl rfl Za Za rfl rfl rfl Zo ?_; intro _; refine G.rowForm Take.hd ?_; rintro _ _ rfl) | (refine G.atCode ?_; first | refine G.seq ?_ | refine G.region ?_ | refine G.block ?_ | refine G.skip ?_ | refine G.anyIn mixedOk ?_ | (refine G.cond rfl ?_ ?_ <;> intro hc <;> (try simp only [tests, reduceCtorEq] at hc) <;> (try exact Zf))) | refine G.endOps ?_ | refine G.endHeld ?_ | refine G.back ?_ | refine G.endBlk ?_ | (refine G.atGd ?_; first | refine G.guardYes rfl rfl ?_ | refine G.guardNoS rfl rfl rfl ?_ | (refine G.guardS rfl rfl rfl ?_ ?_ <;> intro hc <;> (try simp only [tests, reduceCtorEq] at hc) <;> (try exact Zf))) | (refine G.atBin ?_; first | (refine G.atAdd ?_; first | refine G.arith rfl rfl rfl rfl rfl Zi ?_) | refine G.op rfl rfl ?_) | refine G.op rfl rfl ?_ | (refine G.atLoad ?_; first | refine G.loadOwn1 rfl (tyy rfl) rfl rfl Za rfl rfl ?_ | refine G.loadImmA rfl (tyy rfl) rfl rfl Zp Zp rfl ?_) | (refine G.atFld ?_; first | refine G.fieldAddr rfl (tyy rfl) rfl rfl ?_) | (refine G.atSto ?_; refine G.storeOwn rfl rfl (tyy rfl) Za rfl rfl rfl rfl ?_) | (refine G.atAlc ?_; refine G.alloc (tyy rfl) rfl rfl ?_; intro _) | (refine G.atBsl ?_; refine G.buildSlice (tyy rfl) (tyy rfl) rfl rfl rfl rfl ?_; intro _))
    all_goals first | (exfalso; omega) | skip
    all_goals
      rename_i A' c'
      refine G.again ⟨i + 1, okb && q1, rws ++ [[.int .i64 48, str [], .slice zA [numN 10 x.op, attrN (x.name, x.values)].length zc]], A', c'⟩ ⟨sint (by simp), rfl, rfl, rfl, rfl, ?_, rfl, rfl, rfl, trivial⟩ Zu ⟨by simp only; omega, by simp [hil], by simp only; rw [hob, take_get hx, List.all_append]; simp [hq1], ?_⟩ (by solve | repeat first | assumption | exact Zr _ | refine Zq ?_ Zp) (by simp only; omega)
    all_goals first
      | (simp only [take_get hx, List.map_append, List.map_cons, List.map_nil]
         exact (hik.mono' (by solve | repeat first | assumption | exact Zr _ | refine Zq ?_ Zp)).append (KidsC.one (seq_node (zk.mono (by solve | repeat first | assumption | exact Zr _ | refine Zq ?_ Zp)))))
      | skip
    all_goals first
      | (rw [‹okb = true›]; rfl)
      | (rw [‹okb = false›]; rfl)
  . obtain rfl : i = mods.length := by omega
    rw [List.take_length] at hob hik
    have hln := hik.len
    refine G.freezeRow (v := .slice A rws.length c) Za ?_
    intro h9 hle9 hs9
    refine G.nilRow 90 3 ?_
    rw [hln] at hs9 ⊢
    have hks : KsC h9 (mods.map modN) (.slice A (mods.map modN).length c) := ⟨rws, hs9, hik.mono' hle9⟩
    repeat' (first | (show G _ (.ops .seq _ (⟨some _, .call { callee := .value (.func 46), args := _, argTypes := _ }, _, _, _, none⟩ :: _) :: _) _ _ _; refine G.call callTextN rfl rfl (wire_textN _ _) Ze ?_; rintro _ h2 H2 ⟨rfl, rfl⟩ hle2) | (show G _ (.ops .seq _ (⟨some _, .call { callee := .value (.func 48), args := _, argTypes := _ }, _, _, _, none⟩ :: _) :: _) _ _ _; refine G.call callSeq rfl rfl (tlv_SeqK 48 (mods.map modN) (by omega) _ _ (hks.mono (by solve | repeat first | assumption | exact Zr _ | refine Zq ?_ Zp))) Ze ?_; rintro _ h2 H2 ⟨⟨rA, rc, rfl, rk⟩, rfl⟩ hle2) | (refine G.atApp ?_; refine G.appendBlk (news := [[_, _, _], [_, _, _]]) rfl rfl (tyy rfl) (tyy rfl) rfl rfl Za Za rfl rfl (rowed3 rfl) rfl rfl (by simp only [List.length_append, List.length_cons, List.length_nil]; omega) ?_; intro _; refine G.rowForm Take.hd ?_; rintro _ _ rfl) | (show G _ (.ops .seq _ (⟨some _, .call { callee := .value (.func 48), args := _, argTypes := _ }, _, _, _, none⟩ :: _) :: _) _ _ _; refine G.freezeRow (sz := 3) (e := 90) Za ?_; intro hf1 hlf1 hsf1; refine G.call callSeq rfl rfl (tlv_SeqK 102 [txtN dn, sqN 48 (mods.map modN)] (by simp only [wts, wt_txt, wt_sq, wt_lf, wt_tru]; omega) _ _ ⟨_, hsf1, (KidsC.of1 (lf_C _ 4 dn) (KidsC.of1 (seq_node (rk.mono (by solve | repeat first | assumption | exact Zr _ | refine Zq ?_ Zp))) (KidsC.nil_ _)))⟩) Ze ?_; rintro _ h2 H2 ⟨⟨qA, qc, rfl, qk⟩, rfl⟩ hle2) | (refine G.atCode ?_; first | refine G.seq ?_ | refine G.region ?_ | refine G.exit rfl ?_ | refine G.ret ?_ | (refine G.cond rfl ?_ ?_ <;> intro hc <;> (try simp only [tests, reduceCtorEq] at hc) <;> (try exact Zf))) | refine G.endOps ?_ | refine G.endBlk ?_ | (refine G.atBin ?_; first | refine G.op rfl rfl ?_) | refine G.op rfl rfl ?_ | (refine G.atLoad ?_; first | refine G.loadOwn1 rfl (tyy rfl) rfl rfl Za rfl rfl ?_) | (refine G.atFld ?_; first | refine G.fieldAddr rfl (tyy rfl) rfl rfl ?_) | (refine G.atSto ?_; refine G.storeOwn rfl rfl (tyy rfl) Za rfl rfl rfl rfl ?_) | (refine G.atBsl ?_; refine G.buildSlice (tyy rfl) (tyy rfl) rfl rfl rfl rfl ?_; intro _))
    all_goals first | (exfalso; omega) | skip
    all_goals exact G.done (rs := [.cell 2 90, .tmp 3]) rfl (.cellA rfl (tyy rfl) rfl rfl Za rfl (.tmp rfl .nil)) rfl [] (SubH.nil _) ⟨ElN.mk2 hob (seq_node (ks := [txtN dn, sqN 48 (mods.map modN)]) (qk.mono (by solve | repeat first | assumption | exact Zr _ | refine Zq ?_ Zp))), rfl⟩
end Go.Proofs.YtibkffoeioidlaaDoor
