/- castellanref11.Op: lists of attributes, and of changes. -/
import Derived.Test.YtibkffoeioidlaaDoorXaL
namespace Go.Proofs.YtibkffoeioidlaaDoor
set_option linter.all false
set_option maxRecDepth 4000
open Go.RowKit

theorem kids_app1 {h : Heap} {ks : List Nd} {n : Nd} {rs : List (List Value)} {r : List Value} (hk : KidsC h ks rs) (hn : NodeC h n r) : KidsC h (ks ++ [n]) (rs ++ [r]) := hk.append (KidsC.one hn)
theorem len0 {n m : Nat} (h : n = m) : decide ((n : Int) = 0) = !decide (0 < m) := by
  subst h
  by_cases h0 : 0 < n
  . rw [decide_eq_true h0, decide_eq_false (by omega)]; rfl
  . rw [decide_eq_false h0, decide_eq_true (by omega)]; rfl
theorem in02 {n : Int} (h : ¬n < 0) : decide (2 < n) = (false || !inM n 0 2) := by
  unfold inM
  by_cases c2 : n <= 2
  . rw [decide_eq_true (show 0 <= n /\ n <= 2 by omega), decide_eq_false (by omega)]; rfl
  . rw [decide_eq_false (show ¬(0 <= n /\ n <= 2) by omega), decide_eq_true (by omega)]; rfl
theorem in03 {n : Int} (h : n < 0) : true = (false || !inM n 0 2) := by
  unfold inM
  rw [decide_eq_false (show ¬(0 <= n /\ n <= 2) by omega)]; rfl
def q11 (op : Int) (a : Atr) : Bool := decide (op ≠ 8 \/ 0 < a.2.length)
def qm11 (x : Mdf) : Bool := inM x.op 0 2
set_option maxRecDepth 8000 in
set_option maxHeartbeats 8000000 in
theorem ref11_op4 : Op11 4 := by
  intro m hop hI hw pv kv nv av mv cv h hV
  obtain ⟨⟨pA, pn, pc, rfl⟩, ⟨kA, kn, kc, rfl⟩, ⟨nA, nn, nc, rfl⟩, ⟨aA, an, ac, rfl⟩, ⟨mA, mn, mc, rfl⟩, ⟨cA, cn, cc, rfl⟩⟩ := hV.forms
  have hat := hV.attrs
  clear hV hI
  unfold Ms.wt at hw
  obtain ⟨id, op, dn, ver, sasl, mech, text, scope, deref, size, time, types, fl, names, attrs, mods, rdn, delOld, hasSup, sup, attr, target, oid, has, value, code, matched, ctls⟩ := m
  simp only at hop hw hat
  subst hop
  have hall := atrsW_len attrs
  have hok : okM ⟨id, 4, dn, ver, sasl, mech, text, scope, deref, size, time, types, fl, names, attrs, mods, rdn, delOld, hasSup, sup, attr, target, oid, has, value, code, matched, ctls⟩ = attrs.all (q11 4) := by
    show true = attrs.all (q11 4)
    exact (List.all_eq_true.2 fun _ _ => rfl).symm
  rw [hok, show elemM ⟨id, 4, dn, ver, sasl, mech, text, scope, deref, size, time, types, fl, names, attrs, mods, rdn, delOld, hasSup, sup, attr, target, oid, has, value, code, matched, ctls⟩ = sqN 100 [txtN dn, sqN 48 (attrs.map attrN)] from rfl]
  clear hok
  obtain ⟨rowa, sa, ka⟩ := hat
  have hral := ka.len
  obtain ⟨aA', ac', ea, _⟩ := sa.form
  injection ea with _ ean _
  subst ean
  refine Spec.enter Tryd.func51 rfl rfl ?_; intro w0
  repeat' (first | (show G _ (.ops .seq _ (⟨some _, .call { callee := .value (.func 50), args := _, argTypes := _ }, _, _, _, none⟩ :: _) :: _) _ _ _; refine G.call callTagR rfl rfl (ref11_Tag _ _) Ze ?_; rintro _ h2 H2 ⟨rfl, rfl⟩ hle2) | (refine G.atCode ?_; refine G.stopLoop ?_) | (refine G.atCode ?_; first | refine G.seq ?_ | refine G.region ?_ | refine G.block ?_ | refine G.skip ?_ | (refine G.cond rfl ?_ ?_ <;> intro hc <;> (try simp only [tests, reduceCtorEq] at hc) <;> (try exact Zf))) | refine G.endOps ?_ | (refine G.atBin ?_; first | (refine G.atEql ?_; first | refine G.op rfl rfl ?_)) | refine G.op rfl rfl ?_ | (refine G.atLen ?_; first | refine G.lenSlice rfl (tyy rfl) rfl ?_) | (refine G.atLoad ?_; first | refine G.loadOwn1 rfl (tyy rfl) rfl rfl Za rfl rfl ?_) | (refine G.atFld ?_; first | refine G.fieldAddr rfl (tyy rfl) rfl rfl ?_) | (refine G.atSto ?_; refine G.storeOwn rfl rfl (tyy rfl) Za rfl rfl rfl rfl ?_) | (refine G.atAlc ?_; refine G.alloc (tyy rfl) rfl rfl ?_; intro _) | (refine G.atBox ?_; refine G.box rfl rfl rfl ?_; intro _) | (refine G.atBld ?_; refine G.build (tyy rfl) rfl rfl rfl ?_))
  all_goals first | (exfalso; omega) | (exfalso; simp_all; done) | skip
  rename Nat => g5; revert g5; rename Nat => g4; revert g4; rename Nat => g2; revert g2; rename Nat => g1; intro g2 g4 g5
  refine G.nilRow 90 3 ?_
  refine G.go ?_
  refine G.loop (σ := Nat × Bool × List (List Value) × Option Addr × Nat) (fun x => [(159, .int .i64 x.1), (158, .int .i64 rowa.length), (157, .slice aA rowa.length ac), (9, .slice x.2.2.2.1 x.2.2.1.length x.2.2.2.2), (5, .pointer (some ⟨g5, 0, none⟩)), (4, .pointer (some ⟨g4, 0, none⟩)), (2, .pointer (some ⟨g2, 0, none⟩)), (1, .pointer (some ⟨g1, 0, none⟩))])
    (fun x => [.blk g1 (msR ⟨id, 4, dn, ver, sasl, mech, text, scope, deref, size, time, types, fl, names, attrs, mods, rdn, delOld, hasSup, sup, attr, target, oid, has, value, code, matched, ctls⟩ (.slice pA pn pc) (.slice kA kn kc) (.slice nA nn nc) (.slice aA rowa.length ac) (.slice mA mn mc) (.slice cA cn cc)) 51, .blk g2 [.int .i64 0, str [], .slice none 0 0] 90, .blk g4 [.slice none 0 0, .bool x.2.1] 103, .blk g5 [.int .i64 100, str [], .slice none 0 0] 90, .row (.slice x.2.2.2.1 x.2.2.1.length x.2.2.2.2) 90 3 x.2.2.1])
    (fun x h' => x.1 <= attrs.length /\ x.2.2.1.length = x.1 /\ x.2.1 = !((attrs.take x.1).all (q11 4)) /\ KidsC h' ((attrs.take x.1).map attrN) x.2.2.1) (fun x => attrs.length - x.1) ⟨0, false, [], none, 0⟩ ⟨rfl, rfl, rfl, rfl, rfl, rfl, rfl, rfl, trivial⟩ Zu ⟨Nat.zero_le _, rfl, rfl, KidsC.nil_ _⟩ ?_
  rintro ⟨i, bd, rws, A, c⟩ h5 hle5 ⟨hi, hil, hob, hik⟩
  simp only at hi hil hob hik
  refine G.norm (by (try dsimp only) <;> exact rfl) (by (try dsimp only) <;> exact rfl) ?_
  by_cases hlt : i < attrs.length
  . obtain ⟨x, hx⟩ : ∃ x, attrs[i]? = some x := ⟨attrs[i], List.getElem?_eq_getElem hlt⟩
    have hmem := List.mem_of_getElem? hx
    have hxw : atrW x <= atrsW attrs := sum_mem hmem
    unfold atrW at hxw
    obtain ⟨r0, e1, v1, rfl, hs1⟩ := ka.get hx
    obtain ⟨xA, xc, rfl, _, _, _⟩ := hs1.form
    have hl1 : ([str x.1, .slice xA (strsR x.2).length xc] : List Value).length = 2 := rfl
    have hbl := bsW_len x.2
    have hsl1 := strsR_length x.2
    have hq : (attrs.take (i + 1)).all (q11 4) = ((attrs.take i).all (q11 4) && q11 4 x) := by rw [take_get hx, List.all_append, List.all_cons, List.all_nil, Bool.and_true]
    rw [hsl1] at *
    cases bd
    all_goals (
      repeat' (first | (refine G.atIdx ?_; refine G.idxImm rfl rfl (tyy rfl) (tyy rfl) (sa.mono (by solve | repeat first | assumption | exact Zr _ | refine Zq ?_ Zp)) Zj rfl (by omega) ?_; intro p1 r1 hx1 hp1; (rw [e1] at hx1); (obtain rfl := Option.some.inj hx1)) | (show G _ (.ops .seq _ (⟨some _, .call { callee := .value (.func 82), args := _, argTypes := _ }, _, _, _, none⟩ :: _) :: _) _ _ _; refine G.call callAttr11 rfl rfl (ref11_attr x.1 x.2 _ (by omega) _ (hs1.mono (by solve | repeat first | assumption | exact Zr _ | refine Zq ?_ Zp))) Ze ?_; rintro _ h2 H2 ⟨⟨atA, atc, rfl, hatn⟩, rfl⟩ hle2) | (refine G.atApp ?_; refine G.append1 rfl rfl (tyy rfl) (tyy rfl) rfl rfl Za Za rfl rfl rfl Zo ?_; intro _; refine G.rowForm Take.hd ?_; rintro _ _ rfl) | (refine G.atCode ?_; first | refine G.seq ?_ | refine G.region ?_ | refine G.block ?_ | refine G.skip ?_ | (refine G.cond rfl ?_ ?_ <;> intro hc <;> (try simp only [tests, reduceCtorEq] at hc) <;> (try exact Zf))) | refine G.endOps ?_ | refine G.endBlk ?_ | (refine G.atGd ?_; first | refine G.guardYes rfl rfl ?_ | refine G.guardNoS rfl rfl rfl ?_ | refine G.guardU rfl rfl rfl ?_) | (refine G.atBin ?_; first | (refine G.atAdd ?_; first | refine G.arith rfl rfl rfl rfl rfl Zi ?_) | (refine G.atEql ?_; first | refine G.op rfl rfl ?_) | refine G.op rfl rfl ?_) | refine G.op rfl rfl ?_ | (refine G.atLoad ?_; first | refine G.loadOwn1 rfl (tyy rfl) rfl rfl Za rfl rfl ?_ | refine G.loadImmA rfl (tyy rfl) rfl rfl Zp Zp rfl ?_) | (refine G.atFld ?_; first | refine G.fieldAddr rfl (tyy rfl) rfl rfl ?_) | (refine G.atSto ?_; refine G.storeOwn rfl rfl (tyy rfl) Za rfl rfl rfl rfl ?_) | (refine G.atAlc ?_; refine G.alloc (tyy rfl) rfl rfl ?_; intro _) | (refine G.atBsl ?_; refine G.buildSlice (tyy rfl) (tyy rfl) rfl rfl rfl rfl ?_; intro _)))
    all_goals first | (exfalso; omega) | (exfalso; simp_all; done) | skip
    all_goals (
        refine G.again ⟨i + 1, _, rws ++ [[.int .i64 48, str [], .slice atA 2 atc]], _, _⟩ ⟨sint (by simp), rfl, rfl, rfl, rfl, rfl, rfl, rfl, trivial⟩ Zu ⟨by simp only; omega, by simp [hil], ?_, ?_⟩ (by solve | repeat first | assumption | exact Zr _ | refine Zq ?_ Zp) (by simp only; omega)
        . simp only
          rw [hq, Bool.not_and, ← hob]
          first | rfl | (simp [q11]; done) | exact (len0 rfl).trans (by simp [q11]) | exact (len0 hsl1).trans (by simp [q11])
        . simp only
          rw [take_get hx, List.map_append]
          exact kids_app1 (hik.mono' (by solve | repeat first | assumption | exact Zr _ | refine Zq ?_ Zp)) (hatn.mono' (by solve | repeat first | assumption | exact Zr _ | refine Zq ?_ Zp)))
  . obtain rfl : i = attrs.length := by omega
    rw [List.take_length] at hob hik
    have hon : (!bd) = attrs.all (q11 4) := by rw [hob, Bool.not_not]
    rw [<- hon]
    refine G.freezeRow (v := .slice A rws.length c) Za ?_
    intro h6 hle6 hs6
    have hNd : NodeC h6 (sqN 48 (attrs.map attrN)) [.int .i64 48, str [], .slice A rws.length c] := NodeC.mk_ hs6 (hik.mono' hle6)
    refine G.nilRow 90 3 ?_
    repeat' (first | (refine G.atAny ?_; first | refine G.anyAutoX slB rfl rfl Zw (by solve | exact Heap.none_le _ | assumption | exact Zr _ | (repeat first | assumption | exact Zr _ | refine Zq ?_ Zp)) Zd ?_ | refine G.anyKeep slB rfl Zw (by solve | exact Heap.none_le _ | assumption | exact Zr _ | (repeat first | assumption | exact Zr _ | refine Zq ?_ Zp)) Zu ?_ | refine G.anyOne rfl Zw (by solve | exact Heap.none_le _ | assumption | exact Zr _ | (repeat first | assumption | exact Zr _ | refine Zq ?_ Zp)) Zu ?_ | refine G.anyEndX Zw ?_) | (show G _ (.ops .seq _ (⟨some _, .call { callee := .value (.func 53), args := _, argTypes := _ }, _, _, _, none⟩ :: _) :: _) _ _ _; refine G.callT callFput rfl rfl Ze (form_putN _ _ _ _ _ _ _ _ (by rfl) (by first | (simp only [List.length_append, List.length_cons, List.length_nil] <;> omega) | omega) _) ?_; rintro _ h2 H2 ⟨rfl, _, _, rfl⟩ hle2) | (show G _ (.ops .seq _ (⟨some _, .call { callee := .value (.func 78), args := _, argTypes := _ }, _, _, _, none⟩ :: _) :: _) _ _ _; refine G.callT callFlist rfl rfl Ze (form_listN _ _ _ _ _ _ _ _ _ _ (by rfl) (by first | (simp only [List.length_append, List.length_cons, List.length_nil] <;> omega) | omega) _) ?_; rintro _ h2 H2 ⟨rfl, _, _, rfl⟩ hle2) | (refine G.atCode ?_; first | refine G.seq ?_ | refine G.region ?_ | refine G.anyIn mixedOk ?_ | refine G.exit rfl ?_ | refine G.ret ?_ | (refine G.cond rfl ?_ ?_ <;> intro hc <;> (try simp only [tests, reduceCtorEq] at hc) <;> (try exact Zf))) | refine G.endOps ?_ | refine G.endHeld ?_ | refine G.back ?_ | refine G.endBlk ?_ | (refine G.atBin ?_; first | refine G.op rfl rfl ?_) | refine G.op rfl rfl ?_ | (refine G.atLoad ?_; first | refine G.loadOwn1 rfl (tyy rfl) rfl rfl Za rfl rfl ?_ | refine G.loadOwnA rfl (tyy rfl) rfl rfl Za rfl rfl ?_) | (refine G.atFld ?_; first | refine G.fieldAddr rfl (tyy rfl) rfl rfl ?_) | (refine G.atSto ?_; refine G.storeOwn rfl rfl (tyy rfl) Za rfl rfl rfl rfl ?_))
    all_goals first | (exfalso; omega) | (exfalso; simp_all; done) | skip
    all_goals refine G.freezeRow (e := 90) (sz := 3) Za ?_
    all_goals intro h9 hle9 hs9
    all_goals exact G.done (rs := [.cell 2 90, .tmp 3]) rfl (.cellA rfl (tyy rfl) rfl rfl Za rfl (.tmp rfl .nil)) rfl [] (SubH.nil _) ⟨ElN.mk2 rfl (NodeC.mk_ hs9 (KidsC.of1 (lf_C _ 4 dn) (KidsC.of1 (hNd.mono' (by solve | repeat first | assumption | exact Zr _ | refine Zq ?_ Zp)) (KidsC.nil_ _)))), rfl⟩
set_option maxRecDepth 8000 in
set_option maxHeartbeats 8000000 in
theorem ref11_op8 : Op11 8 := by
  intro m hop hI hw pv kv nv av mv cv h hV
  obtain ⟨⟨pA, pn, pc, rfl⟩, ⟨kA, kn, kc, rfl⟩, ⟨nA, nn, nc, rfl⟩, ⟨aA, an, ac, rfl⟩, ⟨mA, mn, mc, rfl⟩, ⟨cA, cn, cc, rfl⟩⟩ := hV.forms
  have hat := hV.attrs
  clear hV hI
  unfold Ms.wt at hw
  obtain ⟨id, op, dn, ver, sasl, mech, text, scope, deref, size, time, types, fl, names, attrs, mods, rdn, delOld, hasSup, sup, attr, target, oid, has, value, code, matched, ctls⟩ := m
  simp only at hop hw hat
  subst hop
  have hall := atrsW_len attrs
  have hok : okM ⟨id, 8, dn, ver, sasl, mech, text, scope, deref, size, time, types, fl, names, attrs, mods, rdn, delOld, hasSup, sup, attr, target, oid, has, value, code, matched, ctls⟩ = attrs.all (q11 8) := by
    show (attrs.all fun a => decide (0 < a.2.length)) = attrs.all (q11 8)
    exact congrArg attrs.all (funext fun a => by simp [q11])
  rw [hok, show elemM ⟨id, 8, dn, ver, sasl, mech, text, scope, deref, size, time, types, fl, names, attrs, mods, rdn, delOld, hasSup, sup, attr, target, oid, has, value, code, matched, ctls⟩ = sqN 104 [txtN dn, sqN 48 (attrs.map attrN)] from rfl]
  clear hok
  obtain ⟨rowa, sa, ka⟩ := hat
  have hral := ka.len
  obtain ⟨aA', ac', ea, _⟩ := sa.form
  injection ea with _ ean _
  subst ean
  refine Spec.enter Tryd.func51 rfl rfl ?_; intro w0
  repeat' (first | (show G _ (.ops .seq _ (⟨some _, .call { callee := .value (.func 50), args := _, argTypes := _ }, _, _, _, none⟩ :: _) :: _) _ _ _; refine G.call callTagR rfl rfl (ref11_Tag _ _) Ze ?_; rintro _ h2 H2 ⟨rfl, rfl⟩ hle2) | (refine G.atCode ?_; refine G.stopLoop ?_) | (refine G.atCode ?_; first | refine G.seq ?_ | refine G.region ?_ | refine G.block ?_ | (refine G.cond rfl ?_ ?_ <;> intro hc <;> (try simp only [tests, reduceCtorEq] at hc) <;> (try exact Zf))) | refine G.endOps ?_ | (refine G.atBin ?_; first | (refine G.atEql ?_; first | refine G.op rfl rfl ?_)) | refine G.op rfl rfl ?_ | (refine G.atLen ?_; first | refine G.lenSlice rfl (tyy rfl) rfl ?_) | (refine G.atLoad ?_; first | refine G.loadOwn1 rfl (tyy rfl) rfl rfl Za rfl rfl ?_) | (refine G.atFld ?_; first | refine G.fieldAddr rfl (tyy rfl) rfl rfl ?_) | (refine G.atSto ?_; refine G.storeOwn rfl rfl (tyy rfl) Za rfl rfl rfl rfl ?_) | (refine G.atAlc ?_; refine G.alloc (tyy rfl) rfl rfl ?_; intro _) | (refine G.atBox ?_; refine G.box rfl rfl rfl ?_; intro _) | (refine G.atBld ?_; refine G.build (tyy rfl) rfl rfl rfl ?_))
  all_goals first | (exfalso; omega) | (exfalso; simp_all; done) | skip
  rename Nat => g5; revert g5; rename Nat => g4; revert g4; rename Nat => g2; revert g2; rename Nat => g1; intro g2 g4 g5
  refine G.nilRow 90 3 ?_
  refine G.go ?_
  refine G.loop (σ := Nat × Bool × List (List Value) × Option Addr × Nat) (fun x => [(159, .int .i64 x.1), (158, .int .i64 rowa.length), (157, .slice aA rowa.length ac), (9, .slice x.2.2.2.1 x.2.2.1.length x.2.2.2.2), (5, .pointer (some ⟨g5, 0, none⟩)), (4, .pointer (some ⟨g4, 0, none⟩)), (2, .pointer (some ⟨g2, 0, none⟩)), (1, .pointer (some ⟨g1, 0, none⟩))])
    (fun x => [.blk g1 (msR ⟨id, 8, dn, ver, sasl, mech, text, scope, deref, size, time, types, fl, names, attrs, mods, rdn, delOld, hasSup, sup, attr, target, oid, has, value, code, matched, ctls⟩ (.slice pA pn pc) (.slice kA kn kc) (.slice nA nn nc) (.slice aA rowa.length ac) (.slice mA mn mc) (.slice cA cn cc)) 51, .blk g2 [.int .i64 0, str [], .slice none 0 0] 90, .blk g4 [.slice none 0 0, .bool x.2.1] 103, .blk g5 [.int .i64 104, str [], .slice none 0 0] 90, .row (.slice x.2.2.2.1 x.2.2.1.length x.2.2.2.2) 90 3 x.2.2.1])
    (fun x h' => x.1 <= attrs.length /\ x.2.2.1.length = x.1 /\ x.2.1 = !((attrs.take x.1).all (q11 8)) /\ KidsC h' ((attrs.take x.1).map attrN) x.2.2.1) (fun x => attrs.length - x.1) ⟨0, false, [], none, 0⟩ ⟨rfl, rfl, rfl, rfl, rfl, rfl, rfl, rfl, trivial⟩ Zu ⟨Nat.zero_le _, rfl, rfl, KidsC.nil_ _⟩ ?_
  rintro ⟨i, bd, rws, A, c⟩ h5 hle5 ⟨hi, hil, hob, hik⟩
  simp only at hi hil hob hik
  refine G.norm (by (try dsimp only) <;> exact rfl) (by (try dsimp only) <;> exact rfl) ?_
  by_cases hlt : i < attrs.length
  . obtain ⟨x, hx⟩ : ∃ x, attrs[i]? = some x := ⟨attrs[i], List.getElem?_eq_getElem hlt⟩
    have hmem := List.mem_of_getElem? hx
    have hxw : atrW x <= atrsW attrs := sum_mem hmem
    unfold atrW at hxw
    obtain ⟨r0, e1, v1, rfl, hs1⟩ := ka.get hx
    obtain ⟨xA, xc, rfl, _, _, _⟩ := hs1.form
    have hl1 : ([str x.1, .slice xA (strsR x.2).length xc] : List Value).length = 2 := rfl
    have hbl := bsW_len x.2
    have hsl1 := strsR_length x.2
    have hq : (attrs.take (i + 1)).all (q11 8) = ((attrs.take i).all (q11 8) && q11 8 x) := by rw [take_get hx, List.all_append, List.all_cons, List.all_nil, Bool.and_true]
    rw [hsl1] at *
    cases bd
    all_goals (
      repeat' (first | (refine G.atIdx ?_; refine G.idxImm rfl rfl (tyy rfl) (tyy rfl) (sa.mono (by solve | repeat first | assumption | exact Zr _ | refine Zq ?_ Zp)) Zj rfl (by omega) ?_; intro p1 r1 hx1 hp1; (rw [e1] at hx1); (obtain rfl := Option.some.inj hx1)) | (show G _ (.ops .seq _ (⟨some _, .call { callee := .value (.func 82), args := _, argTypes := _ }, _, _, _, none⟩ :: _) :: _) _ _ _; refine G.call callAttr11 rfl rfl (ref11_attr x.1 x.2 _ (by omega) _ (hs1.mono (by solve | repeat first | assumption | exact Zr _ | refine Zq ?_ Zp))) Ze ?_; rintro _ h2 H2 ⟨⟨atA, atc, rfl, hatn⟩, rfl⟩ hle2) | (refine G.atApp ?_; refine G.append1 rfl rfl (tyy rfl) (tyy rfl) rfl rfl Za Za rfl rfl rfl Zo ?_; intro _; refine G.rowForm Take.hd ?_; rintro _ _ rfl) | (refine G.atCode ?_; first | refine G.seq ?_ | refine G.region ?_ | refine G.block ?_ | refine G.skip ?_ | (refine G.cond rfl ?_ ?_ <;> intro hc <;> (try simp only [tests, reduceCtorEq] at hc) <;> (try exact Zf))) | refine G.endOps ?_ | refine G.endBlk ?_ | (refine G.atGd ?_; first | refine G.guardYes rfl rfl ?_ | refine G.guardNoS rfl rfl rfl ?_ | refine G.guardU rfl rfl rfl ?_) | (refine G.atBin ?_; first | (refine G.atAdd ?_; first | refine G.arith rfl rfl rfl rfl rfl Zi ?_) | (refine G.atEql ?_; first | refine G.op rfl rfl ?_) | refine G.op rfl rfl ?_) | refine G.op rfl rfl ?_ | (refine G.atLen ?_; first | refine G.lenSlice rfl (tyy rfl) rfl ?_) | (refine G.atLoad ?_; first | refine G.loadOwn1 rfl (tyy rfl) rfl rfl Za rfl rfl ?_ | refine G.loadImmA rfl (tyy rfl) rfl rfl Zp Zp rfl ?_) | (refine G.atFld ?_; first | refine G.fieldAddr rfl (tyy rfl) rfl rfl ?_) | (refine G.atSto ?_; refine G.storeOwn rfl rfl (tyy rfl) Za rfl rfl rfl rfl ?_) | (refine G.atAlc ?_; refine G.alloc (tyy rfl) rfl rfl ?_; intro _) | (refine G.atBsl ?_; refine G.buildSlice (tyy rfl) (tyy rfl) rfl rfl rfl rfl ?_; intro _)))
    all_goals first | (exfalso; omega) | (exfalso; simp_all; done) | skip
    all_goals (
        refine G.again ⟨i + 1, _, rws ++ [[.int .i64 48, str [], .slice atA 2 atc]], _, _⟩ ⟨sint (by simp), rfl, rfl, rfl, rfl, rfl, rfl, rfl, trivial⟩ Zu ⟨by simp only; omega, by simp [hil], ?_, ?_⟩ (by solve | repeat first | assumption | exact Zr _ | refine Zq ?_ Zp) (by simp only; omega)
        . simp only
          rw [hq, Bool.not_and, ← hob]
          first | rfl | (simp [q11]; done) | exact (len0 rfl).trans (by simp [q11]) | exact (len0 hsl1).trans (by simp [q11])
        . simp only
          rw [take_get hx, List.map_append]
          exact kids_app1 (hik.mono' (by solve | repeat first | assumption | exact Zr _ | refine Zq ?_ Zp)) (hatn.mono' (by solve | repeat first | assumption | exact Zr _ | refine Zq ?_ Zp)))
  . obtain rfl : i = attrs.length := by omega
    rw [List.take_length] at hob hik
    have hon : (!bd) = attrs.all (q11 8) := by rw [hob, Bool.not_not]
    rw [<- hon]
    refine G.freezeRow (v := .slice A rws.length c) Za ?_
    intro h6 hle6 hs6
    have hNd : NodeC h6 (sqN 48 (attrs.map attrN)) [.int .i64 48, str [], .slice A rws.length c] := NodeC.mk_ hs6 (hik.mono' hle6)
    refine G.nilRow 90 3 ?_
    repeat' (first | (refine G.atAny ?_; first | refine G.anyAutoX slB rfl rfl Zw (by solve | exact Heap.none_le _ | assumption | exact Zr _ | (repeat first | assumption | exact Zr _ | refine Zq ?_ Zp)) Zd ?_ | refine G.anyKeep slB rfl Zw (by solve | exact Heap.none_le _ | assumption | exact Zr _ | (repeat first | assumption | exact Zr _ | refine Zq ?_ Zp)) Zu ?_ | refine G.anyOne rfl Zw (by solve | exact Heap.none_le _ | assumption | exact Zr _ | (repeat first | assumption | exact Zr _ | refine Zq ?_ Zp)) Zu ?_ | refine G.anyEndX Zw ?_) | (show G _ (.ops .seq _ (⟨some _, .call { callee := .value (.func 53), args := _, argTypes := _ }, _, _, _, none⟩ :: _) :: _) _ _ _; refine G.callT callFput rfl rfl Ze (form_putN _ _ _ _ _ _ _ _ (by rfl) (by first | (simp only [List.length_append, List.length_cons, List.length_nil] <;> omega) | omega) _) ?_; rintro _ h2 H2 ⟨rfl, _, _, rfl⟩ hle2) | (show G _ (.ops .seq _ (⟨some _, .call { callee := .value (.func 78), args := _, argTypes := _ }, _, _, _, none⟩ :: _) :: _) _ _ _; refine G.callT callFlist rfl rfl Ze (form_listN _ _ _ _ _ _ _ _ _ _ (by rfl) (by first | (simp only [List.length_append, List.length_cons, List.length_nil] <;> omega) | omega) _) ?_; rintro _ h2 H2 ⟨rfl, _, _, rfl⟩ hle2) | (refine G.atCode ?_; first | refine G.seq ?_ | refine G.region ?_ | refine G.anyIn mixedOk ?_ | refine G.exit rfl ?_ | refine G.ret ?_ | (refine G.cond rfl ?_ ?_ <;> intro hc <;> (try simp only [tests, reduceCtorEq] at hc) <;> (try exact Zf))) | refine G.endOps ?_ | refine G.endHeld ?_ | refine G.back ?_ | refine G.endBlk ?_ | (refine G.atBin ?_; first | refine G.op rfl rfl ?_) | refine G.op rfl rfl ?_ | (refine G.atLoad ?_; first | refine G.loadOwn1 rfl (tyy rfl) rfl rfl Za rfl rfl ?_ | refine G.loadOwnA rfl (tyy rfl) rfl rfl Za rfl rfl ?_) | (refine G.atFld ?_; first | refine G.fieldAddr rfl (tyy rfl) rfl rfl ?_) | (refine G.atSto ?_; refine G.storeOwn rfl rfl (tyy rfl) Za rfl rfl rfl rfl ?_))
    all_goals first | (exfalso; omega) | (exfalso; simp_all; done) | skip
    all_goals refine G.freezeRow (e := 90) (sz := 3) Za ?_
    all_goals intro h9 hle9 hs9
    all_goals exact G.done (rs := [.cell 2 90, .tmp 3]) rfl (.cellA rfl (tyy rfl) rfl rfl Za rfl (.tmp rfl .nil)) rfl [] (SubH.nil _) ⟨ElN.mk2 rfl (NodeC.mk_ hs9 (KidsC.of1 (lf_C _ 4 dn) (KidsC.of1 (hNd.mono' (by solve | repeat first | assumption | exact Zr _ | refine Zq ?_ Zp)) (KidsC.nil_ _)))), rfl⟩
set_option maxRecDepth 8000 in
set_option maxHeartbeats 8000000 in
theorem ref11_op6 : Op11 6 := by
  intro m hop hI hw pv kv nv av mv cv h hV
  obtain ⟨⟨pA, pn, pc, rfl⟩, ⟨kA, kn, kc, rfl⟩, ⟨nA, nn, nc, rfl⟩, ⟨aA, an, ac, rfl⟩, ⟨mA, mn, mc, rfl⟩, ⟨cA, cn, cc, rfl⟩⟩ := hV.forms
  have hat := hV.mods
  have hmd := hI.mds
  clear hV hI
  unfold Ms.wt at hw
  obtain ⟨id, op, dn, ver, sasl, mech, text, scope, deref, size, time, types, fl, names, attrs, mods, rdn, delOld, hasSup, sup, attr, target, oid, has, value, code, matched, ctls⟩ := m
  simp only at hop hw hat hmd
  subst hop
  have hall := mdsW_len mods
  rw [show okM ⟨id, 6, dn, ver, sasl, mech, text, scope, deref, size, time, types, fl, names, attrs, mods, rdn, delOld, hasSup, sup, attr, target, oid, has, value, code, matched, ctls⟩ = mods.all qm11 from rfl, show elemM ⟨id, 6, dn, ver, sasl, mech, text, scope, deref, size, time, types, fl, names, attrs, mods, rdn, delOld, hasSup, sup, attr, target, oid, has, value, code, matched, ctls⟩ = sqN 102 [txtN dn, sqN 48 (mods.map modN)] from rfl]
  obtain ⟨rowa, sa, ka⟩ := hat
  have hral := ka.len
  obtain ⟨aA', ac', ea, _⟩ := sa.form
  injection ea with _ ean _
  subst ean
  refine Spec.enter Tryd.func51 rfl rfl ?_; intro w0
  repeat' (first | (show G _ (.ops .seq _ (⟨some _, .call { callee := .value (.func 50), args := _, argTypes := _ }, _, _, _, none⟩ :: _) :: _) _ _ _; refine G.call callTagR rfl rfl (ref11_Tag _ _) Ze ?_; rintro _ h2 H2 ⟨rfl, rfl⟩ hle2) | (refine G.atCode ?_; refine G.stopLoop ?_) | (refine G.atCode ?_; first | refine G.seq ?_ | refine G.region ?_ | refine G.block ?_ | (refine G.cond rfl ?_ ?_ <;> intro hc <;> (try simp only [tests, reduceCtorEq] at hc) <;> (try exact Zf))) | refine G.endOps ?_ | (refine G.atBin ?_; first | (refine G.atEql ?_; first | refine G.op rfl rfl ?_)) | refine G.op rfl rfl ?_ | (refine G.atLen ?_; first | refine G.lenSlice rfl (tyy rfl) rfl ?_) | (refine G.atLoad ?_; first | refine G.loadOwn1 rfl (tyy rfl) rfl rfl Za rfl rfl ?_) | (refine G.atFld ?_; first | refine G.fieldAddr rfl (tyy rfl) rfl rfl ?_) | (refine G.atSto ?_; refine G.storeOwn rfl rfl (tyy rfl) Za rfl rfl rfl rfl ?_) | (refine G.atAlc ?_; refine G.alloc (tyy rfl) rfl rfl ?_; intro _) | (refine G.atBox ?_; refine G.box rfl rfl rfl ?_; intro _) | (refine G.atBld ?_; refine G.build (tyy rfl) rfl rfl rfl ?_))
  all_goals first | (exfalso; omega) | (exfalso; simp_all; done) | skip
  rename Nat => g5; revert g5; rename Nat => g4; revert g4; rename Nat => g2; revert g2; rename Nat => g1; intro g2 g4 g5
  refine G.nilRow 90 3 ?_
  refine G.go ?_
  refine G.loop (σ := Nat × Bool × List (List Value) × Option Addr × Nat) (fun x => [(202, .int .i64 x.1), (201, .int .i64 rowa.length), (200, .slice mA rowa.length mc), (12, .slice x.2.2.2.1 x.2.2.1.length x.2.2.2.2), (5, .pointer (some ⟨g5, 0, none⟩)), (4, .pointer (some ⟨g4, 0, none⟩)), (2, .pointer (some ⟨g2, 0, none⟩)), (1, .pointer (some ⟨g1, 0, none⟩))])
    (fun x => [.blk g1 (msR ⟨id, 6, dn, ver, sasl, mech, text, scope, deref, size, time, types, fl, names, attrs, mods, rdn, delOld, hasSup, sup, attr, target, oid, has, value, code, matched, ctls⟩ (.slice pA pn pc) (.slice kA kn kc) (.slice nA nn nc) (.slice aA an ac) (.slice mA rowa.length mc) (.slice cA cn cc)) 51, .blk g2 [.int .i64 0, str [], .slice none 0 0] 90, .blk g4 [.slice none 0 0, .bool x.2.1] 103, .blk g5 [.int .i64 102, str [], .slice none 0 0] 90, .row (.slice x.2.2.2.1 x.2.2.1.length x.2.2.2.2) 90 3 x.2.2.1])
    (fun x h' => x.1 <= mods.length /\ x.2.2.1.length = x.1 /\ x.2.1 = !((mods.take x.1).all qm11) /\ KidsC h' ((mods.take x.1).map modN) x.2.2.1) (fun x => mods.length - x.1) ⟨0, false, [], none, 0⟩ ⟨rfl, rfl, rfl, rfl, rfl, rfl, rfl, rfl, trivial⟩ Zu ⟨Nat.zero_le _, rfl, rfl, KidsC.nil_ _⟩ ?_
  rintro ⟨i, bd, rws, A, c⟩ h5 hle5 ⟨hi, hil, hob, hik⟩
  simp only at hi hil hob hik
  refine G.norm (by (try dsimp only) <;> exact rfl) (by (try dsimp only) <;> exact rfl) ?_
  by_cases hlt : i < mods.length
  . obtain ⟨x, hx⟩ : ∃ x, mods[i]? = some x := ⟨mods[i], List.getElem?_eq_getElem hlt⟩
    have hmem := List.mem_of_getElem? hx
    have hxi := hmd x hmem
    have hxw : mdW x <= mdsW mods := sum_mem hmem
    unfold mdW at hxw
    obtain ⟨r0, e1, v1, rfl, hs1⟩ := ka.get hx
    obtain ⟨xA, xc, rfl, _, _, _⟩ := hs1.form
    have hl1 : ([.int .i64 x.op, str x.name, .slice xA (strsR x.values).length xc] : List Value).length = 3 := rfl
    have hbl := bsW_len x.values
    have hsl1 := strsR_length x.values
    have hq : (mods.take (i + 1)).all qm11 = ((mods.take i).all qm11 && qm11 x) := by rw [take_get hx, List.all_append, List.all_cons, List.all_nil, Bool.and_true]
    rw [hsl1] at *
    cases bd
    all_goals (
      repeat' (first | (refine G.atAny ?_; first | refine G.anyAutoX slB rfl rfl Zw (by solve | exact Heap.none_le _ | assumption | exact Zr _ | (repeat first | assumption | exact Zr _ | refine Zq ?_ Zp)) Zd ?_ | refine G.anyKeep slB rfl Zw (by solve | exact Heap.none_le _ | assumption | exact Zr _ | (repeat first | assumption | exact Zr _ | refine Zq ?_ Zp)) Zu ?_ | refine G.anyOne rfl Zw (by solve | exact Heap.none_le _ | assumption | exact Zr _ | (repeat first | assumption | exact Zr _ | refine Zq ?_ Zp)) Zu ?_ | refine G.anyEndX Zw ?_) | (refine G.atIdx ?_; refine G.idxImm rfl rfl (tyy rfl) (tyy rfl) (sa.mono (by solve | repeat first | assumption | exact Zr _ | refine Zq ?_ Zp)) Zj rfl (by omega) ?_; intro p1 r1 hx1 hp1; (rw [e1] at hx1); (obtain rfl := Option.some.inj hx1)) | (show G _ (.ops .seq _ (⟨some _, .call { callee := .value (.func 52), args := _, argTypes := _ }, _, _, _, none⟩ :: _) :: _) _ _ _; refine G.call callRInt rfl rfl (ref_Int _ Zp _) Ze ?_; rintro _ h2 H2 ⟨rfl, rfl⟩ hle2) | (show G _ (.ops .seq _ (⟨some _, .call { callee := .value (.func 82), args := _, argTypes := _ }, _, _, _, none⟩ :: _) :: _) _ _ _; refine G.call callAttr11 rfl rfl (ref11_attr x.name x.values _ (by omega) _ (hs1.mono (by solve | repeat first | assumption | exact Zr _ | refine Zq ?_ Zp))) Ze ?_; rintro _ h2 H2 ⟨⟨atA, atc, rfl, hatn⟩, rfl⟩ hle2) | (refine G.atApp ?_; refine G.append1 rfl rfl (tyy rfl) (tyy rfl) rfl rfl Za Za rfl rfl rfl Zo ?_; intro _; refine G.rowForm Take.hd ?_; rintro _ _ rfl) | (refine G.atCode ?_; first | refine G.seq ?_ | refine G.region ?_ | refine G.block ?_ | refine G.skip ?_ | refine G.anyIn mixedOk ?_ | (refine G.cond rfl ?_ ?_ <;> intro hc <;> (try simp only [tests, reduceCtorEq] at hc) <;> (try exact Zf))) | refine G.endOps ?_ | refine G.endHeld ?_ | refine G.back ?_ | refine G.endBlk ?_ | (refine G.atGd ?_; first | refine G.guardYes rfl rfl ?_ | refine G.guardNoS rfl rfl rfl ?_ | (refine G.guardS rfl rfl rfl ?_ ?_ <;> intro hc <;> (try simp only [tests, reduceCtorEq] at hc) <;> (try exact Zf))) | (refine G.atBin ?_; first | (refine G.atAdd ?_; first | refine G.arith rfl rfl rfl rfl rfl Zi ?_) | refine G.op rfl rfl ?_) | refine G.op rfl rfl ?_ | (refine G.atLoad ?_; first | refine G.loadOwn1 rfl (tyy rfl) rfl rfl Za rfl rfl ?_ | refine G.loadImmA rfl (tyy rfl) rfl rfl Zp Zp rfl ?_) | (refine G.atFld ?_; first | refine G.fieldAddr rfl (tyy rfl) rfl rfl ?_) | (refine G.atSto ?_; refine G.storeOwn rfl rfl (tyy rfl) Za rfl rfl rfl rfl ?_) | (refine G.atAlc ?_; refine G.alloc (tyy rfl) rfl rfl ?_; intro _) | (refine G.atBld ?_; refine G.build (tyy rfl) rfl rfl rfl ?_) | (refine G.atBsl ?_; refine G.buildSlice (tyy rfl) (tyy rfl) rfl rfl rfl rfl ?_; intro _)))
    all_goals first | (exfalso; omega) | (exfalso; simp_all; done) | skip
    all_goals (
        refine G.freezeBlk (cs := [_, _, _, _, _, _]) (e := 90) Za ?_
        intro h6 hle6 hc6
        have hs6 := HSl.ofBlk1 (rows := [lfC 10 (intB x.op), [.int .i64 48, str [], .slice atA 2 atc]]) (n := 2) hc6 (rowed3 rfl) rfl (by decide)
        refine G.again ⟨i + 1, _, rws ++ [[.int .i64 48, str [], .slice (some ⟨_, 0, none⟩) 2 2]], _, _⟩ ⟨sint (by simp), rfl, rfl, rfl, rfl, rfl, rfl, rfl, trivial⟩ Zu ⟨by simp only; omega, by simp [hil], ?_, ?_⟩ (by solve | repeat first | assumption | exact Zr _ | refine Zq ?_ Zp) (by simp only; omega)
        . simp only
          rw [hq, Bool.not_and, ← hob]
          first | rfl | exact in02 Zp | exact in02 (by omega) | exact in03 (by omega)
        . simp only
          rw [take_get hx, List.map_append]
          exact kids_app1 (hik.mono' (by solve | repeat first | assumption | exact Zr _ | refine Zq ?_ Zp)) (NodeC.mk_ hs6 (KidsC.of1 (lf_C _ 10 (intB x.op)) (KidsC.of1 (hatn.mono' (by solve | repeat first | assumption | exact Zr _ | refine Zq ?_ Zp)) (KidsC.nil_ _)))))
  . obtain rfl : i = mods.length := by omega
    rw [List.take_length] at hob hik
    have hon : (!bd) = mods.all qm11 := by rw [hob, Bool.not_not]
    rw [<- hon]
    refine G.freezeRow (v := .slice A rws.length c) Za ?_
    intro h6 hle6 hs6
    have hNd : NodeC h6 (sqN 48 (mods.map modN)) [.int .i64 48, str [], .slice A rws.length c] := NodeC.mk_ hs6 (hik.mono' hle6)
    refine G.nilRow 90 3 ?_
    repeat' (first | (refine G.atAny ?_; first | refine G.anyAutoX slB rfl rfl Zw (by solve | exact Heap.none_le _ | assumption | exact Zr _ | (repeat first | assumption | exact Zr _ | refine Zq ?_ Zp)) Zd ?_ | refine G.anyKeep slB rfl Zw (by solve | exact Heap.none_le _ | assumption | exact Zr _ | (repeat first | assumption | exact Zr _ | refine Zq ?_ Zp)) Zu ?_ | refine G.anyOne rfl Zw (by solve | exact Heap.none_le _ | assumption | exact Zr _ | (repeat first | assumption | exact Zr _ | refine Zq ?_ Zp)) Zu ?_ | refine G.anyEndX Zw ?_) | (show G _ (.ops .seq _ (⟨some _, .call { callee := .value (.func 53), args := _, argTypes := _ }, _, _, _, none⟩ :: _) :: _) _ _ _; refine G.callT callFput rfl rfl Ze (form_putN _ _ _ _ _ _ _ _ (by rfl) (by first | (simp only [List.length_append, List.length_cons, List.length_nil] <;> omega) | omega) _) ?_; rintro _ h2 H2 ⟨rfl, _, _, rfl⟩ hle2) | (show G _ (.ops .seq _ (⟨some _, .call { callee := .value (.func 78), args := _, argTypes := _ }, _, _, _, none⟩ :: _) :: _) _ _ _; refine G.callT callFlist rfl rfl Ze (form_listN _ _ _ _ _ _ _ _ _ _ (by rfl) (by first | (simp only [List.length_append, List.length_cons, List.length_nil] <;> omega) | omega) _) ?_; rintro _ h2 H2 ⟨rfl, _, _, rfl⟩ hle2) | (refine G.atCode ?_; first | refine G.seq ?_ | refine G.region ?_ | refine G.anyIn mixedOk ?_ | refine G.exit rfl ?_ | refine G.ret ?_ | (refine G.cond rfl ?_ ?_ <;> intro hc <;> (try simp only [tests, reduceCtorEq] at hc) <;> (try exact Zf))) | refine G.endOps ?_ | refine G.endHeld ?_ | refine G.back ?_ | refine G.endBlk ?_ | (refine G.atBin ?_; first | refine G.op rfl rfl ?_) | refine G.op rfl rfl ?_ | (refine G.atLoad ?_; first | refine G.loadOwn1 rfl (tyy rfl) rfl rfl Za rfl rfl ?_ | refine G.loadOwnA rfl (tyy rfl) rfl rfl Za rfl rfl ?_) | (refine G.atFld ?_; first | refine G.fieldAddr rfl (tyy rfl) rfl rfl ?_) | (refine G.atSto ?_; refine G.storeOwn rfl rfl (tyy rfl) Za rfl rfl rfl rfl ?_))
    all_goals first | (exfalso; omega) | (exfalso; simp_all; done) | skip
    all_goals refine G.freezeRow (e := 90) (sz := 3) Za ?_
    all_goals intro h9 hle9 hs9
    all_goals exact G.done (rs := [.cell 2 90, .tmp 3]) rfl (.cellA rfl (tyy rfl) rfl rfl Za rfl (.tmp rfl .nil)) rfl [] (SubH.nil _) ⟨ElN.mk2 rfl (NodeC.mk_ hs9 (KidsC.of1 (lf_C _ 4 dn) (KidsC.of1 (hNd.mono' (by solve | repeat first | assumption | exact Zr _ | refine Zq ?_ Zp)) (KidsC.nil_ _)))), rfl⟩
end Go.Proofs.YtibkffoeioidlaaDoor
