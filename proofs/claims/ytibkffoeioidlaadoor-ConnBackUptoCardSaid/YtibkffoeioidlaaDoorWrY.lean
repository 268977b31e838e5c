/- castellanref11.Bare: a message without what plays no part. -/
import Derived.Test.YtibkffoeioidlaaDoorWrX
import Derived.Test.YtibkffoeioidlaaDoorFlQ
namespace Go.Proofs.YtibkffoeioidlaaDoor
set_option linter.all false
set_option maxRecDepth 4000
open Go.RowKit

theorem callBare11 : Callable Tryd.prog 32 := ⟨_, Tryd.func32, by kernel_rfl, rfl⟩
def MsU (h : Heap) (m : Ms) (u : Value) : Prop := ∃ pv kv nv av mv cv, u = .agg (msR m pv kv nv av mv cv).toArray /\ MsV h m pv kv nv av mv cv
theorem MsU.mk_ {h : Heap} {m : Ms} {pv kv nv av mv cv : Value} (hV : MsV h m pv kv nv av mv cv) : MsU h m (.agg (msR m pv kv nv av mv cv).toArray) := ⟨pv, kv, nv, av, mv, cv, rfl, hV⟩
theorem one_atrs {h : Heap} {l : List Atr} {rows : List (List Value)} (hl : LC AtrC h l rows) : ∀ r ∈ rows, ∀ q ∈ r, q.oneCell' = true :=
  hl.all fun {a r} ⟨v, e, hv⟩ q hq => by
    subst e
    obtain ⟨A, c, rfl, _⟩ := hv.form
    simp only [List.mem_cons, List.mem_nil_iff, or_false] at hq
    rcases hq with rfl | rfl <;> rfl
theorem one_mods {h : Heap} {l : List Mdf} {rows : List (List Value)} (hl : LC MdC h l rows) : ∀ r ∈ rows, ∀ q ∈ r, q.oneCell' = true :=
  hl.all fun {a r} ⟨v, e, hv⟩ q hq => by
    subst e
    obtain ⟨A, c, rfl, _⟩ := hv.form
    simp only [List.mem_cons, List.mem_nil_iff, or_false] at hq
    rcases hq with rfl | rfl | rfl <;> rfl
theorem bare_take {l : List Ctl} {i : Nat} {c : Ctl} (h : l[i]? = some c) : ctlsR ((l.take (i + 1)).map bareC) = ctlsR ((l.take i).map bareC) ++ [ctlR (bareC c)] := by
  rw [take_get h]; simp [ctlsR]
set_option maxRecDepth 8000 in
set_option maxHeartbeats 32000000 in
theorem ref11_Bare (m : Ms) (hw : m.wt <= 10000000) (pv kv nv av mv cv : Value) (h : Heap) (hV : MsV h m pv kv nv av mv cv) :
    Spec Tryd.prog 32 [.agg (msR m pv kv nv av mv cv).toArray] h [] (fun u h' H' => MsU h' (bareM m) u /\ H' = []) := by
  have hB := fun h' (hf : FlC h' m.fl (flR m.fl pv kv)) => ref10_Bare m.fl.sz m.fl (Nat.le_refl _) (by unfold Ms.wt at hw; omega) _ h' hf
  have hfl := hV.fl
  have hnm := hV.names
  obtain ⟨⟨pA, pn, pc, rfl⟩, ⟨kA, kn, kc, rfl⟩, ⟨nA, nn, nc, rfl⟩, _, _, _⟩ := hV.forms
  obtain ⟨aA, ac, rfl, _, hma⟩ := hV.attrs.form
  obtain ⟨mA, mc, rfl, _, hmm⟩ := hV.mods.form
  obtain ⟨ar, asl, ak⟩ := hV.attrs
  obtain ⟨mr, ms, mk⟩ := hV.mods
  have cs := hV.ctls
  have hcrl := ctlsR_length m.ctls
  obtain ⟨cA, cc, rfl, _, hcm, _⟩ := cs.form
  rw [hcrl] at cs
  rw [hcrl]
  clear hV
  simp only [maxLen] at hcm
  have har := ak.len
  have hmr := mk.len
  unfold Ms.wt at hw
  have hal := atrsW_len m.attrs
  have hmdl := mdsW_len m.mods
  have hcl := ctlsW_len m.ctls
  have hnl := bsW_len m.names
  obtain ⟨id, op, dn, ver, sasl, mech, text, scope, deref, size, time, types, fl, names, attrs, mods, rdn, delOld, hasSup, sup, attr, target, oid, has, value, code, matched, ctls⟩ := m
  simp only at hw hB hfl hnm asl ak ms mk cs hcrl har hmr hal hmdl hcl hnl
  refine Spec.enter Tryd.func32 rfl rfl ?_; intro w0
  repeat' (first | (refine G.atCode ?_; refine G.stopLoop ?_) | (refine G.atCode ?_; first | refine G.seq ?_ | refine G.region ?_ | refine G.block ?_) | refine G.endOps ?_ | refine G.op rfl rfl ?_ | (refine G.atLen ?_; first | refine G.lenSlice rfl (tyy rfl) rfl ?_) | (refine G.atLoad ?_; first | refine G.loadOwn1 rfl (tyy rfl) rfl rfl Za rfl rfl ?_) | (refine G.atFld ?_; first | refine G.fieldAddr rfl (tyy rfl) rfl rfl ?_) | (refine G.atSto ?_; refine G.storeOwn rfl rfl (tyy rfl) Za rfl rfl rfl rfl ?_) | (refine G.atAlc ?_; refine G.alloc (tyy rfl) rfl rfl ?_; intro _) | (refine G.atBox ?_; refine G.box rfl rfl rfl ?_; intro _) | (refine G.atBld ?_; refine G.build (tyy rfl) rfl rfl rfl ?_))
  all_goals first | (exfalso; omega) | skip
  rename_i g1 g2 g3
  refine G.nilRow 95 4 ?_
  refine G.go ?_
  refine G.loop (σ := Nat × Option Addr × Nat) (fun x => [(15, .int .i64 x.1), (14, .int .i64 ctls.length), (13, .slice cA ctls.length cc), (3, .pointer (some ⟨g3, 0, none⟩)), (2, .pointer (some ⟨g2, 0, none⟩)), (1, .pointer (some ⟨g1, 0, none⟩))])
    (fun x => [.blk g1 (msR ⟨id, op, dn, ver, sasl, mech, text, scope, deref, size, time, types, fl, names, attrs, mods, rdn, delOld, hasSup, sup, attr, target, oid, has, value, code, matched, ctls⟩ (.slice pA pn pc) (.slice kA kn kc) (.slice nA nn nc) (.slice aA attrs.length ac) (.slice mA mods.length mc) (.slice cA ctls.length cc)) 51, .blk g2 (msR zM nilV nilV nilV nilV nilV nilV) 51, .blk g3 (msR { zM with id := id, op := op } nilV nilV nilV nilV nilV (.slice x.2.1 (ctlsR ((ctls.take x.1).map bareC)).length x.2.2)) 51, .row (.slice x.2.1 (ctlsR ((ctls.take x.1).map bareC)).length x.2.2) 95 4 (ctlsR ((ctls.take x.1).map bareC))])
    (fun x _ => x.1 <= ctls.length) (fun x => ctls.length - x.1) ⟨0, none, 0⟩ ⟨rfl, rfl, rfl, rfl, rfl, rfl, trivial⟩ Zu (Nat.zero_le _) ?_
  rintro ⟨i, A, c⟩ h3 hle3 hi
  simp only at hi
  refine G.norm (by (try dsimp only) <;> exact rfl) (by (try dsimp only) <;> exact rfl) ?_
  by_cases hlt : i < ctls.length
  . obtain ⟨⟨xo, xc, xh, xv⟩, hx⟩ : ∃ x, ctls[i]? = some x := ⟨ctls[i], List.getElem?_eq_getElem hlt⟩
    have e1 := ctlsR_get hx
    have hl1 : (ctlR ⟨xo, xc, xh, xv⟩).length = 4 := rfl
    unfold ctlR at e1 hl1
    have hn0 := bare_take hx
    have hpl : (ctlsR ((ctls.take i).map bareC)).length = i := by rw [ctlsR_length, List.length_map, List.length_take]; omega
    generalize ctlsR ((ctls.take i).map bareC) = P at *
    cases xh
    . have hn1 : ctlsR ((ctls.take (i + 1)).map bareC) = P ++ [[str xo, .bool xc, .bool false, str []]] := hn0
      repeat' (first | (refine G.atIdx ?_; refine G.idxImm rfl rfl (tyy rfl) (tyy rfl) (cs.mono (by solve | repeat first | assumption | exact Zr _ | refine Zq ?_ Zp)) Zj rfl (by omega) ?_; intro p1 r1 hx1 hp1; (rw [e1] at hx1); (obtain rfl := Option.some.inj hx1)) | (refine G.atApp ?_; refine G.append1 rfl rfl (tyy rfl) (tyy rfl) rfl rfl Za Za rfl rfl rfl Zo ?_; intro _; refine G.rowForm Take.hd ?_; rintro _ _ rfl) | (refine G.atCode ?_; first | refine G.seq ?_ | refine G.region ?_ | refine G.block ?_ | refine G.skip ?_ | (refine G.cond rfl ?_ ?_ <;> intro hc <;> (try simp only [tests, reduceCtorEq] at hc) <;> (try exact Zf))) | refine G.endOps ?_ | refine G.endBlk ?_ | (refine G.atBin ?_; first | (refine G.atAdd ?_; first | refine G.arith rfl rfl rfl rfl rfl Zi ?_) | refine G.op rfl rfl ?_) | refine G.op rfl rfl ?_ | (refine G.atLoad ?_; first | refine G.loadOwn1 rfl (tyy rfl) rfl rfl Za rfl rfl ?_ | refine G.loadOwnA rfl (tyy rfl) rfl rfl Za rfl rfl ?_ | refine G.loadImmA rfl (tyy rfl) rfl rfl Zp Zp rfl ?_) | (refine G.atFld ?_; first | refine G.fieldAddr rfl (tyy rfl) rfl rfl ?_) | (refine G.atSto ?_; refine G.storeOwn rfl rfl (tyy rfl) Za rfl rfl rfl rfl ?_) | (refine G.atAlc ?_; refine G.alloc (tyy rfl) rfl rfl ?_; intro _) | (refine G.atBsl ?_; refine G.buildSlice (tyy rfl) (tyy rfl) rfl rfl rfl rfl ?_; intro _))
      all_goals first | (exfalso; omega) | (exfalso; simp_all; done) | skip
      rename_i A' c'
      refine G.again ⟨i + 1, A', c'⟩ ?_ ?_ (by simp only; omega) (by solve | repeat first | assumption | exact Zr _ | refine Zq ?_ Zp) (by simp only; omega)
      . exact ⟨sint (by simp), rfl, rfl, rfl, rfl, rfl, trivial⟩
      . simp only [hn1]
        exact Zu
    . have hn1 : ctlsR ((ctls.take (i + 1)).map bareC) = P ++ [[str xo, .bool xc, .bool true, str xv]] := hn0
      repeat' (first | (refine G.atIdx ?_; refine G.idxImm rfl rfl (tyy rfl) (tyy rfl) (cs.mono (by solve | repeat first | assumption | exact Zr _ | refine Zq ?_ Zp)) Zj rfl (by omega) ?_; intro p1 r1 hx1 hp1; (rw [e1] at hx1); (obtain rfl := Option.some.inj hx1)) | (refine G.atApp ?_; refine G.append1 rfl rfl (tyy rfl) (tyy rfl) rfl rfl Za Za rfl rfl rfl Zo ?_; intro _; refine G.rowForm Take.hd ?_; rintro _ _ rfl) | (refine G.atCode ?_; first | refine G.seq ?_ | refine G.region ?_ | refine G.block ?_ | refine G.skip ?_ | (refine G.cond rfl ?_ ?_ <;> intro hc <;> (try simp only [tests, reduceCtorEq] at hc) <;> (try exact Zf))) | refine G.endOps ?_ | refine G.endBlk ?_ | (refine G.atBin ?_; first | (refine G.atAdd ?_; first | refine G.arith rfl rfl rfl rfl rfl Zi ?_) | refine G.op rfl rfl ?_) | refine G.op rfl rfl ?_ | (refine G.atLoad ?_; first | refine G.loadOwn1 rfl (tyy rfl) rfl rfl Za rfl rfl ?_ | refine G.loadOwnA rfl (tyy rfl) rfl rfl Za rfl rfl ?_ | refine G.loadImmA rfl (tyy rfl) rfl rfl Zp Zp rfl ?_) | (refine G.atFld ?_; first | refine G.fieldAddr rfl (tyy rfl) rfl rfl ?_) | (refine G.atSto ?_; refine G.storeOwn rfl rfl (tyy rfl) Za rfl rfl rfl rfl ?_) | (refine G.atAlc ?_; refine G.alloc (tyy rfl) rfl rfl ?_; intro _) | (refine G.atBsl ?_; refine G.buildSlice (tyy rfl) (tyy rfl) rfl rfl rfl rfl ?_; intro _))
      all_goals first | (exfalso; omega) | (exfalso; simp_all; done) | skip
      rename_i A' c'
      refine G.again ⟨i + 1, A', c'⟩ ?_ ?_ (by simp only; omega) (by solve | repeat first | assumption | exact Zr _ | refine Zq ?_ Zp) (by simp only; omega)
      . exact ⟨sint (by simp), rfl, rfl, rfl, rfl, rfl, trivial⟩
      . simp only [hn1]
        exact Zu
  . obtain rfl : i = ctls.length := by omega
    rw [List.take_length]
    refine G.freezeRow (v := .slice A (ctlsR (ctls.map bareC)).length c) Za ?_
    intro h9 hle9 hs9
    generalize hBC : ctls.map bareC = B at *
    have hcases : op = 0 \/ op = 3 \/ op = 4 \/ op = 8 \/ op = 6 \/ op = 10 \/ op = 12 \/ op = 14 \/ op = 16 \/ op = 23 \/ op = 24 \/ (op = 1 \/ op = 5 \/ op = 7 \/ op = 9 \/ op = 11 \/ op = 13 \/ op = 15) \/ (op ≠ 0 /\ op ≠ 1 /\ op ≠ 3 /\ op ≠ 4 /\ op ≠ 5 /\ op ≠ 6 /\ op ≠ 7 /\ op ≠ 8 /\ op ≠ 9 /\ op ≠ 10 /\ op ≠ 11 /\ op ≠ 12 /\ op ≠ 13 /\ op ≠ 14 /\ op ≠ 15 /\ op ≠ 16 /\ op ≠ 23 /\ op ≠ 24) := by omega
    rcases hcases with rfl | rfl | rfl | rfl | rfl | rfl | rfl | rfl | rfl | rfl | rfl | hop | hop
    . cases sasl
      . have eb : bareM ⟨id, 0, dn, ver, false, mech, text, scope, deref, size, time, types, fl, names, attrs, mods, rdn, delOld, hasSup, sup, attr, target, oid, has, value, code, matched, ctls⟩ = { zM with id := id, op := 0, ctls := B, dn := dn, ver := ver, text := text } := by
          subst hBC; rfl
        rw [eb]
        clear eb
        repeat' (first | (refine G.atCode ?_; first | refine G.seq ?_ | refine G.region ?_ | refine G.skip ?_ | refine G.exit rfl ?_ | refine G.ret ?_ | (refine G.cond rfl ?_ ?_ <;> intro hc <;> (try simp only [tests, reduceCtorEq] at hc) <;> (try exact Zf))) | refine G.endOps ?_ | (refine G.atGd ?_; first | refine G.guardYes rfl rfl ?_ | refine G.guardNoS rfl rfl rfl ?_) | (refine G.atBin ?_; first | (refine G.atEql ?_; first | refine G.op rfl rfl ?_) | refine G.op rfl rfl ?_) | refine G.op rfl rfl ?_ | (refine G.atLoad ?_; first | refine G.loadOwn1 rfl (tyy rfl) rfl rfl Za rfl rfl ?_ | refine G.loadOwnA rfl (tyy rfl) rfl rfl Za rfl rfl ?_) | (refine G.atFld ?_; first | refine G.fieldAddr rfl (tyy rfl) rfl rfl ?_) | (refine G.atSto ?_; refine G.storeOwn rfl rfl (tyy rfl) Za rfl rfl rfl rfl ?_))
        all_goals first | (exfalso; omega) | (exfalso; simp_all; done) | skip
        all_goals exact G.done (rs := [.cell 2 51]) rfl (.cellA rfl (tyy rfl) rfl rfl Za rfl .nil) rfl [] (SubH.nil _) ⟨MsU.mk_ (m := { zM with id := id, op := 0, ctls := B, dn := dn, ver := ver, text := text }) ⟨zF_C _, HSl.nil _ 1, SC.nil _ 2 _, SC.nil _ 3 _, hs9.mono (by solve | repeat first | assumption | exact Zr _ | refine Zq ?_ Zp)⟩, rfl⟩
      . cases has
        . have eb : bareM ⟨id, 0, dn, ver, true, mech, text, scope, deref, size, time, types, fl, names, attrs, mods, rdn, delOld, hasSup, sup, attr, target, oid, false, value, code, matched, ctls⟩ = { zM with id := id, op := 0, ctls := B, dn := dn, ver := ver, sasl := true, mech := mech } := by
            subst hBC; rfl
          rw [eb]
          clear eb
          repeat' (first | (refine G.atCode ?_; first | refine G.seq ?_ | refine G.region ?_ | refine G.skip ?_ | refine G.exit rfl ?_ | refine G.ret ?_ | (refine G.cond rfl ?_ ?_ <;> intro hc <;> (try simp only [tests, reduceCtorEq] at hc) <;> (try exact Zf))) | refine G.endOps ?_ | (refine G.atGd ?_; first | refine G.guardYes rfl rfl ?_ | refine G.guardNoS rfl rfl rfl ?_) | (refine G.atBin ?_; first | (refine G.atEql ?_; first | refine G.op rfl rfl ?_) | refine G.op rfl rfl ?_) | refine G.op rfl rfl ?_ | (refine G.atLoad ?_; first | refine G.loadOwn1 rfl (tyy rfl) rfl rfl Za rfl rfl ?_ | refine G.loadOwnA rfl (tyy rfl) rfl rfl Za rfl rfl ?_) | (refine G.atFld ?_; first | refine G.fieldAddr rfl (tyy rfl) rfl rfl ?_) | (refine G.atSto ?_; refine G.storeOwn rfl rfl (tyy rfl) Za rfl rfl rfl rfl ?_))
          all_goals first | (exfalso; omega) | (exfalso; simp_all; done) | skip
          all_goals exact G.done (rs := [.cell 2 51]) rfl (.cellA rfl (tyy rfl) rfl rfl Za rfl .nil) rfl [] (SubH.nil _) ⟨MsU.mk_ (m := { zM with id := id, op := 0, ctls := B, dn := dn, ver := ver, sasl := true, mech := mech }) ⟨zF_C _, HSl.nil _ 1, SC.nil _ 2 _, SC.nil _ 3 _, hs9.mono (by solve | repeat first | assumption | exact Zr _ | refine Zq ?_ Zp)⟩, rfl⟩
        . have eb : bareM ⟨id, 0, dn, ver, true, mech, text, scope, deref, size, time, types, fl, names, attrs, mods, rdn, delOld, hasSup, sup, attr, target, oid, true, value, code, matched, ctls⟩ = { zM with id := id, op := 0, ctls := B, dn := dn, ver := ver, sasl := true, mech := mech, has := true, value := value } := by
            subst hBC; rfl
          rw [eb]
          clear eb
          repeat' (first | (refine G.atCode ?_; first | refine G.seq ?_ | refine G.region ?_ | refine G.skip ?_ | refine G.exit rfl ?_ | refine G.ret ?_ | (refine G.cond rfl ?_ ?_ <;> intro hc <;> (try simp only [tests, reduceCtorEq] at hc) <;> (try exact Zf))) | refine G.endOps ?_ | (refine G.atGd ?_; first | refine G.guardYes rfl rfl ?_ | refine G.guardNoS rfl rfl rfl ?_) | (refine G.atBin ?_; first | (refine G.atEql ?_; first | refine G.op rfl rfl ?_) | refine G.op rfl rfl ?_) | refine G.op rfl rfl ?_ | (refine G.atLoad ?_; first | refine G.loadOwn1 rfl (tyy rfl) rfl rfl Za rfl rfl ?_ | refine G.loadOwnA rfl (tyy rfl) rfl rfl Za rfl rfl ?_) | (refine G.atFld ?_; first | refine G.fieldAddr rfl (tyy rfl) rfl rfl ?_) | (refine G.atSto ?_; refine G.storeOwn rfl rfl (tyy rfl) Za rfl rfl rfl rfl ?_))
          all_goals first | (exfalso; omega) | (exfalso; simp_all; done) | skip
          all_goals exact G.done (rs := [.cell 2 51]) rfl (.cellA rfl (tyy rfl) rfl rfl Za rfl .nil) rfl [] (SubH.nil _) ⟨MsU.mk_ (m := { zM with id := id, op := 0, ctls := B, dn := dn, ver := ver, sasl := true, mech := mech, has := true, value := value }) ⟨zF_C _, HSl.nil _ 1, SC.nil _ 2 _, SC.nil _ 3 _, hs9.mono (by solve | repeat first | assumption | exact Zr _ | refine Zq ?_ Zp)⟩, rfl⟩
    . have eb : bareM ⟨id, 3, dn, ver, sasl, mech, text, scope, deref, size, time, types, fl, names, attrs, mods, rdn, delOld, hasSup, sup, attr, target, oid, has, value, code, matched, ctls⟩ = { zM with id := id, op := 3, ctls := B, dn := dn, scope := scope, deref := deref, size := size, time := time, types := types, fl := bareF fl, names := names } := by
        subst hBC; rfl
      rw [eb]
      clear eb
      refine G.nilRow 9 1 ?_
      repeat' (first | (show G _ (.ops .seq _ (⟨some _, .call { callee := .value (.func 65), args := _, argTypes := _ }, _, _, _, none⟩ :: _) :: _) _ _ _; refine G.call callRBare rfl rfl (hB _ (FlC.mono (by solve | repeat first | assumption | exact Zr _ | refine Zq ?_ Zp) _ _ hfl)) Ze ?_; rintro _ h5 H5 ⟨⟨c5, hc5, rfl⟩, rfl⟩ hle5; obtain ⟨pv5, kv5, rw5, rfl, hs51, hs52, hk5⟩ := hc5.shape; obtain ⟨A5, d5, rfl, _⟩ := hs51.form; obtain ⟨B5, e5, rfl, _⟩ := hs52.form) | (refine G.atApp ?_; refine G.appendImm rfl rfl (tyy rfl) (tyy rfl) rfl rfl Za (hnm.mono (by solve | repeat first | assumption | exact Zr _ | refine Zq ?_ Zp)) (one_strs _) rfl (by simp only [List.length_nil, strsR_length]; omega) ?_; intro _; refine G.rowForm Take.hd ?_; rintro _ _ rfl) | (refine G.atCode ?_; first | refine G.seq ?_ | refine G.region ?_ | refine G.skip ?_ | refine G.exit rfl ?_ | refine G.ret ?_ | (refine G.cond rfl ?_ ?_ <;> intro hc <;> (try simp only [tests, reduceCtorEq] at hc) <;> (try exact Zf))) | refine G.endOps ?_ | (refine G.atGd ?_; first | refine G.guardYes rfl rfl ?_ | refine G.guardNoS rfl rfl rfl ?_) | (refine G.atBin ?_; first | (refine G.atEql ?_; first | refine G.op rfl rfl ?_) | refine G.op rfl rfl ?_) | refine G.op rfl rfl ?_ | (refine G.atLoad ?_; first | refine G.loadOwn1 rfl (tyy rfl) rfl rfl Za rfl rfl ?_ | refine G.loadOwnA rfl (tyy rfl) rfl rfl Za rfl rfl ?_) | (refine G.atFld ?_; first | refine G.fieldAddr rfl (tyy rfl) rfl rfl ?_) | (refine G.atSto ?_; refine G.storeOwn rfl rfl (tyy rfl) Za rfl rfl rfl rfl ?_))
      all_goals first | (exfalso; omega) | (exfalso; simp_all; done) | skip
      all_goals refine G.freezeRow (e := 9) (sz := 1) Za ?_
      all_goals intro h8 hle8 hs8
      all_goals exact G.done (rs := [.cell 2 51]) rfl (.cellA rfl (tyy rfl) rfl rfl Za rfl .nil) rfl [] (SubH.nil _) ⟨MsU.mk_ (m := { zM with id := id, op := 3, ctls := B, dn := dn, scope := scope, deref := deref, size := size, time := time, types := types, fl := bareF fl, names := names }) ⟨FlC.mono (by solve | repeat first | assumption | exact Zr _ | refine Zq ?_ Zp) _ _ hc5, hs8.mono (by solve | repeat first | assumption | exact Zr _ | refine Zq ?_ Zp), SC.nil _ 2 _, SC.nil _ 3 _, hs9.mono (by solve | repeat first | assumption | exact Zr _ | refine Zq ?_ Zp)⟩, rfl⟩
    . have eb : bareM ⟨id, 4, dn, ver, sasl, mech, text, scope, deref, size, time, types, fl, names, attrs, mods, rdn, delOld, hasSup, sup, attr, target, oid, has, value, code, matched, ctls⟩ = { zM with id := id, op := 4, ctls := B, dn := dn, attrs := attrs } := by
        subst hBC; rfl
      rw [eb]
      clear eb
      refine G.nilRow 83 2 ?_
      repeat' (first | (refine G.atApp ?_; refine G.appendImm rfl rfl (tyy rfl) (tyy rfl) rfl rfl Za (asl.mono (by solve | repeat first | assumption | exact Zr _ | refine Zq ?_ Zp)) (one_atrs ak) rfl (by simp only [List.length_nil]; omega) ?_; intro _; refine G.rowForm Take.hd ?_; rintro _ _ rfl) | (refine G.atCode ?_; first | refine G.seq ?_ | refine G.region ?_ | refine G.skip ?_ | refine G.exit rfl ?_ | refine G.ret ?_ | (refine G.cond rfl ?_ ?_ <;> intro hc <;> (try simp only [tests, reduceCtorEq] at hc) <;> (try exact Zf))) | refine G.endOps ?_ | (refine G.atGd ?_; first | refine G.guardYes rfl rfl ?_ | refine G.guardNoS rfl rfl rfl ?_) | (refine G.atBin ?_; first | (refine G.atEql ?_; first | refine G.op rfl rfl ?_) | refine G.op rfl rfl ?_) | refine G.op rfl rfl ?_ | (refine G.atLoad ?_; first | refine G.loadOwn1 rfl (tyy rfl) rfl rfl Za rfl rfl ?_ | refine G.loadOwnA rfl (tyy rfl) rfl rfl Za rfl rfl ?_) | (refine G.atFld ?_; first | refine G.fieldAddr rfl (tyy rfl) rfl rfl ?_) | (refine G.atSto ?_; refine G.storeOwn rfl rfl (tyy rfl) Za rfl rfl rfl rfl ?_))
      all_goals first | (exfalso; omega) | (exfalso; simp_all; done) | skip
      all_goals refine G.freezeRow (e := 83) (sz := 2) Za ?_
      all_goals intro h8 hle8 hs8
      all_goals exact G.done (rs := [.cell 2 51]) rfl (.cellA rfl (tyy rfl) rfl rfl Za rfl .nil) rfl [] (SubH.nil _) ⟨MsU.mk_ (m := { zM with id := id, op := 4, ctls := B, dn := dn, attrs := attrs }) ⟨zF_C _, HSl.nil _ 1, ⟨_, hs8.mono (by solve | repeat first | assumption | exact Zr _ | refine Zq ?_ Zp), ak.mono (fun x => x.mono (by solve | repeat first | assumption | exact Zr _ | refine Zq ?_ Zp))⟩, SC.nil _ 3 _, hs9.mono (by solve | repeat first | assumption | exact Zr _ | refine Zq ?_ Zp)⟩, rfl⟩
    . have eb : bareM ⟨id, 8, dn, ver, sasl, mech, text, scope, deref, size, time, types, fl, names, attrs, mods, rdn, delOld, hasSup, sup, attr, target, oid, has, value, code, matched, ctls⟩ = { zM with id := id, op := 8, ctls := B, dn := dn, attrs := attrs } := by
        subst hBC; rfl
      rw [eb]
      clear eb
      refine G.nilRow 83 2 ?_
      repeat' (first | (refine G.atApp ?_; refine G.appendImm rfl rfl (tyy rfl) (tyy rfl) rfl rfl Za (asl.mono (by solve | repeat first | assumption | exact Zr _ | refine Zq ?_ Zp)) (one_atrs ak) rfl (by simp only [List.length_nil]; omega) ?_; intro _; refine G.rowForm Take.hd ?_; rintro _ _ rfl) | (refine G.atCode ?_; first | refine G.seq ?_ | refine G.region ?_ | refine G.skip ?_ | refine G.exit rfl ?_ | refine G.ret ?_ | (refine G.cond rfl ?_ ?_ <;> intro hc <;> (try simp only [tests, reduceCtorEq] at hc) <;> (try exact Zf))) | refine G.endOps ?_ | (refine G.atGd ?_; first | refine G.guardYes rfl rfl ?_ | refine G.guardNoS rfl rfl rfl ?_) | (refine G.atBin ?_; first | (refine G.atEql ?_; first | refine G.op rfl rfl ?_) | refine G.op rfl rfl ?_) | refine G.op rfl rfl ?_ | (refine G.atLoad ?_; first | refine G.loadOwn1 rfl (tyy rfl) rfl rfl Za rfl rfl ?_ | refine G.loadOwnA rfl (tyy rfl) rfl rfl Za rfl rfl ?_) | (refine G.atFld ?_; first | refine G.fieldAddr rfl (tyy rfl) rfl rfl ?_) | (refine G.atSto ?_; refine G.storeOwn rfl rfl (tyy rfl) Za rfl rfl rfl rfl ?_))
      all_goals first | (exfalso; omega) | (exfalso; simp_all; done) | skip
      all_goals refine G.freezeRow (e := 83) (sz := 2) Za ?_
      all_goals intro h8 hle8 hs8
      all_goals exact G.done (rs := [.cell 2 51]) rfl (.cellA rfl (tyy rfl) rfl rfl Za rfl .nil) rfl [] (SubH.nil _) ⟨MsU.mk_ (m := { zM with id := id, op := 8, ctls := B, dn := dn, attrs := attrs }) ⟨zF_C _, HSl.nil _ 1, ⟨_, hs8.mono (by solve | repeat first | assumption | exact Zr _ | refine Zq ?_ Zp), ak.mono (fun x => x.mono (by solve | repeat first | assumption | exact Zr _ | refine Zq ?_ Zp))⟩, SC.nil _ 3 _, hs9.mono (by solve | repeat first | assumption | exact Zr _ | refine Zq ?_ Zp)⟩, rfl⟩
    . have eb : bareM ⟨id, 6, dn, ver, sasl, mech, text, scope, deref, size, time, types, fl, names, attrs, mods, rdn, delOld, hasSup, sup, attr, target, oid, has, value, code, matched, ctls⟩ = { zM with id := id, op := 6, ctls := B, dn := dn, mods := mods } := by
        subst hBC; rfl
      rw [eb]
      clear eb
      refine G.nilRow 85 3 ?_
      repeat' (first | (refine G.atApp ?_; refine G.appendImm rfl rfl (tyy rfl) (tyy rfl) rfl rfl Za (ms.mono (by solve | repeat first | assumption | exact Zr _ | refine Zq ?_ Zp)) (one_mods mk) rfl (by simp only [List.length_nil]; omega) ?_; intro _; refine G.rowForm Take.hd ?_; rintro _ _ rfl) | (refine G.atCode ?_; first | refine G.seq ?_ | refine G.region ?_ | refine G.skip ?_ | refine G.exit rfl ?_ | refine G.ret ?_ | (refine G.cond rfl ?_ ?_ <;> intro hc <;> (try simp only [tests, reduceCtorEq] at hc) <;> (try exact Zf))) | refine G.endOps ?_ | (refine G.atGd ?_; first | refine G.guardYes rfl rfl ?_ | refine G.guardNoS rfl rfl rfl ?_) | (refine G.atBin ?_; first | (refine G.atEql ?_; first | refine G.op rfl rfl ?_) | refine G.op rfl rfl ?_) | refine G.op rfl rfl ?_ | (refine G.atLoad ?_; first | refine G.loadOwn1 rfl (tyy rfl) rfl rfl Za rfl rfl ?_ | refine G.loadOwnA rfl (tyy rfl) rfl rfl Za rfl rfl ?_) | (refine G.atFld ?_; first | refine G.fieldAddr rfl (tyy rfl) rfl rfl ?_) | (refine G.atSto ?_; refine G.storeOwn rfl rfl (tyy rfl) Za rfl rfl rfl rfl ?_))
      all_goals first | (exfalso; omega) | (exfalso; simp_all; done) | skip
      all_goals refine G.freezeRow (e := 85) (sz := 3) Za ?_
      all_goals intro h8 hle8 hs8
      all_goals exact G.done (rs := [.cell 2 51]) rfl (.cellA rfl (tyy rfl) rfl rfl Za rfl .nil) rfl [] (SubH.nil _) ⟨MsU.mk_ (m := { zM with id := id, op := 6, ctls := B, dn := dn, mods := mods }) ⟨zF_C _, HSl.nil _ 1, SC.nil _ 2 _, ⟨_, hs8.mono (by solve | repeat first | assumption | exact Zr _ | refine Zq ?_ Zp), mk.mono (fun x => x.mono (by solve | repeat first | assumption | exact Zr _ | refine Zq ?_ Zp))⟩, hs9.mono (by solve | repeat first | assumption | exact Zr _ | refine Zq ?_ Zp)⟩, rfl⟩
    . have eb : bareM ⟨id, 10, dn, ver, sasl, mech, text, scope, deref, size, time, types, fl, names, attrs, mods, rdn, delOld, hasSup, sup, attr, target, oid, has, value, code, matched, ctls⟩ = { zM with id := id, op := 10, ctls := B, dn := dn } := by
        subst hBC; rfl
      rw [eb]
      clear eb
      repeat' (first | (refine G.atCode ?_; first | refine G.seq ?_ | refine G.region ?_ | refine G.skip ?_ | refine G.exit rfl ?_ | refine G.ret ?_ | (refine G.cond rfl ?_ ?_ <;> intro hc <;> (try simp only [tests, reduceCtorEq] at hc) <;> (try exact Zf))) | refine G.endOps ?_ | (refine G.atGd ?_; first | refine G.guardYes rfl rfl ?_ | refine G.guardNoS rfl rfl rfl ?_) | (refine G.atBin ?_; first | (refine G.atEql ?_; first | refine G.op rfl rfl ?_) | refine G.op rfl rfl ?_) | refine G.op rfl rfl ?_ | (refine G.atLoad ?_; first | refine G.loadOwn1 rfl (tyy rfl) rfl rfl Za rfl rfl ?_ | refine G.loadOwnA rfl (tyy rfl) rfl rfl Za rfl rfl ?_) | (refine G.atFld ?_; first | refine G.fieldAddr rfl (tyy rfl) rfl rfl ?_) | (refine G.atSto ?_; refine G.storeOwn rfl rfl (tyy rfl) Za rfl rfl rfl rfl ?_))
      all_goals first | (exfalso; omega) | (exfalso; simp_all; done) | skip
      all_goals exact G.done (rs := [.cell 2 51]) rfl (.cellA rfl (tyy rfl) rfl rfl Za rfl .nil) rfl [] (SubH.nil _) ⟨MsU.mk_ (m := { zM with id := id, op := 10, ctls := B, dn := dn }) ⟨zF_C _, HSl.nil _ 1, SC.nil _ 2 _, SC.nil _ 3 _, hs9.mono (by solve | repeat first | assumption | exact Zr _ | refine Zq ?_ Zp)⟩, rfl⟩
    . cases hasSup
      . have eb : bareM ⟨id, 12, dn, ver, sasl, mech, text, scope, deref, size, time, types, fl, names, attrs, mods, rdn, delOld, false, sup, attr, target, oid, has, value, code, matched, ctls⟩ = { zM with id := id, op := 12, ctls := B, dn := dn, rdn := rdn, delOld := delOld } := by
          subst hBC; rfl
        rw [eb]
        clear eb
        repeat' (first | (refine G.atCode ?_; first | refine G.seq ?_ | refine G.region ?_ | refine G.skip ?_ | refine G.exit rfl ?_ | refine G.ret ?_ | (refine G.cond rfl ?_ ?_ <;> intro hc <;> (try simp only [tests, reduceCtorEq] at hc) <;> (try exact Zf))) | refine G.endOps ?_ | (refine G.atGd ?_; first | refine G.guardYes rfl rfl ?_ | refine G.guardNoS rfl rfl rfl ?_) | (refine G.atBin ?_; first | (refine G.atEql ?_; first | refine G.op rfl rfl ?_) | refine G.op rfl rfl ?_) | refine G.op rfl rfl ?_ | (refine G.atLoad ?_; first | refine G.loadOwn1 rfl (tyy rfl) rfl rfl Za rfl rfl ?_ | refine G.loadOwnA rfl (tyy rfl) rfl rfl Za rfl rfl ?_) | (refine G.atFld ?_; first | refine G.fieldAddr rfl (tyy rfl) rfl rfl ?_) | (refine G.atSto ?_; refine G.storeOwn rfl rfl (tyy rfl) Za rfl rfl rfl rfl ?_))
        all_goals first | (exfalso; omega) | (exfalso; simp_all; done) | skip
        all_goals exact G.done (rs := [.cell 2 51]) rfl (.cellA rfl (tyy rfl) rfl rfl Za rfl .nil) rfl [] (SubH.nil _) ⟨MsU.mk_ (m := { zM with id := id, op := 12, ctls := B, dn := dn, rdn := rdn, delOld := delOld }) ⟨zF_C _, HSl.nil _ 1, SC.nil _ 2 _, SC.nil _ 3 _, hs9.mono (by solve | repeat first | assumption | exact Zr _ | refine Zq ?_ Zp)⟩, rfl⟩
      . have eb : bareM ⟨id, 12, dn, ver, sasl, mech, text, scope, deref, size, time, types, fl, names, attrs, mods, rdn, delOld, true, sup, attr, target, oid, has, value, code, matched, ctls⟩ = { zM with id := id, op := 12, ctls := B, dn := dn, rdn := rdn, delOld := delOld, hasSup := true, sup := sup } := by
          subst hBC; rfl
        rw [eb]
        clear eb
        repeat' (first | (refine G.atCode ?_; first | refine G.seq ?_ | refine G.region ?_ | refine G.skip ?_ | refine G.exit rfl ?_ | refine G.ret ?_ | (refine G.cond rfl ?_ ?_ <;> intro hc <;> (try simp only [tests, reduceCtorEq] at hc) <;> (try exact Zf))) | refine G.endOps ?_ | (refine G.atGd ?_; first | refine G.guardYes rfl rfl ?_ | refine G.guardNoS rfl rfl rfl ?_) | (refine G.atBin ?_; first | (refine G.atEql ?_; first | refine G.op rfl rfl ?_) | refine G.op rfl rfl ?_) | refine G.op rfl rfl ?_ | (refine G.atLoad ?_; first | refine G.loadOwn1 rfl (tyy rfl) rfl rfl Za rfl rfl ?_ | refine G.loadOwnA rfl (tyy rfl) rfl rfl Za rfl rfl ?_) | (refine G.atFld ?_; first | refine G.fieldAddr rfl (tyy rfl) rfl rfl ?_) | (refine G.atSto ?_; refine G.storeOwn rfl rfl (tyy rfl) Za rfl rfl rfl rfl ?_))
        all_goals first | (exfalso; omega) | (exfalso; simp_all; done) | skip
        all_goals exact G.done (rs := [.cell 2 51]) rfl (.cellA rfl (tyy rfl) rfl rfl Za rfl .nil) rfl [] (SubH.nil _) ⟨MsU.mk_ (m := { zM with id := id, op := 12, ctls := B, dn := dn, rdn := rdn, delOld := delOld, hasSup := true, sup := sup }) ⟨zF_C _, HSl.nil _ 1, SC.nil _ 2 _, SC.nil _ 3 _, hs9.mono (by solve | repeat first | assumption | exact Zr _ | refine Zq ?_ Zp)⟩, rfl⟩
    . have eb : bareM ⟨id, 14, dn, ver, sasl, mech, text, scope, deref, size, time, types, fl, names, attrs, mods, rdn, delOld, hasSup, sup, attr, target, oid, has, value, code, matched, ctls⟩ = { zM with id := id, op := 14, ctls := B, dn := dn, attr := attr, text := text } := by
        subst hBC; rfl
      rw [eb]
      clear eb
      repeat' (first | (refine G.atCode ?_; first | refine G.seq ?_ | refine G.region ?_ | refine G.skip ?_ | refine G.exit rfl ?_ | refine G.ret ?_ | (refine G.cond rfl ?_ ?_ <;> intro hc <;> (try simp only [tests, reduceCtorEq] at hc) <;> (try exact Zf))) | refine G.endOps ?_ | (refine G.atGd ?_; first | refine G.guardYes rfl rfl ?_ | refine G.guardNoS rfl rfl rfl ?_) | (refine G.atBin ?_; first | (refine G.atEql ?_; first | refine G.op rfl rfl ?_) | refine G.op rfl rfl ?_) | refine G.op rfl rfl ?_ | (refine G.atLoad ?_; first | refine G.loadOwn1 rfl (tyy rfl) rfl rfl Za rfl rfl ?_ | refine G.loadOwnA rfl (tyy rfl) rfl rfl Za rfl rfl ?_) | (refine G.atFld ?_; first | refine G.fieldAddr rfl (tyy rfl) rfl rfl ?_) | (refine G.atSto ?_; refine G.storeOwn rfl rfl (tyy rfl) Za rfl rfl rfl rfl ?_))
      all_goals first | (exfalso; omega) | (exfalso; simp_all; done) | skip
      all_goals exact G.done (rs := [.cell 2 51]) rfl (.cellA rfl (tyy rfl) rfl rfl Za rfl .nil) rfl [] (SubH.nil _) ⟨MsU.mk_ (m := { zM with id := id, op := 14, ctls := B, dn := dn, attr := attr, text := text }) ⟨zF_C _, HSl.nil _ 1, SC.nil _ 2 _, SC.nil _ 3 _, hs9.mono (by solve | repeat first | assumption | exact Zr _ | refine Zq ?_ Zp)⟩, rfl⟩
    . have eb : bareM ⟨id, 16, dn, ver, sasl, mech, text, scope, deref, size, time, types, fl, names, attrs, mods, rdn, delOld, hasSup, sup, attr, target, oid, has, value, code, matched, ctls⟩ = { zM with id := id, op := 16, ctls := B, target := target } := by
        subst hBC; rfl
      rw [eb]
      clear eb
      repeat' (first | (refine G.atCode ?_; first | refine G.seq ?_ | refine G.region ?_ | refine G.skip ?_ | refine G.exit rfl ?_ | refine G.ret ?_ | (refine G.cond rfl ?_ ?_ <;> intro hc <;> (try simp only [tests, reduceCtorEq] at hc) <;> (try exact Zf))) | refine G.endOps ?_ | (refine G.atGd ?_; first | refine G.guardYes rfl rfl ?_ | refine G.guardNoS rfl rfl rfl ?_) | (refine G.atBin ?_; first | (refine G.atEql ?_; first | refine G.op rfl rfl ?_) | refine G.op rfl rfl ?_) | refine G.op rfl rfl ?_ | (refine G.atLoad ?_; first | refine G.loadOwn1 rfl (tyy rfl) rfl rfl Za rfl rfl ?_ | refine G.loadOwnA rfl (tyy rfl) rfl rfl Za rfl rfl ?_) | (refine G.atFld ?_; first | refine G.fieldAddr rfl (tyy rfl) rfl rfl ?_) | (refine G.atSto ?_; refine G.storeOwn rfl rfl (tyy rfl) Za rfl rfl rfl rfl ?_))
      all_goals first | (exfalso; omega) | (exfalso; simp_all; done) | skip
      all_goals exact G.done (rs := [.cell 2 51]) rfl (.cellA rfl (tyy rfl) rfl rfl Za rfl .nil) rfl [] (SubH.nil _) ⟨MsU.mk_ (m := { zM with id := id, op := 16, ctls := B, target := target }) ⟨zF_C _, HSl.nil _ 1, SC.nil _ 2 _, SC.nil _ 3 _, hs9.mono (by solve | repeat first | assumption | exact Zr _ | refine Zq ?_ Zp)⟩, rfl⟩
    . cases has
      . have eb : bareM ⟨id, 23, dn, ver, sasl, mech, text, scope, deref, size, time, types, fl, names, attrs, mods, rdn, delOld, hasSup, sup, attr, target, oid, false, value, code, matched, ctls⟩ = { zM with id := id, op := 23, ctls := B, oid := oid } := by
          subst hBC; rfl
        rw [eb]
        clear eb
        repeat' (first | (refine G.atCode ?_; first | refine G.seq ?_ | refine G.region ?_ | refine G.skip ?_ | refine G.exit rfl ?_ | refine G.ret ?_ | (refine G.cond rfl ?_ ?_ <;> intro hc <;> (try simp only [tests, reduceCtorEq] at hc) <;> (try exact Zf))) | refine G.endOps ?_ | (refine G.atGd ?_; first | refine G.guardYes rfl rfl ?_ | refine G.guardNoS rfl rfl rfl ?_) | (refine G.atBin ?_; first | (refine G.atEql ?_; first | refine G.op rfl rfl ?_) | refine G.op rfl rfl ?_) | refine G.op rfl rfl ?_ | (refine G.atLoad ?_; first | refine G.loadOwn1 rfl (tyy rfl) rfl rfl Za rfl rfl ?_ | refine G.loadOwnA rfl (tyy rfl) rfl rfl Za rfl rfl ?_) | (refine G.atFld ?_; first | refine G.fieldAddr rfl (tyy rfl) rfl rfl ?_) | (refine G.atSto ?_; refine G.storeOwn rfl rfl (tyy rfl) Za rfl rfl rfl rfl ?_))
        all_goals first | (exfalso; omega) | (exfalso; simp_all; done) | skip
        all_goals exact G.done (rs := [.cell 2 51]) rfl (.cellA rfl (tyy rfl) rfl rfl Za rfl .nil) rfl [] (SubH.nil _) ⟨MsU.mk_ (m := { zM with id := id, op := 23, ctls := B, oid := oid }) ⟨zF_C _, HSl.nil _ 1, SC.nil _ 2 _, SC.nil _ 3 _, hs9.mono (by solve | repeat first | assumption | exact Zr _ | refine Zq ?_ Zp)⟩, rfl⟩
      . have eb : bareM ⟨id, 23, dn, ver, sasl, mech, text, scope, deref, size, time, types, fl, names, attrs, mods, rdn, delOld, hasSup, sup, attr, target, oid, true, value, code, matched, ctls⟩ = { zM with id := id, op := 23, ctls := B, oid := oid, has := true, value := value } := by
          subst hBC; rfl
        rw [eb]
        clear eb
        repeat' (first | (refine G.atCode ?_; first | refine G.seq ?_ | refine G.region ?_ | refine G.skip ?_ | refine G.exit rfl ?_ | refine G.ret ?_ | (refine G.cond rfl ?_ ?_ <;> intro hc <;> (try simp only [tests, reduceCtorEq] at hc) <;> (try exact Zf))) | refine G.endOps ?_ | (refine G.atGd ?_; first | refine G.guardYes rfl rfl ?_ | refine G.guardNoS rfl rfl rfl ?_) | (refine G.atBin ?_; first | (refine G.atEql ?_; first | refine G.op rfl rfl ?_) | refine G.op rfl rfl ?_) | refine G.op rfl rfl ?_ | (refine G.atLoad ?_; first | refine G.loadOwn1 rfl (tyy rfl) rfl rfl Za rfl rfl ?_ | refine G.loadOwnA rfl (tyy rfl) rfl rfl Za rfl rfl ?_) | (refine G.atFld ?_; first | refine G.fieldAddr rfl (tyy rfl) rfl rfl ?_) | (refine G.atSto ?_; refine G.storeOwn rfl rfl (tyy rfl) Za rfl rfl rfl rfl ?_))
        all_goals first | (exfalso; omega) | (exfalso; simp_all; done) | skip
        all_goals exact G.done (rs := [.cell 2 51]) rfl (.cellA rfl (tyy rfl) rfl rfl Za rfl .nil) rfl [] (SubH.nil _) ⟨MsU.mk_ (m := { zM with id := id, op := 23, ctls := B, oid := oid, has := true, value := value }) ⟨zF_C _, HSl.nil _ 1, SC.nil _ 2 _, SC.nil _ 3 _, hs9.mono (by solve | repeat first | assumption | exact Zr _ | refine Zq ?_ Zp)⟩, rfl⟩
    . cases has
      . have eb : bareM ⟨id, 24, dn, ver, sasl, mech, text, scope, deref, size, time, types, fl, names, attrs, mods, rdn, delOld, hasSup, sup, attr, target, oid, false, value, code, matched, ctls⟩ = { zM with id := id, op := 24, ctls := B, code := code, matched := matched, text := text, oid := oid } := by
          subst hBC; rfl
        rw [eb]
        clear eb
        repeat' (first | (refine G.atCode ?_; first | refine G.seq ?_ | refine G.region ?_ | refine G.skip ?_ | refine G.exit rfl ?_ | refine G.ret ?_ | (refine G.cond rfl ?_ ?_ <;> intro hc <;> (try simp only [tests, reduceCtorEq] at hc) <;> (try exact Zf))) | refine G.endOps ?_ | (refine G.atGd ?_; first | refine G.guardYes rfl rfl ?_ | refine G.guardNoS rfl rfl rfl ?_) | (refine G.atBin ?_; first | (refine G.atEql ?_; first | refine G.op rfl rfl ?_) | refine G.op rfl rfl ?_) | refine G.op rfl rfl ?_ | (refine G.atLoad ?_; first | refine G.loadOwn1 rfl (tyy rfl) rfl rfl Za rfl rfl ?_ | refine G.loadOwnA rfl (tyy rfl) rfl rfl Za rfl rfl ?_) | (refine G.atFld ?_; first | refine G.fieldAddr rfl (tyy rfl) rfl rfl ?_) | (refine G.atSto ?_; refine G.storeOwn rfl rfl (tyy rfl) Za rfl rfl rfl rfl ?_))
        all_goals first | (exfalso; omega) | (exfalso; simp_all; done) | skip
        all_goals exact G.done (rs := [.cell 2 51]) rfl (.cellA rfl (tyy rfl) rfl rfl Za rfl .nil) rfl [] (SubH.nil _) ⟨MsU.mk_ (m := { zM with id := id, op := 24, ctls := B, code := code, matched := matched, text := text, oid := oid }) ⟨zF_C _, HSl.nil _ 1, SC.nil _ 2 _, SC.nil _ 3 _, hs9.mono (by solve | repeat first | assumption | exact Zr _ | refine Zq ?_ Zp)⟩, rfl⟩
      . have eb : bareM ⟨id, 24, dn, ver, sasl, mech, text, scope, deref, size, time, types, fl, names, attrs, mods, rdn, delOld, hasSup, sup, attr, target, oid, true, value, code, matched, ctls⟩ = { zM with id := id, op := 24, ctls := B, code := code, matched := matched, text := text, oid := oid, has := true, value := value } := by
          subst hBC; rfl
        rw [eb]
        clear eb
        repeat' (first | (refine G.atCode ?_; first | refine G.seq ?_ | refine G.region ?_ | refine G.skip ?_ | refine G.exit rfl ?_ | refine G.ret ?_ | (refine G.cond rfl ?_ ?_ <;> intro hc <;> (try simp only [tests, reduceCtorEq] at hc) <;> (try exact Zf))) | refine G.endOps ?_ | (refine G.atGd ?_; first | refine G.guardYes rfl rfl ?_ | refine G.guardNoS rfl rfl rfl ?_) | (refine G.atBin ?_; first | (refine G.atEql ?_; first | refine G.op rfl rfl ?_) | refine G.op rfl rfl ?_) | refine G.op rfl rfl ?_ | (refine G.atLoad ?_; first | refine G.loadOwn1 rfl (tyy rfl) rfl rfl Za rfl rfl ?_ | refine G.loadOwnA rfl (tyy rfl) rfl rfl Za rfl rfl ?_) | (refine G.atFld ?_; first | refine G.fieldAddr rfl (tyy rfl) rfl rfl ?_) | (refine G.atSto ?_; refine G.storeOwn rfl rfl (tyy rfl) Za rfl rfl rfl rfl ?_))
        all_goals first | (exfalso; omega) | (exfalso; simp_all; done) | skip
        all_goals exact G.done (rs := [.cell 2 51]) rfl (.cellA rfl (tyy rfl) rfl rfl Za rfl .nil) rfl [] (SubH.nil _) ⟨MsU.mk_ (m := { zM with id := id, op := 24, ctls := B, code := code, matched := matched, text := text, oid := oid, has := true, value := value }) ⟨zF_C _, HSl.nil _ 1, SC.nil _ 2 _, SC.nil _ 3 _, hs9.mono (by solve | repeat first | assumption | exact Zr _ | refine Zq ?_ Zp)⟩, rfl⟩
    . have eb : bareM ⟨id, op, dn, ver, sasl, mech, text, scope, deref, size, time, types, fl, names, attrs, mods, rdn, delOld, hasSup, sup, attr, target, oid, has, value, code, matched, ctls⟩ = { zM with id := id, op := op, ctls := B, code := code, matched := matched, text := text } := by
        subst hBC; rcases hop with rfl | rfl | rfl | rfl | rfl | rfl | rfl <;> rfl
      rw [eb]
      clear eb
      repeat' (first | (refine G.atCode ?_; first | refine G.seq ?_ | refine G.region ?_ | refine G.skip ?_ | refine G.exit rfl ?_ | refine G.ret ?_ | (refine G.cond rfl ?_ ?_ <;> intro hc <;> (try simp only [tests, reduceCtorEq] at hc) <;> (try exact Zf))) | refine G.endOps ?_ | (refine G.atGd ?_; first | refine G.guardYes rfl rfl ?_ | refine G.guardNoS rfl rfl rfl ?_ | (refine G.guardS rfl rfl rfl ?_ ?_ <;> intro hc <;> (try simp only [tests, reduceCtorEq] at hc) <;> (try exact Zf))) | (refine G.atBin ?_; first | (refine G.atEql ?_; first | refine G.op rfl rfl ?_) | refine G.op rfl rfl ?_) | refine G.op rfl rfl ?_ | (refine G.atLoad ?_; first | refine G.loadOwn1 rfl (tyy rfl) rfl rfl Za rfl rfl ?_ | refine G.loadOwnA rfl (tyy rfl) rfl rfl Za rfl rfl ?_) | (refine G.atFld ?_; first | refine G.fieldAddr rfl (tyy rfl) rfl rfl ?_) | (refine G.atSto ?_; refine G.storeOwn rfl rfl (tyy rfl) Za rfl rfl rfl rfl ?_))
      all_goals first | (exfalso; omega) | (exfalso; simp_all; done) | skip
      all_goals exact G.done (rs := [.cell 2 51]) rfl (.cellA rfl (tyy rfl) rfl rfl Za rfl .nil) rfl [] (SubH.nil _) ⟨MsU.mk_ (m := { zM with id := id, op := op, ctls := B, code := code, matched := matched, text := text }) ⟨zF_C _, HSl.nil _ 1, SC.nil _ 2 _, SC.nil _ 3 _, hs9.mono (by solve | repeat first | assumption | exact Zr _ | refine Zq ?_ Zp)⟩, rfl⟩
    . have eb : bareM ⟨id, op, dn, ver, sasl, mech, text, scope, deref, size, time, types, fl, names, attrs, mods, rdn, delOld, hasSup, sup, attr, target, oid, has, value, code, matched, ctls⟩ = { zM with id := id, op := op, ctls := B } := by
        subst hBC; unfold bareM; simp only; rw [if_neg hop.1, if_neg (by omega), if_neg (by omega), if_neg (by omega), if_neg (by omega), if_neg (by omega), if_neg (by omega), if_neg (by omega), if_neg (by omega), if_neg (by omega), if_neg (by omega)]
      rw [eb]
      clear eb
      repeat' (first | (refine G.atCode ?_; first | refine G.seq ?_ | refine G.region ?_ | refine G.skip ?_ | refine G.exit rfl ?_ | refine G.ret ?_ | (refine G.cond rfl ?_ ?_ <;> intro hc <;> (try simp only [tests, reduceCtorEq] at hc) <;> (try exact Zf))) | refine G.endOps ?_ | (refine G.atGd ?_; first | refine G.guardYes rfl rfl ?_ | refine G.guardNoS rfl rfl rfl ?_ | (refine G.guardS rfl rfl rfl ?_ ?_ <;> intro hc <;> (try simp only [tests, reduceCtorEq] at hc) <;> (try exact Zf))) | (refine G.atBin ?_; first | (refine G.atEql ?_; first | refine G.op rfl rfl ?_) | refine G.op rfl rfl ?_) | refine G.op rfl rfl ?_ | (refine G.atLoad ?_; first | refine G.loadOwn1 rfl (tyy rfl) rfl rfl Za rfl rfl ?_ | refine G.loadOwnA rfl (tyy rfl) rfl rfl Za rfl rfl ?_) | (refine G.atFld ?_; first | refine G.fieldAddr rfl (tyy rfl) rfl rfl ?_) | (refine G.atSto ?_; refine G.storeOwn rfl rfl (tyy rfl) Za rfl rfl rfl rfl ?_))
      all_goals first | (exfalso; omega) | (exfalso; simp_all; done) | skip
      all_goals exact G.done (rs := [.cell 2 51]) rfl (.cellA rfl (tyy rfl) rfl rfl Za rfl .nil) rfl [] (SubH.nil _) ⟨MsU.mk_ (m := { zM with id := id, op := op, ctls := B }) ⟨zF_C _, HSl.nil _ 1, SC.nil _ 2 _, SC.nil _ 3 _, hs9.mono (by solve | repeat first | assumption | exact Zr _ | refine Zq ?_ Zp)⟩, rfl⟩
end Go.Proofs.YtibkffoeioidlaaDoor
