/- Filters: what Bare leaves; FiltBares. -/
import Derived.Test.YtibkffoeioidlaaDoorFlQ
import Derived.Test.YtibkffoeioidlaaDoorFlC
import Derived.Test.YtibkffoeioidlaaDoorWrY
import Derived.Test.YtibkffoeioidlaaDoorXaC
import Derived.Test.YtibkffoeioidlaaDoorXaA
namespace Go.Proofs.YtibkffoeioidlaaDoor
set_option linter.all false
set_option maxRecDepth 4000
open Go.RowKit

mutual
theorem bare_bare : ∀ f : Fl, bareF (bareF f) = bareF f
  | .mk k a v ps ks => by
    rw [bareF_mk]
    by_cases h1 : k < 0 \/ 8 < k
    . rw [if_pos h1, bareF_mk, if_pos h1]
    . rw [if_neg h1]
      by_cases h2 : k <= 2
      . rw [if_pos h2, bareF_mk, if_neg h1, if_pos h2, bares_bares ks]
      . rw [if_neg h2, bareF_mk, if_neg h1, if_neg h2]
        by_cases h4 : k = 4
        . simp [h4]
        . by_cases h7 : k = 7 <;> simp [h4, h7]
theorem bares_bares : ∀ ks : List Fl, bareFs (bareFs ks) = bareFs ks
  | [] => by simp [bareFs]
  | k :: ks => by simp only [bareFs]; rw [bare_bare k, bares_bares ks]
end
mutual
theorem bare_wt : ∀ f : Fl, (bareF f).wt <= f.wt
  | .mk k a v ps ks => by
    rw [bareF_mk]
    by_cases h1 : k < 0 \/ 8 < k
    . rw [if_pos h1]; simp only [Fl.wt, List.length_nil, pcW, flwt]; omega
    . rw [if_neg h1]
      by_cases h2 : k <= 2
      . rw [if_pos h2]; have := bares_wt ks; simp only [Fl.wt, List.length_nil, pcW]; omega
      . rw [if_neg h2]
        by_cases h4 : k = 4
        . simp only [h4, Fl.wt, flwt, true_or, if_true, List.length_nil]; omega
        . by_cases h7 : k = 7
          . simp only [h7, Fl.wt, flwt, or_true, if_true, List.length_nil]; simp [pcW]; omega
          . simp only [h4, h7, Fl.wt, flwt, or_self, if_false, pcW]; omega
theorem bares_wt : ∀ ks : List Fl, flwt (bareFs ks) <= flwt ks
  | [] => by simp [bareFs]
  | k :: ks => by have := bare_wt k; have := bares_wt ks; simp only [bareFs, flwt]; omega
end
end Go.Proofs.YtibkffoeioidlaaDoor
namespace Go.Proofs.YtibkffoeioidlaaDoor
set_option linter.all false
set_option maxRecDepth 4000
open Go.RowKit

theorem bareC_bareC (c : Ctl) : bareC (bareC c) = bareC c := by
  obtain ⟨o, cr, h, v⟩ := c
  cases h <;> rfl
theorem bareCs (l : List Ctl) : (l.map bareC).map bareC = l.map bareC := by
  rw [List.map_map]
  exact List.map_congr_left fun c _ => bareC_bareC c
theorem opCases (op : Int) : op = 0 \/ op = 3 \/ op = 4 \/ op = 8 \/ op = 6 \/ op = 10 \/ op = 12 \/ op = 14 \/ op = 16 \/ op = 23 \/ op = 24 \/ (op = 1 \/ op = 5 \/ op = 7 \/ op = 9 \/ op = 11 \/ op = 13 \/ op = 15) \/ (op ≠ 0 /\ op ≠ 1 /\ op ≠ 3 /\ op ≠ 4 /\ op ≠ 5 /\ op ≠ 6 /\ op ≠ 7 /\ op ≠ 8 /\ op ≠ 9 /\ op ≠ 10 /\ op ≠ 11 /\ op ≠ 12 /\ op ≠ 13 /\ op ≠ 14 /\ op ≠ 15 /\ op ≠ 16 /\ op ≠ 23 /\ op ≠ 24) := by omega
theorem bareM_bareM (m : Ms) : bareM (bareM m) = bareM m := by
  obtain ⟨id, op, dn, ver, sasl, mech, text, scope, deref, size, time, types, fl, names, attrs, mods, rdn, delOld, hasSup, sup, attr, target, oid, has, value, code, matched, ctls⟩ := m
  have hc := bareCs ctls
  rcases opCases op with rfl | rfl | rfl | rfl | rfl | rfl | rfl | rfl | rfl | rfl | rfl | hop | hop
  . cases sasl <;> cases has <;> simp [bareM, hc, zM]
  . simp [bareM, hc, bare_bare]
  . simp [bareM, hc]
  . simp [bareM, hc]
  . simp [bareM, hc]
  . simp [bareM, hc]
  . cases hasSup <;> simp [bareM, hc]
  . simp [bareM, hc]
  . simp [bareM, hc]
  . cases has <;> simp [bareM, hc]
  . cases has <;> simp [bareM, hc]
  . rcases hop with rfl | rfl | rfl | rfl | rfl | rfl | rfl <;> simp [bareM, hc]
  . obtain ⟨h0, h1, h3, h4, h5, h6, h7, h8, h9, h10, h11, h12, h13, h14, h15, h16, h23, h24⟩ := hop
    simp [bareM, hc, h0, h1, h3, h4, h5, h6, h7, h8, h9, h10, h11, h12, h13, h14, h15, h16, h23, h24]
theorem bareCs_wt : ∀ l : List Ctl, ctlsW (l.map bareC) <= ctlsW l
  | [] => Nat.le_refl _
  | ⟨o, cr, h, v⟩ :: l => by
    have ih := bareCs_wt l
    unfold ctlsW at ih ⊢
    simp only [List.map_cons, List.sum_cons]
    have : ctlW (bareC ⟨o, cr, h, v⟩) <= ctlW ⟨o, cr, h, v⟩ := by cases h <;> simp [bareC, ctlW]
    omega
theorem bareM_wt (m : Ms) : (bareM m).wt <= m.wt + 16 := by
  have hz : zM.wt <= 16 := by decide
  obtain ⟨id, op, dn, ver, sasl, mech, text, scope, deref, size, time, types, fl, names, attrs, mods, rdn, delOld, hasSup, sup, attr, target, oid, has, value, code, matched, ctls⟩ := m
  have hc := bareCs_wt ctls
  have hf := bare_wt fl
  have hz2 : zM.fl.wt <= 16 := by decide
  rcases opCases op with rfl | rfl | rfl | rfl | rfl | rfl | rfl | rfl | rfl | rfl | rfl | hop | hop
  . cases sasl <;> cases has <;> simp [bareM, Ms.wt, zM, bsW, atrsW, mdsW] at hz2 ⊢ <;> omega
  . simp [bareM, Ms.wt, zM, bsW, atrsW, mdsW] at hz2 ⊢; omega
  . simp [bareM, Ms.wt, zM, bsW, atrsW, mdsW] at hz2 ⊢; omega
  . simp [bareM, Ms.wt, zM, bsW, atrsW, mdsW] at hz2 ⊢; omega
  . simp [bareM, Ms.wt, zM, bsW, atrsW, mdsW] at hz2 ⊢; omega
  . simp [bareM, Ms.wt, zM, bsW, atrsW, mdsW] at hz2 ⊢; omega
  . cases hasSup <;> simp [bareM, Ms.wt, zM, bsW, atrsW, mdsW] at hz2 ⊢ <;> omega
  . simp [bareM, Ms.wt, zM, bsW, atrsW, mdsW] at hz2 ⊢; omega
  . simp [bareM, Ms.wt, zM, bsW, atrsW, mdsW] at hz2 ⊢; omega
  . cases has <;> simp [bareM, Ms.wt, zM, bsW, atrsW, mdsW] at hz2 ⊢ <;> omega
  . cases has <;> simp [bareM, Ms.wt, zM, bsW, atrsW, mdsW] at hz2 ⊢ <;> omega
  . rcases hop with rfl | rfl | rfl | rfl | rfl | rfl | rfl <;> simp [bareM, Ms.wt, zM, bsW, atrsW, mdsW] at hz2 ⊢ <;> omega
  . obtain ⟨h0, h1, h3, h4, h5, h6, h7, h8, h9, h10, h11, h12, h13, h14, h15, h16, h23, h24⟩ := hop
    simp [bareM, Ms.wt, zM, bsW, atrsW, mdsW, h0, h1, h3, h4, h5, h6, h7, h8, h9, h10, h11, h12, h13, h14, h15, h16, h23, h24] at hz2 ⊢; omega
end Go.Proofs.YtibkffoeioidlaaDoor
namespace Go.Proofs.YtibkffoeioidlaaDoor
set_option linter.all false
set_option maxRecDepth 4000
open Go.RowKit

set_option maxRecDepth 8000 in
set_option maxHeartbeats 4000000 in
theorem law_WireBares (m : Ms) (hw : m.wt <= 9999984) (pv kv nv av mv cv : Value) (h : Heap) (hT : TabW h) (hV : MsV h m pv kv nv av mv cv) :
    Spec Tryd.prog 9 [.agg (msR m pv kv nv av mv cv).toArray] h [] (fun u _ _ => u = .bool true) := by
  have hB := fun h hV => wire_Bare m (by omega) pv kv nv av mv cv h hV
  have hR := fun h hV => ref11_Bare m (by omega) pv kv nv av mv cv h hV
  have hwb := bareM_wt m
  have hBB := fun h pv kv nv av mv cv hV => wire_Bare (bareM m) (by omega) pv kv nv av mv cv h hV
  rw [bareM_bareM] at hBB
  have hS := fun h pv kv nv av mv cv pv2 kv2 nv2 av2 mv2 cv2 h1 h2 => ref11_Same (bareM m) pv kv nv av mv cv pv2 kv2 nv2 av2 mv2 cv2 h h1 h2
  generalize bareM m = b at *
  obtain ⟨⟨pA, pn, pc, rfl⟩, ⟨kA, kn, kc, rfl⟩, ⟨nA, nn, nc, rfl⟩, ⟨aA, an, ac, rfl⟩, ⟨mA, mn, mc, rfl⟩, ⟨cA, cn, cc, rfl⟩⟩ := hV.forms
  refine Spec.enter Tryd.func9 rfl rfl ?_; intro w0
  repeat' (first | (refine G.atCode ?_; first | refine G.seq ?_ | refine G.region ?_) | refine G.endOps ?_ | refine G.op rfl rfl ?_ | (refine G.atLoad ?_; first | refine G.loadOwnA rfl (tyy rfl) rfl rfl Za rfl rfl ?_) | (refine G.atBox ?_; refine G.box rfl rfl rfl ?_; intro _))
  show G _ (.ops .seq _ (⟨some _, .call { callee := .value (.func 34), args := _, argTypes := _ }, _, _, _, none⟩ :: _) :: _) _ _ _
  refine G.call callBareW rfl rfl (hB _ (hV.mono (by solve | repeat first | assumption | exact Zr _ | refine Zq ?_ Zp))) Ze ?_
  rintro _ h2 H2 ⟨⟨pv8, kv8, nv8, av8, mv8, cv8, rfl, hV8⟩, rfl⟩ hle2
  obtain ⟨⟨pA8, pn8, pc8, rfl⟩, ⟨kA8, kn8, kc8, rfl⟩, ⟨nA8, nn8, nc8, rfl⟩, ⟨aA8, an8, ac8, rfl⟩, ⟨mA8, mn8, mc8, rfl⟩, ⟨cA8, cn8, cc8, rfl⟩⟩ := hV8.forms
  repeat' (first | (refine G.atAny ?_; first | refine G.anyAutoX slB rfl rfl Zw (by solve | exact Heap.none_le _ | assumption | exact Zr _ | (repeat first | assumption | exact Zr _ | refine Zq ?_ Zp)) Zd ?_ | refine G.anyKeep slB rfl Zw (by solve | exact Heap.none_le _ | assumption | exact Zr _ | (repeat first | assumption | exact Zr _ | refine Zq ?_ Zp)) Zu ?_ | refine G.anyOne rfl Zw (by solve | exact Heap.none_le _ | assumption | exact Zr _ | (repeat first | assumption | exact Zr _ | refine Zq ?_ Zp)) Zu ?_ | refine G.anyEndX Zw ?_) | (show G _ (.ops .seq _ (⟨some _, .call { callee := .value (.func 26), args := _, argTypes := _ }, _, _, _, none⟩ :: _) :: _) _ _ _; refine G.call callAwake11 rfl rfl (law11_awake _ (hT.mono (by solve | repeat first | assumption | exact Zr _ | refine Zq ?_ Zp))) Ze ?_; rintro _ h5 H5 ⟨rfl, rfl⟩ hle5) | (show G _ (.ops .seq _ (⟨some _, .call { callee := .value (.func 32), args := _, argTypes := _ }, _, _, _, none⟩ :: _) :: _) _ _ _; refine G.call callBare11 rfl rfl (hR _ (hV.mono (by solve | repeat first | assumption | exact Zr _ | refine Zq ?_ Zp))) Ze ?_; rintro _ h6 H6 ⟨⟨pv6, kv6, nv6, av6, mv6, cv6, rfl, hV6⟩, rfl⟩ hle6) | (show G _ (.ops .seq _ (⟨some _, .call { callee := .value (.func 34), args := _, argTypes := _ }, _, _, _, none⟩ :: _) :: _) _ _ _; refine G.call callBareW rfl rfl (hBB _ _ _ _ _ _ _ (hV8.mono (by solve | repeat first | assumption | exact Zr _ | refine Zq ?_ Zp))) Ze ?_; rintro _ h7 H7 ⟨⟨pv7, kv7, nv7, av7, mv7, cv7, rfl, hV7⟩, rfl⟩ hle7) | (show G _ (.ops .seq _ (⟨some _, .call { callee := .value (.func 27), args := _, argTypes := _ }, _, _, _, none⟩ :: _) :: _) _ _ _; refine G.call callSame11 rfl rfl (hS _ _ _ _ _ _ _ _ _ _ _ _ _ (hV8.mono (by solve | repeat first | assumption | exact Zr _ | refine Zq ?_ Zp)) (hV6.mono (by solve | repeat first | assumption | exact Zr _ | refine Zq ?_ Zp))) Ze ?_; rintro _ h10 H10 ⟨rfl, rfl⟩ hle10) | (show G _ (.ops .seq _ (⟨some _, .call { callee := .value (.func 27), args := _, argTypes := _ }, _, _, _, none⟩ :: _) :: _) _ _ _; refine G.call callSame11 rfl rfl (hS _ _ _ _ _ _ _ _ _ _ _ _ _ (hV7.mono (by solve | repeat first | assumption | exact Zr _ | refine Zq ?_ Zp)) (hV8.mono (by solve | repeat first | assumption | exact Zr _ | refine Zq ?_ Zp))) Ze ?_; rintro _ h11 H11 ⟨rfl, rfl⟩ hle11) | (refine G.atCode ?_; first | refine G.seq ?_ | refine G.anyIn mixedOk ?_ | refine G.ret ?_) | refine G.endOps ?_ | refine G.endHeld ?_ | refine G.back ?_ | (refine G.atGd ?_; first | refine G.guardYes rfl rfl ?_) | refine G.op rfl rfl ?_ | (refine G.atLoad ?_; first | refine G.loadOwnA rfl (tyy rfl) rfl rfl Za rfl rfl ?_) | (refine G.atSto ?_; refine G.storeOwn rfl rfl (tyy rfl) Za rfl rfl rfl rfl ?_) | (refine G.atAlc ?_; refine G.alloc (tyy rfl) rfl rfl ?_; intro _))
  all_goals first | (exfalso; omega) | (exfalso; simp_all; done) | exact G.done1 rfl rfl [] (SubH.nil _) (by first | rfl | simp) | skip
end Go.Proofs.YtibkffoeioidlaaDoor
