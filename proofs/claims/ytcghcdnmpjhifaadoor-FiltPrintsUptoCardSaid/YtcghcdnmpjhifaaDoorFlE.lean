/- Filters: filt.Print, castellanref10.Print; FiltPrints, FiltBack. -/
import Derived.Test.YtcghcdnmpjhifaaDoorFlZ
import Derived.Test.YtcghcdnmpjhifaaDoorFlW
namespace Go.Proofs.YtcghcdnmpjhifaaDoor
set_option linter.all false
set_option maxRecDepth 4000
open Go.RowKit

theorem callFPrint : Callable Tryd.prog 17 := ⟨_, Tryd.func17, by kernel_rfl, rfl⟩
theorem callRFPrint : Callable Tryd.prog 18 := ⟨_, Tryd.func18, by kernel_rfl, rfl⟩
def prF (f : Fl) : List UInt8 × Int := if chkE f ≠ 0 then ([], chkE f) else if (txF f).length <= 4096 then (txF f, 0) else ([], 5)
theorem chkE_ok {f : Fl} (h : chkE f = 0) : okF f /\ ∃ n, chkM 64 0 f = .ok n := by
  unfold chkE at h
  cases hm : chkM 64 0 f with
  | error e => rw [hm] at h; exact absurd h (chkM_err _ _ _ _ hm)
  | ok n => exact ⟨chkM_ok _ _ _ _ hm, n, rfl⟩
mutual
theorem bare_tx : ∀ f : Fl, okF f -> txF (bareF f) = txF f
  | .mk k a v ps ks, h => by
    have hr := okF_rng h
    rw [bareF_mk, if_neg (by omega)]
    by_cases hk : k <= 2
    . rw [if_pos hk, txF_mk, txF_mk, if_pos hk, if_pos hk, bares_tx ks (okF_kids h hk)]
    . rw [if_neg hk, txF_mk, txF_mk, if_neg hk, if_neg hk]
      unfold txB
      by_cases h7 : k = 7
      . rw [if_pos h7, if_pos h7]
      . rw [if_neg h7, if_neg h7]
        by_cases h4 : k = 4
        . rw [if_pos h4, if_pos h4, if_pos h4]
        . rw [if_neg h4, if_neg h4, if_neg (by omega)]
theorem bares_tx : ∀ ks : List Fl, okFs ks -> txFs (bareFs ks) = txFs ks
  | [], _ => by simp [bareFs]
  | k :: ks, h => by
    simp only [okFs] at h
    simp only [bareFs, txFs]
    rw [bare_tx k h.1, bares_tx ks h.2]
end
theorem bare_ok {f : Fl} (h : chkE f = 0) : okF (bareF f) := (chkE_ok (by rw [bare_chkE]; exact h)).1
set_option maxRecDepth 8000 in
set_option maxHeartbeats 1000000 in
theorem filt_Print (f : Fl) (hw : f.wt <= 100000000) (r : List Value) (h : Heap) (hT : Tabs h) (hf : FlC h f r) : Spec Tryd.prog 17 [.agg r.toArray] h [] (fun u _ H' => u = .tuple #[str (prF f).1, .int .i64 (prF f).2] /\ H' = []) := by
  have hk := hf
  obtain ⟨k9, a9, v9, A9, m9, q9, B9, p9, r9, rfl⟩ := hf.shp
  unfold prF
  by_cases he : chkE f = 0
  . obtain ⟨hok, _⟩ := chkE_ok he
    have h8 := txF_len8 f
    have hcall := fun r h hT hf => filt_text f.sz f (Nat.le_refl _) hw hok 4096 (by omega) (by omega) r h hT hf
    rw [if_neg (by rw [he]; simp)]
    by_cases hl : (txF f).length <= 4096
    . rw [if_pos hl]
      refine Spec.enter Tryd.func17 rfl rfl ?_; intro w0
      repeat' (first | (show G _ (.ops .seq _ (⟨some _, .call { callee := .value (.func 13), args := _, argTypes := _ }, _, _, _, none⟩ :: _) :: _) _ _ _; refine G.call callFCheck rfl rfl (filt_Check f _ _ (hk.mono' (by solve | repeat first | assumption | exact Zr _ | refine Zq ?_ Zp))) Ze ?_; rintro _ h8 H8 ⟨rfl, rfl⟩ hle8; rw [he]) | (show G _ (.ops .seq _ (⟨some _, .call { callee := .value (.func 23), args := _, argTypes := _ }, _, _, _, none⟩ :: _) :: _) _ _ _; refine G.call callFText rfl rfl (hcall _ _ (hT.mono (by solve | repeat first | assumption | exact Zr _ | refine Zq ?_ Zp)) (hk.mono' (by solve | repeat first | assumption | exact Zr _ | refine Zq ?_ Zp))) Ze ?_; rintro _ h4 H4 ⟨⟨s4, rfl, hs4⟩, rfl⟩ hle4; obtain rfl := hs4 (by omega); rw [decide_eq_true (by omega)]) | (refine G.atCode ?_; first | refine G.seq ?_ | refine G.region ?_ | refine G.skip ?_ | refine G.ret ?_ | (refine G.cond rfl ?_ ?_ <;> intro hc <;> (try simp only [tests, reduceCtorEq] at hc) <;> (try exact Zf))) | refine G.endOps ?_ | (refine G.atBin ?_; first | (refine G.atNeq ?_; first | refine G.op rfl rfl ?_)) | refine G.op rfl rfl ?_ | (refine G.atLoad ?_; first | refine G.loadOwnA rfl (tyy rfl) rfl rfl Za rfl rfl ?_) | (refine G.atBox ?_; refine G.box rfl rfl rfl ?_; intro _))
      all_goals first | (exfalso; omega) | exact G.done2 rfl rfl rfl [] (SubH.nil _) ⟨rfl, rfl⟩ | skip
    . rw [if_neg hl]
      refine Spec.enter Tryd.func17 rfl rfl ?_; intro w0
      repeat' (first | (show G _ (.ops .seq _ (⟨some _, .call { callee := .value (.func 13), args := _, argTypes := _ }, _, _, _, none⟩ :: _) :: _) _ _ _; refine G.call callFCheck rfl rfl (filt_Check f _ _ (hk.mono' (by solve | repeat first | assumption | exact Zr _ | refine Zq ?_ Zp))) Ze ?_; rintro _ h8 H8 ⟨rfl, rfl⟩ hle8; rw [he]) | (show G _ (.ops .seq _ (⟨some _, .call { callee := .value (.func 23), args := _, argTypes := _ }, _, _, _, none⟩ :: _) :: _) _ _ _; refine G.call callFText rfl rfl (hcall _ _ (hT.mono (by solve | repeat first | assumption | exact Zr _ | refine Zq ?_ Zp)) (hk.mono' (by solve | repeat first | assumption | exact Zr _ | refine Zq ?_ Zp))) Ze ?_; rintro _ h4 H4 ⟨⟨s4, rfl, hs4⟩, rfl⟩ hle4; rw [decide_eq_false (by omega)]) | (refine G.atCode ?_; first | refine G.seq ?_ | refine G.region ?_ | refine G.skip ?_ | refine G.ret ?_ | (refine G.cond rfl ?_ ?_ <;> intro hc <;> (try simp only [tests, reduceCtorEq] at hc) <;> (try exact Zf))) | refine G.endOps ?_ | (refine G.atBin ?_; first | (refine G.atNeq ?_; first | refine G.op rfl rfl ?_)) | refine G.op rfl rfl ?_ | (refine G.atLoad ?_; first | refine G.loadOwnA rfl (tyy rfl) rfl rfl Za rfl rfl ?_) | (refine G.atBox ?_; refine G.box rfl rfl rfl ?_; intro _))
      all_goals first | (exfalso; omega) | exact G.done2 rfl rfl rfl [] (SubH.nil _) ⟨rfl, rfl⟩ | skip
  . rw [if_pos he]
    refine Spec.enter Tryd.func17 rfl rfl ?_; intro w0
    repeat' (first | (show G _ (.ops .seq _ (⟨some _, .call { callee := .value (.func 13), args := _, argTypes := _ }, _, _, _, none⟩ :: _) :: _) _ _ _; refine G.call callFCheck rfl rfl (filt_Check f _ _ (hk.mono' (by solve | repeat first | assumption | exact Zr _ | refine Zq ?_ Zp))) Ze ?_; rintro _ h8 H8 ⟨rfl, rfl⟩ hle8) | (refine G.atCode ?_; first | refine G.seq ?_ | refine G.region ?_ | refine G.ret ?_ | (refine G.cond rfl ?_ ?_ <;> intro hc <;> (try simp only [tests, reduceCtorEq] at hc) <;> (try exact Zf))) | refine G.endOps ?_ | (refine G.atBin ?_; first | (refine G.atNeq ?_; first | refine G.op rfl rfl ?_)) | refine G.op rfl rfl ?_ | (refine G.atLoad ?_; first | refine G.loadOwnA rfl (tyy rfl) rfl rfl Za rfl rfl ?_) | (refine G.atBox ?_; refine G.box rfl rfl rfl ?_; intro _))
    all_goals first | (exfalso; omega) | exact G.done2 rfl rfl rfl [] (SubH.nil _) ⟨rfl, rfl⟩ | skip
set_option maxRecDepth 8000 in
set_option maxHeartbeats 1000000 in
theorem ref10_Print (f : Fl) (hw : f.wt <= 100000000) (r : List Value) (h : Heap) (hf : FlC h f r) : Spec Tryd.prog 18 [.agg r.toArray] h [] (fun u _ H' => u = .tuple #[str (prF f).1, .int .i64 (prF f).2] /\ H' = []) := by
  have hk := hf
  obtain ⟨k9, a9, v9, A9, m9, q9, B9, p9, r9, rfl⟩ := hf.shp
  unfold prF
  by_cases he : chkE f = 0
  . obtain ⟨hok, _⟩ := chkE_ok he
    have hokb := bare_ok he
    have h8 := txF_len8 f
    have hbw := bare_wt f
    have hbt := bare_tx f hok
    have hB := fun r h hf => ref10_Bare f.sz f (Nat.le_refl _) hw r h hf
    have hS := fun h r hf => ref10_size (bareF f).sz (bareF f) (Nat.le_refl _) (by omega) hokb r h hf
    have hX := fun h r hf => ref10_text (bareF f).sz (bareF f) (Nat.le_refl _) (by omega) hokb r h hf
    rw [hbt] at hS hX
    rw [if_neg (by rw [he]; simp)]
    by_cases hl : (txF f).length <= 4096
    . rw [if_pos hl]
      refine Spec.enter Tryd.func18 rfl rfl ?_; intro w0
      repeat' (first | (show G _ (.ops .seq _ (⟨some _, .call { callee := .value (.func 19), args := _, argTypes := _ }, _, _, _, none⟩ :: _) :: _) _ _ _; refine G.call callRCheck rfl rfl (ref10_Check f hw _ _ (hk.mono' (by solve | repeat first | assumption | exact Zr _ | refine Zq ?_ Zp))) Ze ?_; rintro _ h8 H8 ⟨rfl, rfl⟩ hle8; rw [he]) | (show G _ (.ops .seq _ (⟨some _, .call { callee := .value (.func 15), args := _, argTypes := _ }, _, _, _, none⟩ :: _) :: _) _ _ _; refine G.call callRBare rfl rfl (hB _ _ (hk.mono' (by solve | repeat first | assumption | exact Zr _ | refine Zq ?_ Zp))) Ze ?_; rintro _ h5 H5 ⟨⟨c5, hc5, rfl⟩, rfl⟩ hle5; have hk5 := hc5; obtain ⟨k5, a5, v5, A5, m5, q5, B5, p5, r5, rfl⟩ := hc5.shp) | (show G _ (.ops .seq _ (⟨some _, .call { callee := .value (.func 24), args := _, argTypes := _ }, _, _, _, none⟩ :: _) :: _) _ _ _; refine G.call callSize rfl rfl (hS _ _ (hk5.mono' (by solve | repeat first | assumption | exact Zr _ | refine Zq ?_ Zp))) Ze ?_; rintro _ h6 H6 ⟨⟨m6, rfl, hm6⟩, rfl⟩ hle6) | (show G _ (.ops .seq _ (⟨some _, .call { callee := .value (.func 25), args := _, argTypes := _ }, _, _, _, none⟩ :: _) :: _) _ _ _; refine G.call callRText rfl rfl (hX _ _ (hk5.mono' (by solve | repeat first | assumption | exact Zr _ | refine Zq ?_ Zp))) Ze ?_; rintro _ h7 H7 ⟨rfl, rfl⟩ hle7) | (refine G.atCode ?_; first | refine G.seq ?_ | refine G.region ?_ | refine G.skip ?_ | refine G.ret ?_ | (refine G.cond rfl ?_ ?_ <;> intro hc <;> (try simp only [tests, reduceCtorEq] at hc) <;> (try exact Zf))) | refine G.endOps ?_ | (refine G.atBin ?_; first | (refine G.atNeq ?_; first | refine G.op rfl rfl ?_) | refine G.op rfl rfl ?_) | refine G.op rfl rfl ?_ | (refine G.atLen ?_; first | refine G.lenStr rfl (tyy rfl) rfl ?_) | (refine G.atLoad ?_; first | refine G.loadOwnA rfl (tyy rfl) rfl rfl Za rfl rfl ?_) | (refine G.atSto ?_; refine G.storeOwn rfl rfl (tyy rfl) Za rfl rfl rfl rfl ?_) | (refine G.atAlc ?_; refine G.alloc (tyy rfl) rfl rfl ?_; intro _) | (refine G.atBox ?_; refine G.box rfl rfl rfl ?_; intro _))
      all_goals first | (exfalso; omega) | exact G.done2 rfl rfl rfl [] (SubH.nil _) ⟨rfl, rfl⟩ | skip
    . rw [if_neg hl]
      refine Spec.enter Tryd.func18 rfl rfl ?_; intro w0
      repeat' (first | (show G _ (.ops .seq _ (⟨some _, .call { callee := .value (.func 19), args := _, argTypes := _ }, _, _, _, none⟩ :: _) :: _) _ _ _; refine G.call callRCheck rfl rfl (ref10_Check f hw _ _ (hk.mono' (by solve | repeat first | assumption | exact Zr _ | refine Zq ?_ Zp))) Ze ?_; rintro _ h8 H8 ⟨rfl, rfl⟩ hle8; rw [he]) | (show G _ (.ops .seq _ (⟨some _, .call { callee := .value (.func 15), args := _, argTypes := _ }, _, _, _, none⟩ :: _) :: _) _ _ _; refine G.call callRBare rfl rfl (hB _ _ (hk.mono' (by solve | repeat first | assumption | exact Zr _ | refine Zq ?_ Zp))) Ze ?_; rintro _ h5 H5 ⟨⟨c5, hc5, rfl⟩, rfl⟩ hle5; have hk5 := hc5; obtain ⟨k5, a5, v5, A5, m5, q5, B5, p5, r5, rfl⟩ := hc5.shp) | (show G _ (.ops .seq _ (⟨some _, .call { callee := .value (.func 24), args := _, argTypes := _ }, _, _, _, none⟩ :: _) :: _) _ _ _; refine G.call callSize rfl rfl (hS _ _ (hk5.mono' (by solve | repeat first | assumption | exact Zr _ | refine Zq ?_ Zp))) Ze ?_; rintro _ h6 H6 ⟨⟨m6, rfl, hm6⟩, rfl⟩ hle6) | (show G _ (.ops .seq _ (⟨some _, .call { callee := .value (.func 25), args := _, argTypes := _ }, _, _, _, none⟩ :: _) :: _) _ _ _; refine G.call callRText rfl rfl (hX _ _ (hk5.mono' (by solve | repeat first | assumption | exact Zr _ | refine Zq ?_ Zp))) Ze ?_; rintro _ h7 H7 ⟨rfl, rfl⟩ hle7) | (refine G.atCode ?_; first | refine G.seq ?_ | refine G.region ?_ | refine G.skip ?_ | refine G.ret ?_ | (refine G.cond rfl ?_ ?_ <;> intro hc <;> (try simp only [tests, reduceCtorEq] at hc) <;> (try exact Zf))) | refine G.endOps ?_ | (refine G.atBin ?_; first | (refine G.atNeq ?_; first | refine G.op rfl rfl ?_) | refine G.op rfl rfl ?_) | refine G.op rfl rfl ?_ | (refine G.atLen ?_; first | refine G.lenStr rfl (tyy rfl) rfl ?_) | (refine G.atLoad ?_; first | refine G.loadOwnA rfl (tyy rfl) rfl rfl Za rfl rfl ?_) | (refine G.atSto ?_; refine G.storeOwn rfl rfl (tyy rfl) Za rfl rfl rfl rfl ?_) | (refine G.atAlc ?_; refine G.alloc (tyy rfl) rfl rfl ?_; intro _) | (refine G.atBox ?_; refine G.box rfl rfl rfl ?_; intro _))
      all_goals first | (exfalso; omega) | exact G.done2 rfl rfl rfl [] (SubH.nil _) ⟨rfl, rfl⟩ | skip
  . rw [if_pos he]
    refine Spec.enter Tryd.func18 rfl rfl ?_; intro w0
    repeat' (first | (show G _ (.ops .seq _ (⟨some _, .call { callee := .value (.func 19), args := _, argTypes := _ }, _, _, _, none⟩ :: _) :: _) _ _ _; refine G.call callRCheck rfl rfl (ref10_Check f hw _ _ (hk.mono' (by solve | repeat first | assumption | exact Zr _ | refine Zq ?_ Zp))) Ze ?_; rintro _ h8 H8 ⟨rfl, rfl⟩ hle8) | (refine G.atCode ?_; first | refine G.seq ?_ | refine G.region ?_ | refine G.ret ?_ | (refine G.cond rfl ?_ ?_ <;> intro hc <;> (try simp only [tests, reduceCtorEq] at hc) <;> (try exact Zf))) | refine G.endOps ?_ | (refine G.atBin ?_; first | (refine G.atNeq ?_; first | refine G.op rfl rfl ?_)) | refine G.op rfl rfl ?_ | (refine G.atLoad ?_; first | refine G.loadOwnA rfl (tyy rfl) rfl rfl Za rfl rfl ?_) | (refine G.atBox ?_; refine G.box rfl rfl rfl ?_; intro _))
    all_goals first | (exfalso; omega) | exact G.done2 rfl rfl rfl [] (SubH.nil _) ⟨rfl, rfl⟩ | skip
set_option maxRecDepth 8000 in
set_option maxHeartbeats 2000000 in
theorem law_FiltPrints (a : Fl) (hw : a.wt <= 100000000) (r : List Value) (h : Heap) (hT : Tabs h) (ha : FlC h a r) : Spec Tryd.prog 6 [.agg r.toArray] h [] (fun u _ _ => u = .bool true) := by
  have hTw := fun h hf => ref10_Twin a.sz a (Nat.le_refl _) hw r h hf
  have hk := ha
  obtain ⟨k9, a9, v9, A9, m9, q9, B9, p9, r9, rfl⟩ := ha.shp
  have hpl : (prF a).1.length <= 4096 := by
    unfold prF
    split
    . simp
    . split
      . assumption
      . simp
  generalize prF a = p at *
  refine Spec.enter Tryd.func6 rfl rfl ?_; intro w0
  repeat' (first | (show G _ (.ops .seq _ (⟨some _, .call { callee := .value (.func 16), args := _, argTypes := _ }, _, _, _, none⟩ :: _) :: _) _ _ _; refine G.call callTwin10 rfl rfl (hTw _ (hk.mono' (by solve | repeat first | assumption | exact Zr _ | refine Zq ?_ Zp))) Ze ?_; rintro _ h2 H2 ⟨⟨c2, hc2, rfl⟩, rfl⟩ hle2; have hk2 := hc2; obtain ⟨k2, a2, v2, A2, m2, q2, B2, p2, r2, rfl⟩ := hc2.shp) | (show G _ (.ops .seq _ (⟨some _, .call { callee := .value (.func 17), args := _, argTypes := _ }, _, _, _, none⟩ :: _) :: _) _ _ _; refine G.call callFPrint rfl rfl (filt_Print a hw _ _ (hT.mono (by solve | repeat first | assumption | exact Zr _ | refine Zq ?_ Zp)) (hk.mono' (by solve | repeat first | assumption | exact Zr _ | refine Zq ?_ Zp))) Ze ?_; rintro _ h3 H3 ⟨rfl, rfl⟩ hle3) | (show G _ (.ops .seq _ (⟨some _, .call { callee := .value (.func 18), args := _, argTypes := _ }, _, _, _, none⟩ :: _) :: _) _ _ _; refine G.call callRFPrint rfl rfl (ref10_Print a hw _ _ (hk2.mono' (by solve | repeat first | assumption | exact Zr _ | refine Zq ?_ Zp))) Ze ?_; rintro _ h5 H5 ⟨rfl, rfl⟩ hle5) | (show G _ (.ops .seq _ (⟨some _, .call { callee := .value (.func 11), args := _, argTypes := _ }, _, _, _, none⟩ :: _) :: _) _ _ _; refine G.call callAwake10 rfl rfl (law10_awake _ (hT.mono (by solve | repeat first | assumption | exact Zr _ | refine Zq ?_ Zp))) Ze ?_; rintro _ h4 H4 ⟨rfl, rfl⟩ hle4) | (show G _ (.ops .seq _ (⟨some _, .call { callee := .value (.func 13), args := _, argTypes := _ }, _, _, _, none⟩ :: _) :: _) _ _ _; refine G.call callFCheck rfl rfl (filt_Check a _ _ (hk.mono' (by solve | repeat first | assumption | exact Zr _ | refine Zq ?_ Zp))) Ze ?_; rintro _ h8 H8 ⟨rfl, rfl⟩ hle8) | (show G _ (.ops .seq _ (⟨some _, .call { callee := .value (.func 19), args := _, argTypes := _ }, _, _, _, none⟩ :: _) :: _) _ _ _; refine G.call callRCheck rfl rfl (ref10_Check a hw _ _ (hk2.mono' (by solve | repeat first | assumption | exact Zr _ | refine Zq ?_ Zp))) Ze ?_; rintro _ h9 H9 ⟨rfl, rfl⟩ hle9) | (show G _ (.ops .seq _ (⟨some _, .call { callee := .value (.func 12), args := _, argTypes := _ }, _, _, _, none⟩ :: _) :: _) _ _ _; refine G.call callSame10 rfl rfl (ref10_Same' (a := a) (hk.mono' (by solve | repeat first | assumption | exact Zr _ | refine Zq ?_ Zp)) (hk2.mono' (by solve | repeat first | assumption | exact Zr _ | refine Zq ?_ Zp))) Ze ?_; rintro _ h7 H7 ⟨rfl, rfl⟩ hle7) | (refine G.atCode ?_; first | refine G.seq ?_ | refine G.region ?_ | refine G.anyIn mixedOk ?_ | refine G.ret ?_) | refine G.endOps ?_ | refine G.endHeld ?_ | refine G.back ?_ | (refine G.atAny ?_; first | refine G.anyAutoX slB rfl rfl Zw Zg Zd ?_ | refine G.anyOne rfl Zw Zg Zu ?_ | refine G.anyAuto slB rfl Zw Zg Zu ?_ | refine G.anyEndX Zw ?_) | (refine G.atGd ?_; first | refine G.guardYes rfl rfl ?_ | (refine G.guardS rfl rfl rfl ?_ ?_ <;> intro hc <;> (try simp only [tests, reduceCtorEq] at hc) <;> (try exact Zf))) | (refine G.atBin ?_; first | (refine G.atEql ?_; first | refine G.op rfl rfl ?_ | refine G.eqStr rfl rfl rfl ?_)) | refine G.op rfl rfl ?_ | (refine G.atLoad ?_; first | refine G.loadOwnA rfl (tyy rfl) rfl rfl Za rfl rfl ?_) | (refine G.atSto ?_; refine G.storeOwn rfl rfl (tyy rfl) Za rfl rfl rfl rfl ?_) | (refine G.atAlc ?_; refine G.alloc (tyy rfl) rfl rfl ?_; intro _) | (refine G.atBox ?_; refine G.box rfl rfl rfl ?_; intro _))
  all_goals first | (exfalso; omega) | exact G.done1 rfl rfl [] (SubH.nil _) (by solve | rfl | simp) | (exfalso; simp_all; done) | skip
set_option maxRecDepth 8000 in
set_option maxHeartbeats 2000000 in
theorem law_FiltBack (a : Fl) (hw : a.wt <= 100000000) (r : List Value) (h : Heap) (hT : Tabs h) (ha : FlC h a r) : Spec Tryd.prog 7 [.agg r.toArray] h [] (fun u _ _ => u = .bool true) := by
  have hRB := fun h hf => ref10_Bare a.sz a (Nat.le_refl _) hw r h hf
  have hk := ha
  obtain ⟨k9, a9, v9, A9, m9, q9, B9, p9, r9, rfl⟩ := ha.shp
  have hP := fun r h hT hf => filt_Print a hw r h hT hf
  by_cases he : (prF a).2 = 0
  . have hpr : prF a = (txF a, 0) /\ (txF a).length <= 4096 /\ chkE a = 0 := by
      unfold prF at he ⊢
      by_cases h1 : chkE a ≠ 0
      . rw [if_pos h1] at he; exact absurd he h1
      . rw [if_neg h1] at he ⊢
        by_cases h2 : (txF a).length <= 4096
        . rw [if_pos h2]; exact ⟨rfl, h2, by omega⟩
        . rw [if_neg h2] at he; cases he
    obtain ⟨hpr, hl, hc⟩ := hpr
    obtain ⟨_, n, hn⟩ := chkE_ok hc
    have hpt := parse_text hn hl
    rw [hpr] at hP
    have hPa := fun h hT => filt_Parse (txF a) (by omega) h hT
    rw [hpt] at hPa
    refine Spec.enter Tryd.func7 rfl rfl ?_; intro w0
    repeat' (first | (show G _ (.ops .seq _ (⟨some _, .call { callee := .value (.func 17), args := _, argTypes := _ }, _, _, _, none⟩ :: _) :: _) _ _ _; refine G.call callFPrint rfl rfl (hP _ _ (hT.mono (by solve | repeat first | assumption | exact Zr _ | refine Zq ?_ Zp)) (hk.mono' (by solve | repeat first | assumption | exact Zr _ | refine Zq ?_ Zp))) Ze ?_; rintro _ h3 H3 ⟨rfl, rfl⟩ hle3) | (show G _ (.ops .seq _ (⟨some _, .call { callee := .value (.func 11), args := _, argTypes := _ }, _, _, _, none⟩ :: _) :: _) _ _ _; refine G.call callAwake10 rfl rfl (law10_awake _ (hT.mono (by solve | repeat first | assumption | exact Zr _ | refine Zq ?_ Zp))) Ze ?_; rintro _ h4 H4 ⟨rfl, rfl⟩ hle4) | (show G _ (.ops .seq _ (⟨some _, .call { callee := .value (.func 9), args := _, argTypes := _ }, _, _, _, none⟩ :: _) :: _) _ _ _; refine G.call callFParse rfl rfl (hPa _ (hT.mono (by solve | repeat first | assumption | exact Zr _ | refine Zq ?_ Zp))) Ze ?_; rintro _ h2 H2 ⟨⟨c2, hc2, rfl⟩, rfl⟩ hle2; have hk2 := hc2; obtain ⟨k2, a2, v2, A2, m2, q2, B2, p2, r2, rfl⟩ := hc2.shp) | (show G _ (.ops .seq _ (⟨some _, .call { callee := .value (.func 15), args := _, argTypes := _ }, _, _, _, none⟩ :: _) :: _) _ _ _; refine G.call callRBare rfl rfl (hRB _ (hk.mono' (by solve | repeat first | assumption | exact Zr _ | refine Zq ?_ Zp))) Ze ?_; rintro _ h5 H5 ⟨⟨c5, hc5, rfl⟩, rfl⟩ hle5; have hk5 := hc5; obtain ⟨k5, a5, v5, A5, m5, q5, B5, p5, r5, rfl⟩ := hc5.shp) | (show G _ (.ops .seq _ (⟨some _, .call { callee := .value (.func 12), args := _, argTypes := _ }, _, _, _, none⟩ :: _) :: _) _ _ _; refine G.call callSame10 rfl rfl (ref10_Same' (a := bareF a) (hk2.mono' (by solve | repeat first | assumption | exact Zr _ | refine Zq ?_ Zp)) (hk5.mono' (by solve | repeat first | assumption | exact Zr _ | refine Zq ?_ Zp))) Ze ?_; rintro _ h7 H7 ⟨rfl, rfl⟩ hle7) | (refine G.atCode ?_; first | refine G.seq ?_ | refine G.region ?_ | refine G.skip ?_ | refine G.anyIn mixedOk ?_ | refine G.ret ?_ | (refine G.cond rfl ?_ ?_ <;> intro hc <;> (try simp only [tests, reduceCtorEq] at hc) <;> (try exact Zf))) | refine G.endOps ?_ | refine G.endHeld ?_ | refine G.back ?_ | (refine G.atAny ?_; first | refine G.anyAutoX slB rfl rfl Zw Zg Zd ?_ | refine G.anyOne rfl Zw Zg Zu ?_ | refine G.anyEndX Zw ?_) | (refine G.atGd ?_; first | refine G.guardYes rfl rfl ?_) | (refine G.atBin ?_; first | (refine G.atEql ?_; first | refine G.op rfl rfl ?_) | (refine G.atNeq ?_; first | refine G.op rfl rfl ?_)) | refine G.op rfl rfl ?_ | (refine G.atLoad ?_; first | refine G.loadOwnA rfl (tyy rfl) rfl rfl Za rfl rfl ?_) | (refine G.atSto ?_; refine G.storeOwn rfl rfl (tyy rfl) Za rfl rfl rfl rfl ?_) | (refine G.atAlc ?_; refine G.alloc (tyy rfl) rfl rfl ?_; intro _) | (refine G.atBox ?_; refine G.box rfl rfl rfl ?_; intro _))
    all_goals first | (exfalso; omega) | exact G.done1 rfl rfl [] (SubH.nil _) (by solve | rfl | simp) | (exfalso; simp_all; done) | skip
  . refine Spec.enter Tryd.func7 rfl rfl ?_; intro w0
    repeat' (first | (show G _ (.ops .seq _ (⟨some _, .call { callee := .value (.func 17), args := _, argTypes := _ }, _, _, _, none⟩ :: _) :: _) _ _ _; refine G.call callFPrint rfl rfl (hP _ _ (hT.mono (by solve | repeat first | assumption | exact Zr _ | refine Zq ?_ Zp)) (hk.mono' (by solve | repeat first | assumption | exact Zr _ | refine Zq ?_ Zp))) Ze ?_; rintro _ h3 H3 ⟨rfl, rfl⟩ hle3) | (show G _ (.ops .seq _ (⟨some _, .call { callee := .value (.func 11), args := _, argTypes := _ }, _, _, _, none⟩ :: _) :: _) _ _ _; refine G.call callAwake10 rfl rfl (law10_awake _ (hT.mono (by solve | repeat first | assumption | exact Zr _ | refine Zq ?_ Zp))) Ze ?_; rintro _ h4 H4 ⟨rfl, rfl⟩ hle4) | (refine G.atCode ?_; first | refine G.seq ?_ | refine G.region ?_ | refine G.ret ?_ | (refine G.cond rfl ?_ ?_ <;> intro hc <;> (try simp only [tests, reduceCtorEq] at hc) <;> (try exact Zf))) | refine G.endOps ?_ | (refine G.atGd ?_; first | refine G.guardYes rfl rfl ?_) | (refine G.atBin ?_; first | (refine G.atNeq ?_; first | refine G.op rfl rfl ?_)) | refine G.op rfl rfl ?_ | (refine G.atLoad ?_; first | refine G.loadOwnA rfl (tyy rfl) rfl rfl Za rfl rfl ?_) | (refine G.atBox ?_; refine G.box rfl rfl rfl ?_; intro _))
    all_goals first | (exfalso; omega) | exact G.done1 rfl rfl [] (SubH.nil _) (by solve | rfl | simp) | (exfalso; simp_all; done) | skip
end Go.Proofs.YtcghcdnmpjhifaaDoor
