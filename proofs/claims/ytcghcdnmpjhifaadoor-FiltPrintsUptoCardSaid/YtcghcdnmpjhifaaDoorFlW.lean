/- Filters: what Bare leaves; FiltBares. -/
import Derived.Test.YtcghcdnmpjhifaaDoorFlQ
import Derived.Test.YtcghcdnmpjhifaaDoorFlH
namespace Go.Proofs.YtcghcdnmpjhifaaDoor
set_option linter.all false
set_option maxRecDepth 4000
open Go.RowKit

theorem flBareFs_len : ∀ ks : List Fl, (bareFs ks).length = ks.length
  | [] => by simp [bareFs]
  | k :: ks => by simp [bareFs, flBareFs_len ks]
theorem bare_chk : ∀ (d n : Nat) (f : Fl), chkM d n (bareF f) = chkM d n f
  | 0, n, f => by cases f; unfold bareF; split <;> (try split) <;> rfl
  | d + 1, n, .mk k a v ps ks => by
    have ih : ∀ (ks : List Fl) (n : Nat), chkKs (chkM d) n (bareFs ks) = chkKs (chkM d) n ks := by
      intro ks
      induction ks with
      | nil => intro n; simp [bareFs]
      | cons f ks ihk =>
        intro n
        rw [bareFs, chkKs, chkKs, bare_chk d n f]
        cases chkM d n f with
        | error e => rfl
        | ok n' => exact ihk n'
    rw [bareF_mk]
    by_cases h1 : k < 0 \/ 8 < k
    . rw [if_pos h1, chkM, chkM, if_pos h1, if_pos h1]
    . rw [if_neg h1]
      by_cases h2 : k <= 2
      . rw [if_pos h2, chkM, chkM, flBareFs_len, if_pos h2, if_pos h2, ih]
      . rw [if_neg h2, chkM, chkM, if_neg h1, if_neg h1, if_neg h2, if_neg h2]
        by_cases h3 : k = 4
        . rw [if_pos h3, if_neg (show ¬ (k = 2 /\ _) from fun e => h2 (by omega)), if_neg (show ¬ (k = 2 /\ _) from fun e => h2 (by omega))]
        . rw [if_neg h3, if_neg (show ¬ (k = 2 /\ _) from fun e => h2 (by omega)), if_neg (show ¬ (k = 2 /\ _) from fun e => h2 (by omega))]
          simp only [h3, false_and]
theorem bare_chkE (f : Fl) : chkE (bareF f) = chkE f := by unfold chkE; rw [bare_chk]
mutual
theorem bare_bare : ∀ f : Fl, bareF (bareF f) = bareF f
  | .mk k a v ps ks => by
    rw [bareF_mk]
    by_cases h1 : k < 0 \/ 8 < k
    . rw [if_pos h1, bareF_mk, if_pos h1]
    . rw [if_neg h1]
      by_cases h2 : k <= 2
      . rw [if_pos h2, bareF_mk, if_neg h1, if_pos h2, bares_bares ks]
      . rw [if_neg h2, bareF_mk, if_neg h1, if_neg h2]
        by_cases h4 : k = 4
        . simp [h4]
        . by_cases h7 : k = 7 <;> simp [h4, h7]
theorem bares_bares : ∀ ks : List Fl, bareFs (bareFs ks) = bareFs ks
  | [] => by simp [bareFs]
  | k :: ks => by simp only [bareFs]; rw [bare_bare k, bares_bares ks]
end
mutual
theorem bare_wt : ∀ f : Fl, (bareF f).wt <= f.wt
  | .mk k a v ps ks => by
    rw [bareF_mk]
    by_cases h1 : k < 0 \/ 8 < k
    . rw [if_pos h1]; simp only [Fl.wt, List.length_nil, pcW, flwt]; omega
    . rw [if_neg h1]
      by_cases h2 : k <= 2
      . rw [if_pos h2]; have := bares_wt ks; simp only [Fl.wt, List.length_nil, pcW]; omega
      . rw [if_neg h2]
        by_cases h4 : k = 4
        . simp only [h4, Fl.wt, flwt, true_or, if_true, List.length_nil]; omega
        . by_cases h7 : k = 7
          . simp only [h7, Fl.wt, flwt, or_true, if_true, List.length_nil]; simp [pcW]; omega
          . simp only [h4, h7, Fl.wt, flwt, or_self, if_false, pcW]; omega
theorem bares_wt : ∀ ks : List Fl, flwt (bareFs ks) <= flwt ks
  | [] => by simp [bareFs]
  | k :: ks => by have := bare_wt k; have := bares_wt ks; simp only [bareFs, flwt]; omega
end
set_option maxRecDepth 8000 in
set_option maxHeartbeats 2000000 in
theorem law_FiltBares (a : Fl) (hw : a.wt <= 100000000) (r : List Value) (h : Heap) (hT : Tabs h) (ha : FlC h a r) : Spec Tryd.prog 5 [.agg r.toArray] h [] (fun u _ _ => u = .bool true) := by
  have hB := fun f h r (hf : FlC h f r) (hw : f.wt <= 100000000) => filt_Bare f.sz f (Nat.le_refl _) hw r h hf
  have hRB := fun f h r (hf : FlC h f r) (hw : f.wt <= 100000000) => ref10_Bare f.sz f (Nat.le_refl _) hw r h hf
  have hbw := bare_wt a
  have hbe := bare_chkE a
  have hbb := bare_bare a
  have hk := ha
  obtain ⟨k9, a9, v9, A9, m9, q9, B9, p9, r9, rfl⟩ := ha.shp
  refine Spec.enter Tryd.func5 rfl rfl ?_; intro w0
  repeat' (first | (refine G.atCode ?_; first | refine G.seq ?_ | refine G.region ?_) | refine G.endOps ?_ | refine G.op rfl rfl ?_ | (refine G.atLoad ?_; first | refine G.loadOwnA rfl (tyy rfl) rfl rfl Za rfl rfl ?_) | (refine G.atBox ?_; refine G.box rfl rfl rfl ?_; intro _))
  show G _ (.ops .seq _ (⟨some _, .call { callee := .value (.func 14), args := _, argTypes := _ }, _, _, _, none⟩ :: _) :: _) _ _ _
  refine G.call callBare rfl rfl (hB a _ _ hk hw) Ze ?_
  rintro _ h2 H2 ⟨⟨c2, hc2, rfl⟩, rfl⟩ hle2
  have hk2 := hc2
  obtain ⟨k2, a2, v2, A2, m2, q2, B2, p2, r2, rfl⟩ := hc2.shp
  repeat' (first | (show G _ (.ops .seq _ (⟨some _, .call { callee := .value (.func 11), args := _, argTypes := _ }, _, _, _, none⟩ :: _) :: _) _ _ _; refine G.call callAwake10 rfl rfl (law10_awake _ (hT.mono (by solve | repeat first | assumption | exact Zr _ | refine Zq ?_ Zp))) Ze ?_; rintro _ h4 H4 ⟨rfl, rfl⟩ hle4) | (show G _ (.ops .seq _ (⟨some _, .call { callee := .value (.func 15), args := _, argTypes := _ }, _, _, _, none⟩ :: _) :: _) _ _ _; refine G.call callRBare rfl rfl (hRB a _ _ (hk.mono' (by solve | repeat first | assumption | exact Zr _ | refine Zq ?_ Zp)) hw) Ze ?_; rintro _ h5 H5 ⟨⟨c5, hc5, rfl⟩, rfl⟩ hle5; have hk5 := hc5; obtain ⟨k5, a5, v5, A5, m5, q5, B5, p5, r5, rfl⟩ := hc5.shp) | (show G _ (.ops .seq _ (⟨some _, .call { callee := .value (.func 14), args := _, argTypes := _ }, _, _, _, none⟩ :: _) :: _) _ _ _; refine G.call callBare rfl rfl (hB (bareF a) _ _ (hk2.mono' (by solve | repeat first | assumption | exact Zr _ | refine Zq ?_ Zp)) (by omega)) Ze ?_; rintro _ h6 H6 ⟨⟨c6, hc6, rfl⟩, rfl⟩ hle6; rw [hbb] at hc6; have hk6 := hc6; obtain ⟨k6, a6, v6, A6, m6, q6, B6, p6, r6, rfl⟩ := hc6.shp) | (show G _ (.ops .seq _ (⟨some _, .call { callee := .value (.func 12), args := _, argTypes := _ }, _, _, _, none⟩ :: _) :: _) _ _ _; refine G.call callSame10 rfl rfl (ref10_Same' (a := bareF a) (hk2.mono' (by solve | repeat first | assumption | exact Zr _ | refine Zq ?_ Zp)) (hk5.mono' (by solve | repeat first | assumption | exact Zr _ | refine Zq ?_ Zp))) Ze ?_; rintro _ h7 H7 ⟨rfl, rfl⟩ hle7) | (show G _ (.ops .seq _ (⟨some _, .call { callee := .value (.func 12), args := _, argTypes := _ }, _, _, _, none⟩ :: _) :: _) _ _ _; refine G.call callSame10 rfl rfl (ref10_Same' (a := bareF a) (hk6.mono' (by solve | repeat first | assumption | exact Zr _ | refine Zq ?_ Zp)) (hk2.mono' (by solve | repeat first | assumption | exact Zr _ | refine Zq ?_ Zp))) Ze ?_; rintro _ h7 H7 ⟨rfl, rfl⟩ hle7) | (show G _ (.ops .seq _ (⟨some _, .call { callee := .value (.func 13), args := _, argTypes := _ }, _, _, _, none⟩ :: _) :: _) _ _ _; refine G.call callFCheck rfl rfl (filt_Check (bareF a) _ _ (hk2.mono' (by solve | repeat first | assumption | exact Zr _ | refine Zq ?_ Zp))) Ze ?_; rintro _ h8 H8 ⟨rfl, rfl⟩ hle8; rw [hbe]) | (show G _ (.ops .seq _ (⟨some _, .call { callee := .value (.func 13), args := _, argTypes := _ }, _, _, _, none⟩ :: _) :: _) _ _ _; refine G.call callFCheck rfl rfl (filt_Check a _ _ (hk.mono' (by solve | repeat first | assumption | exact Zr _ | refine Zq ?_ Zp))) Ze ?_; rintro _ h8 H8 ⟨rfl, rfl⟩ hle8) | (refine G.atCode ?_; first | refine G.seq ?_ | refine G.anyIn mixedOk ?_ | refine G.ret ?_) | refine G.endOps ?_ | refine G.endHeld ?_ | refine G.back ?_ | (refine G.atAny ?_; first | refine G.anyAutoX slB rfl rfl Zw Zg Zd ?_ | refine G.anyOne rfl Zw Zg Zu ?_ | refine G.anyAuto slB rfl Zw Zg Zu ?_ | refine G.anyEndX Zw ?_) | (refine G.atGd ?_; first | refine G.guardYes rfl rfl ?_ | (refine G.guardS rfl rfl rfl ?_ ?_ <;> intro hc <;> (try simp only [tests, reduceCtorEq] at hc) <;> (try exact Zf))) | (refine G.atBin ?_; first | (refine G.atEql ?_; first | refine G.op rfl rfl ?_)) | refine G.op rfl rfl ?_ | (refine G.atLoad ?_; first | refine G.loadOwnA rfl (tyy rfl) rfl rfl Za rfl rfl ?_) | (refine G.atSto ?_; refine G.storeOwn rfl rfl (tyy rfl) Za rfl rfl rfl rfl ?_) | (refine G.atAlc ?_; refine G.alloc (tyy rfl) rfl rfl ?_; intro _))
  all_goals first | (exfalso; omega) | exact G.done1 rfl rfl [] (SubH.nil _) (by solve | rfl | simp) | (exfalso; simp_all; done) | skip
end Go.Proofs.YtcghcdnmpjhifaaDoor
