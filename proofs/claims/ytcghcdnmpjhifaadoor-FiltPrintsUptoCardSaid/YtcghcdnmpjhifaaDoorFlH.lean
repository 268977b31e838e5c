/- Filters: the chapter's examples; FiltParses. -/
import Derived.Test.YtcghcdnmpjhifaaDoorFlC
namespace Go.Proofs.YtcghcdnmpjhifaaDoor
set_option linter.all false
set_option maxRecDepth 4000
open Go.RowKit

theorem callAwake10 : Callable Tryd.prog 11 := ⟨_, Tryd.func11, by kernel_rfl, rfl⟩
theorem flParse_err {s : List UInt8} {e : Int} (h : flParse s = .error e) : e ≠ 0 := by
  unfold flParse at h
  split at h
  . injection h with h; omega
  . split at h
    . rename_i e1 h1
      injection h with h
      have := flM_err _ _ _ _ h1
      omega
    . split at h
      . cases h
      . injection h with h; omega
def fxS : List UInt8 := [40, 38, 40, 99, 110, 61, 97, 42, 98, 41, 40, 33, 40, 115, 110, 61, 42, 41, 41, 41]
def fxF : Fl := .mk 0 [] [] [] [.mk 4 [99, 110] [] [(0, [97]), (2, [98])] [], .mk 2 [] [] [] [.mk 7 [115, 110] [] [] []]]
def fyS : List UInt8 := [40, 99, 110, 61, 92, 50, 97, 41]
def fyF : Fl := .mk 3 [99, 110] [42] [] []
def fzS : List UInt8 := [40, 99, 110, 62, 61, 42, 41]
theorem fxS_parse : flParse fxS = .ok fxF := by kernel_rfl
theorem fyS_parse : flParse fyS = .ok fyF := by kernel_rfl
theorem fzS_parse : flParse fzS = .error 4 := by kernel_rfl
theorem filt_ParseX (h : Heap) (hT : Tabs h) : Spec Tryd.prog 9 [str fxS] h [] (fun u h' H' => (∃ A c B d P p Q q P2 p2 Q2 q2, u = .tuple #[.agg #[.int .i64 0, str [], str [], .slice A 0 c, .slice B 2 d], .int .i64 0] ∧
    HSl h' (.slice B 2 d) 5 [[.int .i64 4, str [99, 110], str [], .slice P 2 p, .slice Q 0 q], [.int .i64 2, str [], str [], .slice P2 0 p2, .slice Q2 1 q2]]) /\ H' = []) := by
  refine (filt_Parse fxS (by decide) h hT).mono ?_
  rintro u h' H' ⟨hp, rfl⟩ _
  rw [fxS_parse] at hp
  obtain ⟨c, hc, rfl⟩ := hp
  obtain ⟨k, a, v, ps, ks, A, c, B, d, rows, e, rfl, _, sk, kk, _⟩ := hc.box
  injection e with e1 e2 e3 e4 e5
  subst e1 e2 e3 e4 e5
  simp only [FlsC] at kk
  obtain ⟨r1, rs, rfl, h1, r2, rs2, rfl, h2, rfl⟩ := kk
  obtain ⟨_, _, _, _, _, P, p, Q, q, _, e, rfl, _⟩ := h1.box
  injection e with e1 e2 e3 e4 e5
  subst e1 e2 e3 e4 e5
  obtain ⟨_, _, _, _, _, P2, p2, Q2, q2, _, e, rfl, _⟩ := h2.box
  injection e with e1 e2 e3 e4 e5
  subst e1 e2 e3 e4 e5
  exact ⟨⟨A, c, B, d, P, p, Q, q, P2, p2, Q2, q2, rfl, sk⟩, rfl⟩
theorem filt_ParseY (h : Heap) (hT : Tabs h) : Spec Tryd.prog 9 [str fyS] h [] (fun u _ H' => (∃ A c B d, u = .tuple #[.agg #[.int .i64 3, str [99, 110], str [42], .slice A 0 c, .slice B 0 d], .int .i64 0]) /\ H' = []) := by
  refine (filt_Parse fyS (by decide) h hT).mono ?_
  rintro u h' H' ⟨hp, rfl⟩ _
  rw [fyS_parse] at hp
  obtain ⟨c, hc, rfl⟩ := hp
  obtain ⟨k, a, v, ps, ks, A, c, B, d, rows, e, rfl, _⟩ := hc.box
  injection e with e1 e2 e3 e4 e5
  subst e1 e2 e3 e4 e5
  exact ⟨⟨A, c, B, d, rfl⟩, rfl⟩
theorem filt_ParseZ (h : Heap) (hT : Tabs h) : Spec Tryd.prog 9 [str fzS] h [] (fun u _ H' => u = .tuple #[zFv, .int .i64 4] /\ H' = []) := by
  refine (filt_Parse fzS (by decide) h hT).mono ?_
  rintro u h' H' ⟨hp, rfl⟩ _
  rw [fzS_parse] at hp
  exact ⟨hp, rfl⟩
set_option maxRecDepth 8000 in
set_option maxHeartbeats 1000000 in
theorem law10_awake (h : Heap) (hT : Tabs h) : Spec Tryd.prog 11 [] h [] (fun u _ H' => u = .bool true /\ H' = []) := by
  refine Spec.enter Tryd.func11 rfl rfl ?_; intro w0
  repeat' (first | (refine G.atCode ?_; first | refine G.seq ?_ | refine G.region ?_) | refine G.endOps ?_ | refine G.op rfl rfl ?_)
  show G _ (.ops .seq _ (⟨some _, .call { callee := .value (.func 9), args := _, argTypes := _ }, _, _, _, none⟩ :: _) :: _) _ _ _
  refine G.call callFParse rfl rfl (filt_ParseX _ hT) Ze ?_
  rintro _ h2 H2 ⟨⟨A, c, B, d, P, p, Q, q, P2, p2, Q2, q2, rfl, hs⟩, rfl⟩ hle2
  repeat' (first | (refine G.atCode ?_; first | refine G.seq ?_ | refine G.region ?_) | refine G.endOps ?_ | refine G.op rfl rfl ?_ | (refine G.atSto ?_; refine G.storeOwn rfl rfl (tyy rfl) Za rfl rfl rfl rfl ?_) | (refine G.atAlc ?_; refine G.alloc (tyy rfl) rfl rfl ?_; intro _))
  show G _ (.ops .seq _ (⟨some _, .call { callee := .value (.func 9), args := _, argTypes := _ }, _, _, _, none⟩ :: _) :: _) _ _ _
  refine G.call callFParse rfl rfl (filt_ParseY _ (hT.mono (by solve | repeat first | assumption | exact Zr _ | refine Zq ?_ Zp))) Ze ?_
  rintro _ h3 H3 ⟨⟨A3, c3, B3, d3, rfl⟩, rfl⟩ hle3
  repeat' (first | (refine G.atCode ?_; first | refine G.seq ?_ | refine G.region ?_) | refine G.endOps ?_ | refine G.op rfl rfl ?_ | (refine G.atSto ?_; refine G.storeOwn rfl rfl (tyy rfl) Za rfl rfl rfl rfl ?_) | (refine G.atAlc ?_; refine G.alloc (tyy rfl) rfl rfl ?_; intro _))
  show G _ (.ops .seq _ (⟨some _, .call { callee := .value (.func 9), args := _, argTypes := _ }, _, _, _, none⟩ :: _) :: _) _ _ _
  refine G.call callFParse rfl rfl (filt_ParseZ _ (hT.mono (by solve | repeat first | assumption | exact Zr _ | refine Zq ?_ Zp))) Ze ?_
  rintro _ h4 H4 ⟨rfl, rfl⟩ hle4
  unfold zFv
  have hs := hs.mono (Heap.le_trans hle3 hle4)
  repeat' (first | (refine G.atIdx ?_; refine G.idxImm rfl rfl (tyy rfl) (tyy rfl) hs Zj rfl (by simp) ?_; intro p1 r1 hx1 hp1; (obtain rfl := Option.some.inj hx1)) | (refine G.atLoad ?_; refine G.loadImmAt1 rfl (tyy rfl) rfl rfl Zp rfl rfl ?_) | (refine G.atCode ?_; first | refine G.seq ?_ | refine G.region ?_ | refine G.ret ?_) | refine G.endOps ?_ | (refine G.atGd ?_; first | refine G.guardYes rfl rfl ?_) | (refine G.atBin ?_; first | (refine G.atEql ?_; first | refine G.op rfl rfl ?_ | refine G.eqStr rfl rfl rfl ?_)) | refine G.op rfl rfl ?_ | (refine G.atLen ?_; first | refine G.lenSlice rfl (tyy rfl) rfl ?_) | (refine G.atLoad ?_; first | refine G.loadOwn1 rfl (tyy rfl) rfl rfl Za rfl rfl ?_) | (refine G.atFld ?_; first | refine G.fieldAddr rfl (tyy rfl) rfl rfl ?_ | refine G.fieldAddrP rfl (tyy rfl) rfl rfl ?_) | (refine G.atSto ?_; refine G.storeOwn rfl rfl (tyy rfl) Za rfl rfl rfl rfl ?_) | (refine G.atAlc ?_; refine G.alloc (tyy rfl) rfl rfl ?_; intro _))
  all_goals first | exact G.done1 rfl rfl _ (SubH.nil _) ⟨rfl, rfl⟩ | (exfalso; simp_all; done) | skip
theorem ref10_Same' {a : Fl} {ra rb : List Value} {h : Heap} (ha : FlC h a ra) (hb : FlC h a rb) : Spec Tryd.prog 12 [.agg ra.toArray, .agg rb.toArray] h [] (fun u _ H' => u = .bool true /\ H' = []) :=
  ref10_Same a.sz a (Nat.le_refl _) ra rb h ha hb
set_option maxRecDepth 8000 in
set_option maxHeartbeats 1000000 in
theorem law_FiltParses (s : List UInt8) (hs : s.length <= 9223372036854775807) (h : Heap) (hT : Tabs h) : Spec Tryd.prog 3 [str s] h [] (fun u _ _ => u = .bool true) := by
  refine Spec.enter Tryd.func3 rfl rfl ?_; intro w0
  repeat' (first | (refine G.atCode ?_; first | refine G.seq ?_ | refine G.region ?_) | refine G.endOps ?_ | refine G.op rfl rfl ?_)
  show G _ (.ops .seq _ (⟨some _, .call { callee := .value (.func 9), args := _, argTypes := _ }, _, _, _, none⟩ :: _) :: _) _ _ _
  refine G.call callFParse rfl rfl (filt_Parse s hs _ hT) Ze ?_
  rintro _ h2 H2 ⟨hp1, rfl⟩ hle2
  obtain ⟨f, c1, e, hc1, rfl, hf⟩ : ∃ f c e, FlC h2 f c /\ _ = Value.tuple #[.agg c.toArray, .int .i64 e] /\ (flParse s = .ok f /\ e = 0 \/ flParse s = .error e /\ f = zF) := by
    cases hm : flParse s with
    | error e => rw [hm] at hp1; exact ⟨zF, _, e, zF_C _, hp1, .inr ⟨rfl, rfl⟩⟩
    | ok f => rw [hm] at hp1; obtain ⟨c, hc, he⟩ := hp1; exact ⟨f, c, 0, hc, he, .inl ⟨rfl, rfl⟩⟩
  clear hp1
  have hk1 := hc1
  obtain ⟨k1, a1, v1, A1, m1, q1, B1, p1, r1, rfl⟩ := hc1.shp
  repeat' (first | (refine G.atCode ?_; first | refine G.seq ?_ | refine G.region ?_) | refine G.endOps ?_ | refine G.op rfl rfl ?_ | (refine G.atSto ?_; refine G.storeOwn rfl rfl (tyy rfl) Za rfl rfl rfl rfl ?_) | (refine G.atAlc ?_; refine G.alloc (tyy rfl) rfl rfl ?_; intro _))
  show G _ (.ops .seq _ (⟨some _, .call { callee := .value (.func 10), args := _, argTypes := _ }, _, _, _, none⟩ :: _) :: _) _ _ _
  refine G.call callRFParse rfl rfl (ref10_Parse s hs _) Ze ?_
  rintro _ h3 H3 ⟨hp2, rfl⟩ hle3
  obtain ⟨c2, hc2, rfl⟩ : ∃ c, FlC h3 f c /\ _ = Value.tuple #[.agg c.toArray, .int .i64 e] := by
    rcases hf with ⟨hm, rfl⟩ | ⟨hm, rfl⟩
    . rw [hm] at hp2; obtain ⟨c, hc, he⟩ := hp2; exact ⟨c, hc, he⟩
    . rw [hm] at hp2; exact ⟨_, zF_C _, hp2⟩
  clear hp2
  have hk2 := hc2
  obtain ⟨k2, a2, v2, A2, m2, q2, B2, p2, r2, rfl⟩ := hc2.shp
  repeat' (first | (show G _ (.ops .seq _ (⟨some _, .call { callee := .value (.func 11), args := _, argTypes := _ }, _, _, _, none⟩ :: _) :: _) _ _ _; refine G.call callAwake10 rfl rfl (law10_awake _ (hT.mono (by solve | repeat first | assumption | exact Zr _ | refine Zq ?_ Zp))) Ze ?_; rintro _ h4 H4 ⟨rfl, rfl⟩ hle4) | (show G _ (.ops .seq _ (⟨some _, .call { callee := .value (.func 12), args := _, argTypes := _ }, _, _, _, none⟩ :: _) :: _) _ _ _; refine G.call callSame10 rfl rfl (ref10_Same' (hk1.mono' (by solve | repeat first | assumption | exact Zr _ | refine Zq ?_ Zp)) (hk2.mono' (by solve | repeat first | assumption | exact Zr _ | refine Zq ?_ Zp))) Ze ?_; rintro _ h5 H5 ⟨rfl, rfl⟩ hle5) | (refine G.atCode ?_; first | refine G.seq ?_ | refine G.region ?_ | refine G.ret ?_) | refine G.endOps ?_ | (refine G.atGd ?_; first | refine G.guardYes rfl rfl ?_ | (refine G.guardS rfl rfl rfl ?_ ?_ <;> intro hc <;> (try simp only [tests, reduceCtorEq] at hc) <;> (try exact Zf))) | (refine G.atBin ?_; first | (refine G.atEql ?_; first | refine G.op rfl rfl ?_)) | refine G.op rfl rfl ?_ | (refine G.atLoad ?_; first | refine G.loadOwnA rfl (tyy rfl) rfl rfl Za rfl rfl ?_) | (refine G.atSto ?_; refine G.storeOwn rfl rfl (tyy rfl) Za rfl rfl rfl rfl ?_) | (refine G.atAlc ?_; refine G.alloc (tyy rfl) rfl rfl ?_; intro _))
  all_goals first | (exfalso; omega) | exact G.done1 rfl rfl [] (SubH.nil _) (by solve | rfl | simp) | (exfalso; simp_all; done) | skip
end Go.Proofs.YtcghcdnmpjhifaaDoor
