/- Filters: the chapter's examples; FiltParses. -/
import Derived.Test.YtcghcdnmpjhifaaDoorFlC
namespace Go.Proofs.YtcghcdnmpjhifaaDoor
set_option linter.all false
open Go.RowKit

theorem callAwake10 : Callable Tryd.prog 11 := ⟨_, Tryd.func11, by kernel_rfl, rfl⟩
theorem flParse_err {s : List UInt8} {e : Int} (h : flParse s = .error e) : e ≠ 0 := by
  unfold flParse at h
  split at h
  · injection h with h; omega
  · split at h
    · rename_i e1 h1
      injection h with h
      have := flM_err _ _ _ _ h1
      omega
    · split at h
      · cases h
      · injection h with h; omega
def fxS : List UInt8 := [40, 38, 40, 99, 110, 61, 97, 42, 98, 41, 40, 33, 40, 115, 110, 61, 42, 41, 41, 41]
def fxF : Fl := .mk 0 [] [] [] [.mk 4 [99, 110] [] [(0, [97]), (2, [98])] [], .mk 2 [] [] [] [.mk 7 [115, 110] [] [] []]]
def fyS : List UInt8 := [40, 99, 110, 61, 92, 50, 97, 41]
def fyF : Fl := .mk 3 [99, 110] [42] [] []
def fzS : List UInt8 := [40, 99, 110, 62, 61, 42, 41]
theorem fxS_parse : flParse fxS = .ok fxF := by kernel_rfl
theorem fyS_parse : flParse fyS = .ok fyF := by kernel_rfl
theorem fzS_parse : flParse fzS = .error 4 := by kernel_rfl
theorem filt_ParseX (h : Heap) (hT : Tabs h) : Spec Tryd.prog 9 [str fxS] h [] (fun u h' H' => (∃ A c B d P p Q q P2 p2 Q2 q2, u = .tuple #[.agg #[.int .i64 0, str [], str [], .slice A 0 c, .slice B 2 d], .int .i64 0] ∧
    HSl h' (.slice B 2 d) 5 [[.int .i64 4, str [99, 110], str [], .slice P 2 p, .slice Q 0 q], [.int .i64 2, str [], str [], .slice P2 0 p2, .slice Q2 1 q2]]) ∧ H' = []) := by
  refine (filt_Parse fxS (by decide) h hT).mono ?_
  rintro u h' H' ⟨hp, rfl⟩ _
  rw [fxS_parse] at hp
  obtain ⟨c, hc, rfl⟩ := hp
  obtain ⟨k, a, v, ps, ks, A, c, B, d, rows, e, rfl, _, sk, kk, _⟩ := hc.box
  injection e with e1 e2 e3 e4 e5
  subst e1 e2 e3 e4 e5
  simp only [FlsC] at kk
  obtain ⟨r1, rs, rfl, h1, r2, rs2, rfl, h2, rfl⟩ := kk
  obtain ⟨_, _, _, _, _, P, p, Q, q, _, e, rfl, _⟩ := h1.box
  injection e with e1 e2 e3 e4 e5
  subst e1 e2 e3 e4 e5
  obtain ⟨_, _, _, _, _, P2, p2, Q2, q2, _, e, rfl, _⟩ := h2.box
  injection e with e1 e2 e3 e4 e5
  subst e1 e2 e3 e4 e5
  exact ⟨⟨A, c, B, d, P, p, Q, q, P2, p2, Q2, q2, rfl, sk⟩, rfl⟩
theorem filt_ParseY (h : Heap) (hT : Tabs h) : Spec Tryd.prog 9 [str fyS] h [] (fun u _ H' => (∃ A c B d, u = .tuple #[.agg #[.int .i64 3, str [99, 110], str [42], .slice A 0 c, .slice B 0 d], .int .i64 0]) ∧ H' = []) := by
  refine (filt_Parse fyS (by decide) h hT).mono ?_
  rintro u h' H' ⟨hp, rfl⟩ _
  rw [fyS_parse] at hp
  obtain ⟨c, hc, rfl⟩ := hp
  obtain ⟨k, a, v, ps, ks, A, c, B, d, rows, e, rfl, _⟩ := hc.box
  injection e with e1 e2 e3 e4 e5
  subst e1 e2 e3 e4 e5
  exact ⟨⟨A, c, B, d, rfl⟩, rfl⟩
theorem filt_ParseZ (h : Heap) (hT : Tabs h) : Spec Tryd.prog 9 [str fzS] h [] (fun u _ H' => u = .tuple #[zFv, .int .i64 4] ∧ H' = []) := by
  refine (filt_Parse fzS (by decide) h hT).mono ?_
  rintro u h' H' ⟨hp, rfl⟩ _
  rw [fzS_parse] at hp
  exact ⟨hp, rfl⟩
set_option maxRecDepth 8000 in
set_option maxHeartbeats 1000000 in
theorem law10_awake (h : Heap) (hT : Tabs h) : Spec Tryd.prog 11 [] h [] (fun u _ H' => u = .bool true ∧ H' = []) := by
  refine Spec.enter Tryd.func11 rfl rfl ?_; intro w0
  repeat' (first | (refine G.atCode ?_; first | refine G.seq ?_ | refine G.region ?_) | refine G.endOps ?_ | refine G.op rfl rfl ?_)
  show G _ (.ops .seq _ (⟨some _, .call { callee := .value (.func 9), args := _, argTypes := _ }, _, _, _, none⟩ :: _) :: _) _ _ _
  refine G.call callFParse rfl rfl (filt_ParseX _ hT) (by solve | (repeat (first | apply Takes.nil | apply Take.hd | apply Take.tl | apply Takes.cons))) ?_
  rintro _ h2 H2 ⟨⟨A, c, B, d, P, p, Q, q, P2, p2, Q2, q2, rfl, hs⟩, rfl⟩ hle2
  repeat' (first | (refine G.atCode ?_; first | refine G.seq ?_ | refine G.region ?_) | refine G.endOps ?_ | refine G.op rfl rfl ?_ | (refine G.atSto ?_; refine G.storeOwn rfl rfl (tyy rfl) (by solve | (repeat (first | apply Take.hd | apply Take.tl))) rfl rfl rfl rfl ?_) | (refine G.atAlc ?_; refine G.alloc (tyy rfl) rfl rfl ?_; intro _))
  show G _ (.ops .seq _ (⟨some _, .call { callee := .value (.func 9), args := _, argTypes := _ }, _, _, _, none⟩ :: _) :: _) _ _ _
  refine G.call callFParse rfl rfl (filt_ParseY _ (hT.mono (by solve | (repeat (first | assumption | exact Heap.le_refl _ | (refine Heap.le_trans ?_ (by assumption))))))) (by solve | (repeat (first | apply Takes.nil | apply Take.hd | apply Take.tl | apply Takes.cons))) ?_
  rintro _ h3 H3 ⟨⟨A3, c3, B3, d3, rfl⟩, rfl⟩ hle3
  repeat' (first | (refine G.atCode ?_; first | refine G.seq ?_ | refine G.region ?_) | refine G.endOps ?_ | refine G.op rfl rfl ?_ | (refine G.atSto ?_; refine G.storeOwn rfl rfl (tyy rfl) (by solve | (repeat (first | apply Take.hd | apply Take.tl))) rfl rfl rfl rfl ?_) | (refine G.atAlc ?_; refine G.alloc (tyy rfl) rfl rfl ?_; intro _))
  show G _ (.ops .seq _ (⟨some _, .call { callee := .value (.func 9), args := _, argTypes := _ }, _, _, _, none⟩ :: _) :: _) _ _ _
  refine G.call callFParse rfl rfl (filt_ParseZ _ (hT.mono (by solve | (repeat (first | assumption | exact Heap.le_refl _ | (refine Heap.le_trans ?_ (by assumption))))))) (by solve | (repeat (first | apply Takes.nil | apply Take.hd | apply Take.tl | apply Takes.cons))) ?_
  rintro _ h4 H4 ⟨rfl, rfl⟩ hle4
  unfold zFv
  have hs := hs.mono (Heap.le_trans hle3 hle4)
  repeat' (first | (refine G.atIdx ?_; refine G.idxImm rfl rfl (tyy rfl) (tyy rfl) hs (by first | (simp only [Int.reduceToNat]; rfl) | with_reducible apply Int.toNat_natCast | exact Eq.refl _) rfl (by simp) ?_; intro p1 r1 hx1 hp1; (obtain rfl := Option.some.inj hx1)) | (refine G.atLoad ?_; refine G.loadImmAt1 rfl (tyy rfl) rfl rfl (by assumption) rfl rfl ?_) | (refine G.atCode ?_; first | refine G.seq ?_ | refine G.region ?_ | refine G.ret ?_) | refine G.endOps ?_ | (refine G.atGd ?_; first | refine G.guardYes rfl rfl ?_) | (refine G.atBin ?_; first | (refine G.atEql ?_; first | refine G.op rfl rfl ?_ | refine G.eqStr rfl rfl rfl ?_)) | refine G.op rfl rfl ?_ | (refine G.atLen ?_; first | refine G.lenSlice rfl (tyy rfl) rfl ?_) | (refine G.atLoad ?_; first | refine G.loadOwn1 rfl (tyy rfl) rfl rfl (by solve | (repeat (first | apply Take.hd | apply Take.tl))) rfl rfl ?_) | (refine G.atFld ?_; first | refine G.fieldAddr rfl (tyy rfl) rfl rfl ?_ | refine G.fieldAddrP rfl (tyy rfl) rfl rfl ?_) | (refine G.atSto ?_; refine G.storeOwn rfl rfl (tyy rfl) (by solve | (repeat (first | apply Take.hd | apply Take.tl))) rfl rfl rfl rfl ?_) | (refine G.atAlc ?_; refine G.alloc (tyy rfl) rfl rfl ?_; intro _))
  all_goals first | exact G.done1 rfl rfl _ (SubH.nil _) ⟨rfl, rfl⟩ | (exfalso; simp_all; done) | skip
theorem ref10_Same' {a : Fl} {ra rb : List Value} {h : Heap} (ha : FlC h a ra) (hb : FlC h a rb) : Spec Tryd.prog 12 [.agg ra.toArray, .agg rb.toArray] h [] (fun u _ H' => u = .bool true ∧ H' = []) :=
  ref10_Same a.sz a (Nat.le_refl _) ra rb h ha hb
end Go.Proofs.YtcghcdnmpjhifaaDoor
