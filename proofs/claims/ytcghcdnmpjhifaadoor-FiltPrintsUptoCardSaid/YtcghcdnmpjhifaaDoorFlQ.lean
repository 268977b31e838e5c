/- Filters: filt.Bare; castellanref10.Bare, Twin. -/
import Derived.Test.YtcghcdnmpjhifaaDoorFlO
namespace Go.Proofs.YtcghcdnmpjhifaaDoor
set_option linter.all false
set_option maxRecDepth 4000
open Go.RowKit

theorem callBare : Callable Tryd.prog 14 := ⟨_, Tryd.func14, by kernel_rfl, rfl⟩
theorem callRBare : Callable Tryd.prog 15 := ⟨_, Tryd.func15, by kernel_rfl, rfl⟩
theorem callTwin10 : Callable Tryd.prog 16 := ⟨_, Tryd.func16, by kernel_rfl, rfl⟩
theorem one_pcs (ps : Pcs) : ∀ r ∈ pcsR ps, ∀ q ∈ r, q.oneCell' = true := by
  intro r hr q hq
  simp only [pcsR, List.mem_map] at hr
  obtain ⟨p, _, rfl⟩ := hr
  simp only [List.mem_cons, List.mem_nil_iff, or_false] at hq
  rcases hq with rfl | rfl <;> rfl
def FlU (h : Heap) (f : Fl) (u : Value) : Prop := ∃ c, FlC h f c /\ u = .agg c.toArray
theorem bareFs_app : ∀ (a b : List Fl), bareFs (a ++ b) = bareFs a ++ bareFs b
  | [], b => by simp [bareFs]
  | k :: a, b => by simp [bareFs, bareFs_app a b]
theorem bareF_mk {k : Int} {a v : List UInt8} {ps : Pcs} {ks : List Fl} : bareF (.mk k a v ps ks) = if k < 0 \/ 8 < k then .mk k [] [] [] [] else if k <= 2 then .mk k [] [] [] (bareFs ks) else .mk k a (if k = 4 \/ k = 7 then [] else v) (if k = 4 then ps else []) [] := by rw [bareF]
set_option maxRecDepth 8000 in
set_option maxHeartbeats 2000000 in
theorem filt_Bare : ∀ (n : Nat) (a : Fl), a.sz <= n -> a.wt <= 100000000 -> ∀ (r : List Value) (h : Heap), FlC h a r →
    Spec Tryd.prog 14 [.agg r.toArray] h [] (fun u h' H' => FlU h' (bareF a) u /\ H' = [])
  | 0, .mk _ _ _ _ _, hn, _, _, _, _ => by simp only [Fl.sz] at hn; omega
  | n + 1, a, hn, hw, r, h, ha => by
    have ih := filt_Bare n
    obtain ⟨k, a, v, ps, ks, A, c, B, d, rowa, rfl, rfl, sp, sa, ka, la⟩ := ha.box
    have lp := pcsR_length ps
    have hpl := pcW_len ps
    have hkl := flwt_len ks
    have hwt : 1 + a.length + v.length + pcW ps + flwt ks <= 100000000 := by simpa only [Fl.wt] using hw
    clear ha
    by_cases hk1 : k < 0 \/ 8 < k
    . rw [bareF_mk, if_pos hk1]
      refine Spec.enter Tryd.func14 rfl rfl ?_; intro w0
      repeat' (first | (refine G.atCode ?_; first | refine G.seq ?_ | refine G.region ?_ | refine G.block ?_ | refine G.ret ?_ | (refine G.cond rfl ?_ ?_ <;> intro hc <;> (try simp only [tests, reduceCtorEq] at hc) <;> (try exact Zf))) | refine G.endOps ?_ | (refine G.atGd ?_; first | refine G.guardYes rfl rfl ?_ | refine G.guardNoS rfl rfl rfl ?_ | (refine G.guardS rfl rfl rfl ?_ ?_ <;> intro hc <;> (try simp only [tests, reduceCtorEq] at hc) <;> (try exact Zf))) | (refine G.atBin ?_; first | refine G.op rfl rfl ?_) | refine G.op rfl rfl ?_ | (refine G.atLoad ?_; first | refine G.loadOwn1 rfl (tyy rfl) rfl rfl Za rfl rfl ?_ | refine G.loadOwnA rfl (tyy rfl) rfl rfl Za rfl rfl ?_) | (refine G.atFld ?_; first | refine G.fieldAddr rfl (tyy rfl) rfl rfl ?_) | (refine G.atSto ?_; refine G.storeOwn rfl rfl (tyy rfl) Za rfl rfl rfl rfl ?_) | (refine G.atAlc ?_; refine G.alloc (tyy rfl) rfl rfl ?_; intro _) | (refine G.atBox ?_; refine G.box rfl rfl rfl ?_; intro _) | (refine G.atBld ?_; refine G.build (tyy rfl) rfl rfl rfl ?_))
      all_goals first | (exfalso; omega) | exact G.done (rs := [.cell 2 25]) rfl (.cellA rfl (tyy rfl) rfl rfl Za rfl .nil) rfl [] (SubH.nil _) ⟨⟨_, FlC.mk_ (HSl.nil _ 2) (HSl.nil _ 5) (FlsC.nil _), rfl⟩, rfl⟩
    by_cases hk2 : k <= 2
    . rw [bareF_mk, if_neg hk1, if_pos hk2]
      refine Spec.enter Tryd.func14 rfl rfl ?_; intro w0
      repeat' (first | (refine G.atCode ?_; refine G.stopLoop ?_) | (refine G.atCode ?_; first | refine G.seq ?_ | refine G.region ?_ | refine G.block ?_ | (refine G.cond rfl ?_ ?_ <;> intro hc <;> (try simp only [tests, reduceCtorEq] at hc) <;> (try exact Zf))) | refine G.endOps ?_ | (refine G.atGd ?_; first | refine G.guardYes rfl rfl ?_ | (refine G.guardS rfl rfl rfl ?_ ?_ <;> intro hc <;> (try simp only [tests, reduceCtorEq] at hc) <;> (try exact Zf))) | (refine G.atBin ?_; first | refine G.op rfl rfl ?_) | refine G.op rfl rfl ?_ | (refine G.atLen ?_; first | refine G.lenSlice rfl (tyy rfl) rfl ?_) | (refine G.atLoad ?_; first | refine G.loadOwn1 rfl (tyy rfl) rfl rfl Za rfl rfl ?_) | (refine G.atFld ?_; first | refine G.fieldAddr rfl (tyy rfl) rfl rfl ?_) | (refine G.atSto ?_; refine G.storeOwn rfl rfl (tyy rfl) Za rfl rfl rfl rfl ?_) | (refine G.atAlc ?_; refine G.alloc (tyy rfl) rfl rfl ?_; intro _) | (refine G.atBox ?_; refine G.box rfl rfl rfl ?_; intro _) | (refine G.atBld ?_; refine G.build (tyy rfl) rfl rfl rfl ?_))
      all_goals first | (exfalso; omega) | skip
      refine G.nilRow 25 5 ?_
      refine G.go ?_
      rename_i gf gr go _ _
      refine G.loop (σ := Nat × List (List Value) × Option Addr × Nat) (fun x => [(26, .int .i64 x.1), (25, .int .i64 ks.length), (24, .slice B ks.length d), (3, .pointer (some ⟨go, 0, none⟩)), (2, .pointer (some ⟨gr, 0, none⟩))])
        (fun x => [.blk go [.int .i64 k, str [], str [], .slice none 0 0, .slice x.2.2.1 x.2.1.length x.2.2.2] 25, .blk gr [.int .i64 0, str [], str [], .slice none 0 0, .slice none 0 0] 25, .row (.slice x.2.2.1 x.2.1.length x.2.2.2) 25 5 x.2.1])
        (fun x h' => x.1 <= ks.length /\ x.2.1.length = x.1 /\ FlsC h' (bareFs (ks.take x.1)) x.2.1) (fun x => ks.length - x.1) ⟨0, [], none, 0⟩ ⟨rfl, rfl, rfl, rfl, rfl, trivial⟩ Zu ⟨Nat.zero_le _, rfl, FlsC.nil _⟩ ?_
      rintro ⟨i, rws, A1, c1⟩ h1 hle1 ⟨hi, hil, hik⟩
      simp only at hi hil hik
      refine G.norm (by (try dsimp only) <;> exact rfl) (by (try dsimp only) <;> exact rfl) ?_
      by_cases hlt : i < ks.length
      . obtain ⟨f, hf⟩ : ∃ f, ks[i]? = some f := ⟨ks[i], List.getElem?_eq_getElem hlt⟩
        obtain ⟨q1, e1, n1⟩ := ka.get hf
        have n1 := n1.mono' hle1
        have hfs := flsz_kid (k := k) (a := a) (v := v) (ps := ps) hf
        have hfw := flwt_kid (k := k) (a := a) (v := v) (ps := ps) hf
        have t1 : HSl h1 (.slice B ks.length d) 5 rowa := sa.mono hle1
        have l1 : q1.length = 5 := t1.rowed q1 (List.mem_of_getElem? e1)
        have hcall := ih f (by omega) (by omega) q1 h1 n1
        obtain ⟨k9, a9, v9, A9, m9, q9, B9, p9, r9, rfl⟩ := n1.shp
        repeat' (first | (refine G.atIdx ?_; refine G.idxImm rfl rfl (tyy rfl) (tyy rfl) t1 Zj rfl (by omega) ?_; intro p1 r1 hx1 hp1; (rw [e1] at hx1); (obtain rfl := Option.some.inj hx1)) | (show G _ (.ops .seq _ (⟨some _, .call { callee := .value (.func 14), args := _, argTypes := _ }, _, _, _, none⟩ :: _) :: _) _ _ _; refine G.call callBare rfl rfl hcall Ze ?_; rintro _ h4 H4 ⟨⟨c4, hc4, rfl⟩, rfl⟩ hle4; have hk4 := hc4; obtain ⟨k8, a8, v8, A8, m8, q8, B8, p8, r8, rfl⟩ := hc4.shp) | (refine G.atCode ?_; first | refine G.seq ?_ | refine G.region ?_ | refine G.block ?_ | refine G.skip ?_ | refine G.anyIn mixedOk ?_ | (refine G.cond rfl ?_ ?_ <;> intro hc <;> (try simp only [tests, reduceCtorEq] at hc) <;> (try exact Zf))) | refine G.endOps ?_ | refine G.endHeld ?_ | refine G.back ?_ | refine G.endBlk ?_ | (refine G.atAny ?_; first | refine G.anyAutoX slB rfl rfl Zw Zg Zd ?_ | refine G.anyOne rfl Zw Zg Zu ?_ | refine G.anyEndX Zw ?_) | (refine G.atBin ?_; first | (refine G.atAdd ?_; first | refine G.arith rfl rfl rfl rfl rfl Zi ?_) | refine G.op rfl rfl ?_) | refine G.op rfl rfl ?_ | (refine G.atLoad ?_; first | refine G.loadOwn1 rfl (tyy rfl) rfl rfl Za rfl rfl ?_ | refine G.loadOwnA rfl (tyy rfl) rfl rfl Za rfl rfl ?_ | refine G.loadImmA rfl (tyy rfl) rfl rfl Zp Zp rfl ?_) | (refine G.atFld ?_; first | refine G.fieldAddr rfl (tyy rfl) rfl rfl ?_) | (refine G.atSto ?_; refine G.storeOwn rfl rfl (tyy rfl) Za rfl rfl rfl rfl ?_) | (refine G.atAlc ?_; refine G.alloc (tyy rfl) rfl rfl ?_; intro _) | (refine G.atBsl ?_; refine G.buildSlice (tyy rfl) (tyy rfl) rfl rfl rfl rfl ?_; intro _) | (refine G.atApp ?_; first | (refine G.append1 rfl rfl (tyy rfl) (tyy rfl) rfl rfl Za Za rfl rfl rfl Zo ?_; intro _; refine G.rowForm Take.hd ?_; rintro _ _ rfl)))
        all_goals first | (exfalso; omega) | skip
        rename_i A' c'
        refine G.again ⟨i + 1, rws ++ [[.int .i64 k8, str a8, str v8, .slice A8 m8 q8, .slice B8 p8 r8]], A', c'⟩ ⟨sint (by simp), rfl, rfl, rfl, rfl, trivial⟩ Zu ⟨by simp only; omega, by simp [hil], ?_⟩ (by solve | repeat first | assumption | exact Zr _ | refine Zq ?_ Zp) (by simp only; omega)
        simp only
        rw [List.take_succ_eq_append_getElem hlt, (List.getElem?_eq_some_iff.1 hf).2, bareFs_app]
        exact (hik.mono' (by solve | repeat first | assumption | exact Zr _ | refine Zq ?_ Zp)).append (FlsC.one hk4)
      . obtain rfl : i = ks.length := by omega
        rw [List.take_of_length_le (Nat.le_refl _)] at hik
        repeat' (first | (refine G.atCode ?_; first | refine G.seq ?_ | refine G.region ?_ | refine G.exit rfl ?_ | refine G.ret ?_ | (refine G.cond rfl ?_ ?_ <;> intro hc <;> (try simp only [tests, reduceCtorEq] at hc) <;> (try exact Zf))) | refine G.endOps ?_ | (refine G.atBin ?_; first | refine G.op rfl rfl ?_) | (refine G.atLoad ?_; first | refine G.loadOwnA rfl (tyy rfl) rfl rfl Za rfl rfl ?_) | (refine G.atSto ?_; refine G.storeOwn rfl rfl (tyy rfl) Za rfl rfl rfl rfl ?_))
        all_goals first | (exfalso; omega) | skip
        refine G.freezeRow (v := .slice A1 rws.length c1) Za ?_
        intro h9 hle9 hs9
        exact G.done (rs := [.cell 2 25]) rfl (.cellA rfl (tyy rfl) rfl rfl Za rfl .nil) rfl [] (SubH.nil _) ⟨⟨_, FlC.mk_ (HSl.nil _ 2) hs9 (hik.mono' hle9), rfl⟩, rfl⟩
    rw [bareF_mk, if_neg hk1, if_neg hk2]
    by_cases hk4 : k = 4
    . rw [if_pos (.inl hk4), if_pos hk4]
      refine Spec.enter Tryd.func14 rfl rfl ?_; intro w0
      refine G.nilRow 54 2 ?_
      repeat' (first | (refine G.atApp ?_; refine G.appendImm rfl rfl (tyy rfl) (tyy rfl) rfl rfl Za (sp.mono (by solve | repeat first | assumption | exact Zr _ | refine Zq ?_ Zp)) (one_pcs _) rfl (by simp only [List.length_nil, pcsR_length]; omega) ?_; intro _; refine G.rowForm Take.hd ?_; rintro _ _ rfl) | (refine G.atCode ?_; first | refine G.seq ?_ | refine G.region ?_ | refine G.block ?_ | refine G.skip ?_ | refine G.ret ?_ | (refine G.cond rfl ?_ ?_ <;> intro hc <;> (try simp only [tests, reduceCtorEq] at hc) <;> (try exact Zf))) | refine G.endOps ?_ | refine G.endBlk ?_ | (refine G.atGd ?_; first | refine G.guardYes rfl rfl ?_ | (refine G.guardS rfl rfl rfl ?_ ?_ <;> intro hc <;> (try simp only [tests, reduceCtorEq] at hc) <;> (try exact Zf))) | (refine G.atBin ?_; first | (refine G.atEql ?_; first | refine G.op rfl rfl ?_) | refine G.op rfl rfl ?_) | refine G.op rfl rfl ?_ | (refine G.atLoad ?_; first | refine G.loadOwn1 rfl (tyy rfl) rfl rfl Za rfl rfl ?_ | refine G.loadOwnA rfl (tyy rfl) rfl rfl Za rfl rfl ?_) | (refine G.atFld ?_; first | refine G.fieldAddr rfl (tyy rfl) rfl rfl ?_) | (refine G.atSto ?_; refine G.storeOwn rfl rfl (tyy rfl) Za rfl rfl rfl rfl ?_) | (refine G.atAlc ?_; refine G.alloc (tyy rfl) rfl rfl ?_; intro _) | (refine G.atBox ?_; refine G.box rfl rfl rfl ?_; intro _) | (refine G.atBld ?_; refine G.build (tyy rfl) rfl rfl rfl ?_))
      all_goals first | (exfalso; omega) | skip
      rename_i A' c'
      refine G.freezeRow (v := .slice A' ([] ++ pcsR ps).length c') Za ?_
      intro h9 hle9 hs9
      exact G.done (rs := [.cell 2 25]) rfl (.cellA rfl (tyy rfl) rfl rfl Za rfl .nil) rfl [] (SubH.nil _) ⟨⟨_, FlC.mk_ hs9 (HSl.nil _ 5) (FlsC.nil _), rfl⟩, rfl⟩
    rw [if_neg hk4]
    by_cases hk7 : k = 7
    . rw [if_pos (.inr hk7)]
      refine Spec.enter Tryd.func14 rfl rfl ?_; intro w0
      repeat' (first | (refine G.atCode ?_; first | refine G.seq ?_ | refine G.region ?_ | refine G.block ?_ | refine G.skip ?_ | refine G.ret ?_ | (refine G.cond rfl ?_ ?_ <;> intro hc <;> (try simp only [tests, reduceCtorEq] at hc) <;> (try exact Zf))) | refine G.endOps ?_ | refine G.endBlk ?_ | (refine G.atGd ?_; first | refine G.guardYes rfl rfl ?_ | (refine G.guardS rfl rfl rfl ?_ ?_ <;> intro hc <;> (try simp only [tests, reduceCtorEq] at hc) <;> (try exact Zf))) | (refine G.atBin ?_; first | (refine G.atEql ?_; first | refine G.op rfl rfl ?_) | refine G.op rfl rfl ?_) | refine G.op rfl rfl ?_ | (refine G.atLoad ?_; first | refine G.loadOwn1 rfl (tyy rfl) rfl rfl Za rfl rfl ?_ | refine G.loadOwnA rfl (tyy rfl) rfl rfl Za rfl rfl ?_) | (refine G.atFld ?_; first | refine G.fieldAddr rfl (tyy rfl) rfl rfl ?_) | (refine G.atSto ?_; refine G.storeOwn rfl rfl (tyy rfl) Za rfl rfl rfl rfl ?_) | (refine G.atAlc ?_; refine G.alloc (tyy rfl) rfl rfl ?_; intro _) | (refine G.atBox ?_; refine G.box rfl rfl rfl ?_; intro _) | (refine G.atBld ?_; refine G.build (tyy rfl) rfl rfl rfl ?_))
      all_goals first | (exfalso; omega) | exact G.done (rs := [.cell 2 25]) rfl (.cellA rfl (tyy rfl) rfl rfl Za rfl .nil) rfl [] (SubH.nil _) ⟨⟨_, FlC.mk_ (HSl.nil _ 2) (HSl.nil _ 5) (FlsC.nil _), rfl⟩, rfl⟩
    . rw [if_neg (by omega)]
      refine Spec.enter Tryd.func14 rfl rfl ?_; intro w0
      repeat' (first | (refine G.atCode ?_; first | refine G.seq ?_ | refine G.region ?_ | refine G.block ?_ | refine G.skip ?_ | refine G.ret ?_ | (refine G.cond rfl ?_ ?_ <;> intro hc <;> (try simp only [tests, reduceCtorEq] at hc) <;> (try exact Zf))) | refine G.endOps ?_ | refine G.endBlk ?_ | (refine G.atGd ?_; first | refine G.guardYes rfl rfl ?_ | (refine G.guardS rfl rfl rfl ?_ ?_ <;> intro hc <;> (try simp only [tests, reduceCtorEq] at hc) <;> (try exact Zf))) | (refine G.atBin ?_; first | (refine G.atEql ?_; first | refine G.op rfl rfl ?_) | refine G.op rfl rfl ?_) | refine G.op rfl rfl ?_ | (refine G.atLoad ?_; first | refine G.loadOwn1 rfl (tyy rfl) rfl rfl Za rfl rfl ?_ | refine G.loadOwnA rfl (tyy rfl) rfl rfl Za rfl rfl ?_) | (refine G.atFld ?_; first | refine G.fieldAddr rfl (tyy rfl) rfl rfl ?_) | (refine G.atSto ?_; refine G.storeOwn rfl rfl (tyy rfl) Za rfl rfl rfl rfl ?_) | (refine G.atAlc ?_; refine G.alloc (tyy rfl) rfl rfl ?_; intro _) | (refine G.atBox ?_; refine G.box rfl rfl rfl ?_; intro _) | (refine G.atBld ?_; refine G.build (tyy rfl) rfl rfl rfl ?_))
      all_goals first | (exfalso; omega) | exact G.done (rs := [.cell 2 25]) rfl (.cellA rfl (tyy rfl) rfl rfl Za rfl .nil) rfl [] (SubH.nil _) ⟨⟨_, FlC.mk_ (HSl.nil _ 2) (HSl.nil _ 5) (FlsC.nil _), rfl⟩, rfl⟩
set_option maxRecDepth 8000 in
set_option maxHeartbeats 2000000 in
theorem ref10_Bare : ∀ (n : Nat) (a : Fl), a.sz <= n -> a.wt <= 100000000 -> ∀ (r : List Value) (h : Heap), FlC h a r →
    Spec Tryd.prog 15 [.agg r.toArray] h [] (fun u h' H' => FlU h' (bareF a) u /\ H' = [])
  | 0, .mk _ _ _ _ _, hn, _, _, _, _ => by simp only [Fl.sz] at hn; omega
  | n + 1, a, hn, hw, r, h, ha => by
    have ih := ref10_Bare n
    obtain ⟨k, a, v, ps, ks, A, c, B, d, rowa, rfl, rfl, sp, sa, ka, la⟩ := ha.box
    have lp := pcsR_length ps
    have hpl := pcW_len ps
    have hkl := flwt_len ks
    have hwt : 1 + a.length + v.length + pcW ps + flwt ks <= 100000000 := by simpa only [Fl.wt] using hw
    clear ha
    by_cases hk1 : k < 0 \/ 8 < k
    . rw [bareF_mk, if_pos hk1]
      refine Spec.enter Tryd.func15 rfl rfl ?_; intro w0
      repeat' (first | (refine G.atCode ?_; first | refine G.seq ?_ | refine G.region ?_ | refine G.skip ?_ | refine G.ret ?_ | (refine G.cond rfl ?_ ?_ <;> intro hc <;> (try simp only [tests, reduceCtorEq] at hc) <;> (try exact Zf))) | refine G.endOps ?_ | (refine G.atGd ?_; first | refine G.guardYes rfl rfl ?_ | refine G.guardNoS rfl rfl rfl ?_ | (refine G.guardS rfl rfl rfl ?_ ?_ <;> intro hc <;> (try simp only [tests, reduceCtorEq] at hc) <;> (try exact Zf))) | (refine G.atBin ?_; first | refine G.op rfl rfl ?_) | refine G.op rfl rfl ?_ | (refine G.atLoad ?_; first | refine G.loadOwn1 rfl (tyy rfl) rfl rfl Za rfl rfl ?_ | refine G.loadOwnA rfl (tyy rfl) rfl rfl Za rfl rfl ?_) | (refine G.atFld ?_; first | refine G.fieldAddr rfl (tyy rfl) rfl rfl ?_) | (refine G.atSto ?_; refine G.storeOwn rfl rfl (tyy rfl) Za rfl rfl rfl rfl ?_) | (refine G.atAlc ?_; refine G.alloc (tyy rfl) rfl rfl ?_; intro _) | (refine G.atBox ?_; refine G.box rfl rfl rfl ?_; intro _) | (refine G.atBld ?_; refine G.build (tyy rfl) rfl rfl rfl ?_))
      all_goals first | (exfalso; omega) | exact G.done (rs := [.cell 2 25]) rfl (.cellA rfl (tyy rfl) rfl rfl Za rfl .nil) rfl [] (SubH.nil _) ⟨⟨_, FlC.mk_ (HSl.nil _ 2) (HSl.nil _ 5) (FlsC.nil _), rfl⟩, rfl⟩
    by_cases hk2 : k <= 2
    . rw [bareF_mk, if_neg hk1, if_pos hk2]
      refine Spec.enter Tryd.func15 rfl rfl ?_; intro w0
      repeat' (first | (refine G.atCode ?_; refine G.stopLoop ?_) | (refine G.atCode ?_; first | refine G.seq ?_ | refine G.region ?_ | refine G.block ?_ | (refine G.cond rfl ?_ ?_ <;> intro hc <;> (try simp only [tests, reduceCtorEq] at hc) <;> (try exact Zf))) | refine G.endOps ?_ | (refine G.atGd ?_; first | refine G.guardYes rfl rfl ?_ | (refine G.guardS rfl rfl rfl ?_ ?_ <;> intro hc <;> (try simp only [tests, reduceCtorEq] at hc) <;> (try exact Zf))) | (refine G.atBin ?_; first | refine G.op rfl rfl ?_) | refine G.op rfl rfl ?_ | (refine G.atLen ?_; first | refine G.lenSlice rfl (tyy rfl) rfl ?_) | (refine G.atLoad ?_; first | refine G.loadOwn1 rfl (tyy rfl) rfl rfl Za rfl rfl ?_) | (refine G.atFld ?_; first | refine G.fieldAddr rfl (tyy rfl) rfl rfl ?_) | (refine G.atSto ?_; refine G.storeOwn rfl rfl (tyy rfl) Za rfl rfl rfl rfl ?_) | (refine G.atAlc ?_; refine G.alloc (tyy rfl) rfl rfl ?_; intro _) | (refine G.atBox ?_; refine G.box rfl rfl rfl ?_; intro _) | (refine G.atBld ?_; refine G.build (tyy rfl) rfl rfl rfl ?_))
      all_goals first | (exfalso; omega) | skip
      refine G.nilRow 25 5 ?_
      refine G.go ?_
      rename_i gf gr go _
      refine G.loop (σ := Nat × List (List Value) × Option Addr × Nat) (fun x => [(19, .int .i64 x.1), (18, .int .i64 ks.length), (3, .pointer (some ⟨go, 0, none⟩)), (2, .pointer (some ⟨gr, 0, none⟩)), (1, .pointer (some ⟨gf, 0, none⟩))])
        (fun x => [.blk go [.int .i64 k, str [], str [], .slice none 0 0, .slice x.2.2.1 x.2.1.length x.2.2.2] 25, .blk gr [.int .i64 0, str [], str [], .slice none 0 0, .slice none 0 0] 25, .blk gf [.int .i64 k, str a, str v, .slice A ps.length c, .slice B ks.length d] 25, .row (.slice x.2.2.1 x.2.1.length x.2.2.2) 25 5 x.2.1])
        (fun x h' => x.1 <= ks.length /\ x.2.1.length = x.1 /\ FlsC h' (bareFs (ks.take x.1)) x.2.1) (fun x => ks.length - x.1) ⟨0, [], none, 0⟩ ⟨rfl, rfl, rfl, rfl, rfl, trivial⟩ Zu ⟨Nat.zero_le _, rfl, FlsC.nil _⟩ ?_
      rintro ⟨i, rws, A1, c1⟩ h1 hle1 ⟨hi, hil, hik⟩
      simp only at hi hil hik
      refine G.norm (by (try dsimp only) <;> exact rfl) (by (try dsimp only) <;> exact rfl) ?_
      by_cases hlt : i < ks.length
      . obtain ⟨f, hf⟩ : ∃ f, ks[i]? = some f := ⟨ks[i], List.getElem?_eq_getElem hlt⟩
        obtain ⟨q1, e1, n1⟩ := ka.get hf
        have n1 := n1.mono' hle1
        have hfs := flsz_kid (k := k) (a := a) (v := v) (ps := ps) hf
        have hfw := flwt_kid (k := k) (a := a) (v := v) (ps := ps) hf
        have t1 : HSl h1 (.slice B ks.length d) 5 rowa := sa.mono hle1
        have l1 : q1.length = 5 := t1.rowed q1 (List.mem_of_getElem? e1)
        have hcall := ih f (by omega) (by omega) q1 h1 n1
        obtain ⟨k9, a9, v9, A9, m9, q9, B9, p9, r9, rfl⟩ := n1.shp
        repeat' (first | (refine G.atIdx ?_; refine G.idxImm rfl rfl (tyy rfl) (tyy rfl) t1 Zj rfl (by omega) ?_; intro p1 r1 hx1 hp1; (rw [e1] at hx1); (obtain rfl := Option.some.inj hx1)) | (show G _ (.ops .seq _ (⟨some _, .call { callee := .value (.func 15), args := _, argTypes := _ }, _, _, _, none⟩ :: _) :: _) _ _ _; refine G.call callRBare rfl rfl hcall Ze ?_; rintro _ h4 H4 ⟨⟨c4, hc4, rfl⟩, rfl⟩ hle4; have hk4 := hc4; obtain ⟨k8, a8, v8, A8, m8, q8, B8, p8, r8, rfl⟩ := hc4.shp) | (refine G.atCode ?_; first | refine G.seq ?_ | refine G.region ?_ | refine G.block ?_ | refine G.skip ?_ | refine G.anyIn mixedOk ?_ | (refine G.cond rfl ?_ ?_ <;> intro hc <;> (try simp only [tests, reduceCtorEq] at hc) <;> (try exact Zf))) | refine G.endOps ?_ | refine G.endHeld ?_ | refine G.back ?_ | refine G.endBlk ?_ | (refine G.atAny ?_; first | refine G.anyAutoX slB rfl rfl Zw Zg Zd ?_ | refine G.anyOne rfl Zw Zg Zu ?_ | refine G.anyEndX Zw ?_) | (refine G.atBin ?_; first | (refine G.atAdd ?_; first | refine G.arith rfl rfl rfl rfl rfl Zi ?_) | refine G.op rfl rfl ?_) | refine G.op rfl rfl ?_ | (refine G.atLoad ?_; first | refine G.loadOwn1 rfl (tyy rfl) rfl rfl Za rfl rfl ?_ | refine G.loadImmA rfl (tyy rfl) rfl rfl Zp Zp rfl ?_) | (refine G.atFld ?_; first | refine G.fieldAddr rfl (tyy rfl) rfl rfl ?_) | (refine G.atSto ?_; refine G.storeOwn rfl rfl (tyy rfl) Za rfl rfl rfl rfl ?_) | (refine G.atBsl ?_; refine G.buildSlice (tyy rfl) (tyy rfl) rfl rfl rfl rfl ?_; intro _) | (refine G.atApp ?_; first | (refine G.append1 rfl rfl (tyy rfl) (tyy rfl) rfl rfl Za Za rfl rfl rfl Zo ?_; intro _; refine G.rowForm Take.hd ?_; rintro _ _ rfl)))
        all_goals first | (exfalso; omega) | skip
        rename_i A' c'
        refine G.again ⟨i + 1, rws ++ [[.int .i64 k8, str a8, str v8, .slice A8 m8 q8, .slice B8 p8 r8]], A', c'⟩ ⟨sint (by simp), rfl, rfl, rfl, rfl, trivial⟩ Zu ⟨by simp only; omega, by simp [hil], ?_⟩ (by solve | repeat first | assumption | exact Zr _ | refine Zq ?_ Zp) (by simp only; omega)
        simp only
        rw [List.take_succ_eq_append_getElem hlt, (List.getElem?_eq_some_iff.1 hf).2, bareFs_app]
        exact (hik.mono' (by solve | repeat first | assumption | exact Zr _ | refine Zq ?_ Zp)).append (FlsC.one hk4)
      . obtain rfl : i = ks.length := by omega
        rw [List.take_of_length_le (Nat.le_refl _)] at hik
        repeat' (first | (refine G.atCode ?_; first | refine G.seq ?_ | refine G.region ?_ | refine G.skip ?_ | refine G.exit rfl ?_ | refine G.ret ?_ | (refine G.cond rfl ?_ ?_ <;> intro hc <;> (try simp only [tests, reduceCtorEq] at hc) <;> (try exact Zf))) | refine G.endOps ?_ | (refine G.atGd ?_; first | refine G.guardNoS rfl rfl rfl ?_ | (refine G.guardS rfl rfl rfl ?_ ?_ <;> intro hc <;> (try simp only [tests, reduceCtorEq] at hc) <;> (try exact Zf))) | (refine G.atBin ?_; first | refine G.op rfl rfl ?_) | refine G.op rfl rfl ?_ | (refine G.atLoad ?_; first | refine G.loadOwn1 rfl (tyy rfl) rfl rfl Za rfl rfl ?_ | refine G.loadOwnA rfl (tyy rfl) rfl rfl Za rfl rfl ?_) | (refine G.atFld ?_; first | refine G.fieldAddr rfl (tyy rfl) rfl rfl ?_) | (refine G.atSto ?_; refine G.storeOwn rfl rfl (tyy rfl) Za rfl rfl rfl rfl ?_))
        all_goals first | (exfalso; omega) | skip
        refine G.freezeRow (v := .slice A1 rws.length c1) Za ?_
        intro h9 hle9 hs9
        exact G.done (rs := [.cell 2 25]) rfl (.cellA rfl (tyy rfl) rfl rfl Za rfl .nil) rfl [] (SubH.nil _) ⟨⟨_, FlC.mk_ (HSl.nil _ 2) hs9 (hik.mono' hle9), rfl⟩, rfl⟩
    rw [bareF_mk, if_neg hk1, if_neg hk2]
    by_cases hk4 : k = 4
    . rw [if_pos (.inl hk4), if_pos hk4]
      refine Spec.enter Tryd.func15 rfl rfl ?_; intro w0
      refine G.nilRow 54 2 ?_
      repeat' (first | (refine G.atApp ?_; refine G.appendImm rfl rfl (tyy rfl) (tyy rfl) rfl rfl Za (sp.mono (by solve | repeat first | assumption | exact Zr _ | refine Zq ?_ Zp)) (one_pcs _) rfl (by simp only [List.length_nil, pcsR_length]; omega) ?_; intro _; refine G.rowForm Take.hd ?_; rintro _ _ rfl) | (refine G.atCode ?_; first | refine G.seq ?_ | refine G.region ?_ | refine G.skip ?_ | refine G.ret ?_ | (refine G.cond rfl ?_ ?_ <;> intro hc <;> (try simp only [tests, reduceCtorEq] at hc) <;> (try exact Zf))) | refine G.endOps ?_ | (refine G.atGd ?_; first | refine G.guardYes rfl rfl ?_ | (refine G.guardS rfl rfl rfl ?_ ?_ <;> intro hc <;> (try simp only [tests, reduceCtorEq] at hc) <;> (try exact Zf))) | (refine G.atBin ?_; first | (refine G.atEql ?_; first | refine G.op rfl rfl ?_) | refine G.op rfl rfl ?_) | refine G.op rfl rfl ?_ | (refine G.atLoad ?_; first | refine G.loadOwn1 rfl (tyy rfl) rfl rfl Za rfl rfl ?_ | refine G.loadOwnA rfl (tyy rfl) rfl rfl Za rfl rfl ?_) | (refine G.atFld ?_; first | refine G.fieldAddr rfl (tyy rfl) rfl rfl ?_) | (refine G.atSto ?_; refine G.storeOwn rfl rfl (tyy rfl) Za rfl rfl rfl rfl ?_) | (refine G.atAlc ?_; refine G.alloc (tyy rfl) rfl rfl ?_; intro _) | (refine G.atBox ?_; refine G.box rfl rfl rfl ?_; intro _) | (refine G.atBld ?_; refine G.build (tyy rfl) rfl rfl rfl ?_))
      all_goals first | (exfalso; omega) | skip
      rename_i A' c'
      refine G.freezeRow (v := .slice A' ([] ++ pcsR ps).length c') Za ?_
      intro h9 hle9 hs9
      exact G.done (rs := [.cell 2 25]) rfl (.cellA rfl (tyy rfl) rfl rfl Za rfl .nil) rfl [] (SubH.nil _) ⟨⟨_, FlC.mk_ hs9 (HSl.nil _ 5) (FlsC.nil _), rfl⟩, rfl⟩
    rw [if_neg hk4]
    by_cases hk7 : k = 7
    . rw [if_pos (.inr hk7)]
      refine Spec.enter Tryd.func15 rfl rfl ?_; intro w0
      repeat' (first | (refine G.atCode ?_; first | refine G.seq ?_ | refine G.region ?_ | refine G.skip ?_ | refine G.ret ?_ | (refine G.cond rfl ?_ ?_ <;> intro hc <;> (try simp only [tests, reduceCtorEq] at hc) <;> (try exact Zf))) | refine G.endOps ?_ | (refine G.atGd ?_; first | refine G.guardYes rfl rfl ?_ | (refine G.guardS rfl rfl rfl ?_ ?_ <;> intro hc <;> (try simp only [tests, reduceCtorEq] at hc) <;> (try exact Zf))) | (refine G.atBin ?_; first | (refine G.atEql ?_; first | refine G.op rfl rfl ?_) | (refine G.atNeq ?_; first | refine G.op rfl rfl ?_) | refine G.op rfl rfl ?_) | refine G.op rfl rfl ?_ | (refine G.atLoad ?_; first | refine G.loadOwn1 rfl (tyy rfl) rfl rfl Za rfl rfl ?_ | refine G.loadOwnA rfl (tyy rfl) rfl rfl Za rfl rfl ?_) | (refine G.atFld ?_; first | refine G.fieldAddr rfl (tyy rfl) rfl rfl ?_) | (refine G.atSto ?_; refine G.storeOwn rfl rfl (tyy rfl) Za rfl rfl rfl rfl ?_) | (refine G.atAlc ?_; refine G.alloc (tyy rfl) rfl rfl ?_; intro _) | (refine G.atBox ?_; refine G.box rfl rfl rfl ?_; intro _) | (refine G.atBld ?_; refine G.build (tyy rfl) rfl rfl rfl ?_))
      all_goals first | (exfalso; omega) | exact G.done (rs := [.cell 2 25]) rfl (.cellA rfl (tyy rfl) rfl rfl Za rfl .nil) rfl [] (SubH.nil _) ⟨⟨_, FlC.mk_ (HSl.nil _ 2) (HSl.nil _ 5) (FlsC.nil _), rfl⟩, rfl⟩
    . rw [if_neg (by omega)]
      refine Spec.enter Tryd.func15 rfl rfl ?_; intro w0
      repeat' (first | (refine G.atCode ?_; first | refine G.seq ?_ | refine G.region ?_ | refine G.skip ?_ | refine G.ret ?_ | (refine G.cond rfl ?_ ?_ <;> intro hc <;> (try simp only [tests, reduceCtorEq] at hc) <;> (try exact Zf))) | refine G.endOps ?_ | (refine G.atGd ?_; first | refine G.guardYes rfl rfl ?_ | (refine G.guardS rfl rfl rfl ?_ ?_ <;> intro hc <;> (try simp only [tests, reduceCtorEq] at hc) <;> (try exact Zf))) | (refine G.atBin ?_; first | (refine G.atEql ?_; first | refine G.op rfl rfl ?_) | (refine G.atNeq ?_; first | refine G.op rfl rfl ?_) | refine G.op rfl rfl ?_) | refine G.op rfl rfl ?_ | (refine G.atLoad ?_; first | refine G.loadOwn1 rfl (tyy rfl) rfl rfl Za rfl rfl ?_ | refine G.loadOwnA rfl (tyy rfl) rfl rfl Za rfl rfl ?_) | (refine G.atFld ?_; first | refine G.fieldAddr rfl (tyy rfl) rfl rfl ?_) | (refine G.atSto ?_; refine G.storeOwn rfl rfl (tyy rfl) Za rfl rfl rfl rfl ?_) | (refine G.atAlc ?_; refine G.alloc (tyy rfl) rfl rfl ?_; intro _) | (refine G.atBox ?_; refine G.box rfl rfl rfl ?_; intro _) | (refine G.atBld ?_; refine G.build (tyy rfl) rfl rfl rfl ?_))
      all_goals first | (exfalso; omega) | exact G.done (rs := [.cell 2 25]) rfl (.cellA rfl (tyy rfl) rfl rfl Za rfl .nil) rfl [] (SubH.nil _) ⟨⟨_, FlC.mk_ (HSl.nil _ 2) (HSl.nil _ 5) (FlsC.nil _), rfl⟩, rfl⟩
theorem G.blkRow0 {E : Env} {ks : List It} {f : Fr} {h : Heap} {H Hr : List Chunk} {g : Nat} {e : TypeId} (sz : Nat) (t : Take (.blk g [] e) H Hr) (n : G E ks f h (.row (.slice (some ⟨g, 0, none⟩) 0 0) e sz [] :: Hr)) : G E ks f h H :=
  ⟨fun ac w hac hw => n.run ac w hac (hw.swapRow t rfl (fun r hr => absurd hr (by simp)) rfl (by decide))⟩
set_option maxRecDepth 8000 in
set_option maxHeartbeats 2000000 in
theorem ref10_Twin : ∀ (n : Nat) (a : Fl), a.sz <= n -> a.wt <= 100000000 -> ∀ (r : List Value) (h : Heap), FlC h a r →
    Spec Tryd.prog 16 [.agg r.toArray] h [] (fun u h' H' => FlU h' a u /\ H' = [])
  | 0, .mk _ _ _ _ _, hn, _, _, _, _ => by simp only [Fl.sz] at hn; omega
  | n + 1, a, hn, hw, r, h, ha => by
    have ih := ref10_Twin n
    obtain ⟨k, a, v, ps, ks, A, c, B, d, rowa, rfl, rfl, sp, sa, ka, la⟩ := ha.box
    have lp := pcsR_length ps
    have hpl := pcW_len ps
    have hkl := flwt_len ks
    have hwt : 1 + a.length + v.length + pcW ps + flwt ks <= 100000000 := by simpa only [Fl.wt] using hw
    clear ha
    refine Spec.enter Tryd.func16 rfl rfl ?_; intro w0
    repeat' (first | (refine G.atCode ?_; first | refine G.seq ?_ | refine G.region ?_) | refine G.endOps ?_ | (refine G.atLoad ?_; first | refine G.loadOwn1 rfl (tyy rfl) rfl rfl Za rfl rfl ?_ | refine G.loadOwnA rfl (tyy rfl) rfl rfl Za rfl rfl ?_) | (refine G.atFld ?_; first | refine G.fieldAddr rfl (tyy rfl) rfl rfl ?_) | (refine G.atSto ?_; refine G.storeOwn rfl rfl (tyy rfl) Za rfl rfl rfl rfl ?_) | (refine G.atAlc ?_; refine G.alloc (tyy rfl) rfl rfl ?_; intro _) | (refine G.atBox ?_; refine G.box rfl rfl rfl ?_; intro _) | (refine G.atBsl ?_; refine G.buildSlice (tyy rfl) (tyy rfl) rfl rfl rfl rfl ?_; intro _))
    rename_i gf gr go gp
    refine G.blkRow0 (g := gp) 2 Za ?_
    repeat' (first | (refine G.atApp ?_; refine G.appendImm rfl rfl (tyy rfl) (tyy rfl) rfl rfl Za (sp.mono (by solve | repeat first | assumption | exact Zr _ | refine Zq ?_ Zp)) (one_pcs _) rfl (by simp only [List.length_nil, pcsR_length]; omega) ?_; intro _; refine G.rowForm Take.hd ?_; rintro _ _ rfl) | (refine G.atCode ?_; refine G.stopLoop ?_) | (refine G.atCode ?_; first | refine G.seq ?_ | refine G.region ?_ | refine G.block ?_) | refine G.endOps ?_ | refine G.op rfl rfl ?_ | (refine G.atLen ?_; first | refine G.lenSlice rfl (tyy rfl) rfl ?_) | (refine G.atLoad ?_; first | refine G.loadOwn1 rfl (tyy rfl) rfl rfl Za rfl rfl ?_) | (refine G.atFld ?_; first | refine G.fieldAddr rfl (tyy rfl) rfl rfl ?_) | (refine G.atSto ?_; refine G.storeOwn rfl rfl (tyy rfl) Za rfl rfl rfl rfl ?_))
    all_goals first | (exfalso; omega) | skip
    rename_i AP cP
    refine G.nilRow 25 5 ?_
    refine G.go ?_
    refine G.loop (σ := Nat × List (List Value) × Option Addr × Nat) (fun x => [(15, .int .i64 x.1), (14, .int .i64 ks.length), (3, .pointer (some ⟨go, 0, none⟩)), (2, .pointer (some ⟨gr, 0, none⟩)), (1, .pointer (some ⟨gf, 0, none⟩))])
      (fun x => [.blk go [.int .i64 k, str a, str v, .slice AP ([] ++ pcsR ps).length cP, .slice x.2.2.1 x.2.1.length x.2.2.2] 25, .blk gr [.int .i64 0, str [], str [], .slice none 0 0, .slice none 0 0] 25, .blk gf [.int .i64 k, str a, str v, .slice A ps.length c, .slice B ks.length d] 25, .row (.slice x.2.2.1 x.2.1.length x.2.2.2) 25 5 x.2.1, .row (.slice AP ([] ++ pcsR ps).length cP) 54 2 ([] ++ pcsR ps)])
      (fun x h' => x.1 <= ks.length /\ x.2.1.length = x.1 /\ FlsC h' (ks.take x.1) x.2.1) (fun x => ks.length - x.1) ⟨0, [], none, 0⟩ ⟨rfl, sint (by simp), rfl, rfl, rfl, trivial⟩ Zu ⟨Nat.zero_le _, rfl, FlsC.nil _⟩ ?_
    rintro ⟨i, rws, A1, c1⟩ h1 hle1 ⟨hi, hil, hik⟩
    simp only at hi hil hik
    refine G.norm (by (try dsimp only) <;> exact rfl) (by (try dsimp only) <;> exact rfl) ?_
    by_cases hlt : i < ks.length
    . obtain ⟨f, hf⟩ : ∃ f, ks[i]? = some f := ⟨ks[i], List.getElem?_eq_getElem hlt⟩
      obtain ⟨q1, e1, n1⟩ := ka.get hf
      have n1 := n1.mono' hle1
      have hfs := flsz_kid (k := k) (a := a) (v := v) (ps := ps) hf
      have hfw := flwt_kid (k := k) (a := a) (v := v) (ps := ps) hf
      have t1 : HSl h1 (.slice B ks.length d) 5 rowa := sa.mono hle1
      have l1 : q1.length = 5 := t1.rowed q1 (List.mem_of_getElem? e1)
      have hcall := ih f (by omega) (by omega) q1 h1 n1
      obtain ⟨k9, a9, v9, A9, m9, q9, B9, p9, r9, rfl⟩ := n1.shp
      repeat' (first | (refine G.atIdx ?_; refine G.idxImm rfl rfl (tyy rfl) (tyy rfl) t1 Zj rfl (by omega) ?_; intro p1 r1 hx1 hp1; (rw [e1] at hx1); (obtain rfl := Option.some.inj hx1)) | (show G _ (.ops .seq _ (⟨some _, .call { callee := .value (.func 16), args := _, argTypes := _ }, _, _, _, none⟩ :: _) :: _) _ _ _; refine G.call callTwin10 rfl rfl hcall Ze ?_; rintro _ h4 H4 ⟨⟨c4, hc4, rfl⟩, rfl⟩ hle4; have hk4 := hc4; obtain ⟨k8, a8, v8, A8, m8, q8, B8, p8, r8, rfl⟩ := hc4.shp) | (refine G.atApp ?_; refine G.append1 rfl rfl (tyy rfl) (tyy rfl) rfl rfl Za Za rfl rfl rfl Zo ?_; intro _; refine G.rowForm Take.hd ?_; rintro _ _ rfl) | (refine G.atCode ?_; first | refine G.seq ?_ | refine G.region ?_ | refine G.block ?_ | refine G.skip ?_ | refine G.anyIn mixedOk ?_ | (refine G.cond rfl ?_ ?_ <;> intro hc <;> (try simp only [tests, reduceCtorEq] at hc) <;> (try exact Zf))) | refine G.endOps ?_ | refine G.endHeld ?_ | refine G.back ?_ | refine G.endBlk ?_ | (refine G.atAny ?_; first | refine G.anyAutoX slB rfl rfl Zw Zg Zd ?_ | refine G.anyOne rfl Zw Zg Zu ?_ | refine G.anyEndX Zw ?_) | (refine G.atBin ?_; first | (refine G.atAdd ?_; first | refine G.arith rfl rfl rfl rfl rfl Zi ?_) | refine G.op rfl rfl ?_) | refine G.op rfl rfl ?_ | (refine G.atLoad ?_; first | refine G.loadOwn1 rfl (tyy rfl) rfl rfl Za rfl rfl ?_ | refine G.loadImmA rfl (tyy rfl) rfl rfl Zp Zp rfl ?_) | (refine G.atFld ?_; first | refine G.fieldAddr rfl (tyy rfl) rfl rfl ?_) | (refine G.atSto ?_; refine G.storeOwn rfl rfl (tyy rfl) Za rfl rfl rfl rfl ?_) | (refine G.atBsl ?_; refine G.buildSlice (tyy rfl) (tyy rfl) rfl rfl rfl rfl ?_; intro _))
      all_goals first | (exfalso; omega) | skip
      rename_i A' c'
      refine G.again ⟨i + 1, rws ++ [[.int .i64 k8, str a8, str v8, .slice A8 m8 q8, .slice B8 p8 r8]], A', c'⟩ ⟨sint (by simp), rfl, rfl, rfl, rfl, trivial⟩ Zu ⟨by simp only; omega, by simp [hil], ?_⟩ (by solve | repeat first | assumption | exact Zr _ | refine Zq ?_ Zp) (by simp only; omega)
      simp only
      rw [List.take_succ_eq_append_getElem hlt, (List.getElem?_eq_some_iff.1 hf).2]
      exact (hik.mono' (by solve | repeat first | assumption | exact Zr _ | refine Zq ?_ Zp)).append (FlsC.one hk4)
    . obtain rfl : i = ks.length := by omega
      rw [List.take_of_length_le (Nat.le_refl _)] at hik
      repeat' (first | (refine G.atCode ?_; first | refine G.seq ?_ | refine G.region ?_ | refine G.exit rfl ?_ | refine G.ret ?_ | (refine G.cond rfl ?_ ?_ <;> intro hc <;> (try simp only [tests, reduceCtorEq] at hc) <;> (try exact Zf))) | refine G.endOps ?_ | (refine G.atBin ?_; first | refine G.op rfl rfl ?_) | (refine G.atLoad ?_; first | refine G.loadOwnA rfl (tyy rfl) rfl rfl Za rfl rfl ?_) | (refine G.atSto ?_; refine G.storeOwn rfl rfl (tyy rfl) Za rfl rfl rfl rfl ?_))
      all_goals first | (exfalso; omega) | skip
      refine G.freezeRow (v := .slice A1 rws.length c1) Za ?_
      intro h9 hle9 hs9
      refine G.freezeRow (v := .slice AP ([] ++ pcsR ps).length cP) Za ?_
      intro h8 hle8 hs8
      exact G.done (rs := [.cell 2 25]) rfl (.cellA rfl (tyy rfl) rfl rfl Za rfl .nil) rfl [] (SubH.nil _) ⟨⟨_, FlC.mk_ hs8 (hs9.mono hle8) (hik.mono' (Heap.le_trans hle9 hle8)), rfl⟩, rfl⟩
end Go.Proofs.YtcghcdnmpjhifaaDoor
