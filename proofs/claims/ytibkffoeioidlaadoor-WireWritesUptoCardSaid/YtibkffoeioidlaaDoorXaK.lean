/- castellanref11.Filter: a filter's element. -/
import Derived.Test.YtibkffoeioidlaaDoorXaI
import Derived.Test.YtibkffoeioidlaaDoorFlK
namespace Go.Proofs.YtibkffoeioidlaaDoor
set_option linter.all false
set_option maxRecDepth 4000
open Go.RowKit

theorem callFilter11 : Callable Tryd.prog 81 := ⟨_, Tryd.func81, by kernel_rfl, rfl⟩
def F11R (o : Option Nat) (nd : Nd) (u : Value) (h' : Heap) : Prop := ∃ (t : Int) (d : Bs) (A : Option Addr) (m c n' : Nat) (b : Bool),
  u = .tuple #[.agg #[.int .i64 t, str d, .slice A m c], .int .i64 n', .bool b] /\ ((b = true /\ o = some n' /\ NodeC h' nd [.int .i64 t, str d, .slice A m c]) \/ (b = false /\ o = none))
theorem F11R.no {o : Option Nat} {nd : Nd} {h' : Heap} {n' : Nat} (ho : o = none) {t : Int} {d : Bs} {A : Option Addr} {m c : Nat} : F11R o nd (.tuple #[.agg #[.int .i64 t, str d, .slice A m c], .int .i64 n', .bool false]) h' :=
  ⟨t, d, A, m, c, n', false, rfl, .inr ⟨rfl, ho⟩⟩
theorem F11R.ok {o : Option Nat} {nd : Nd} {h' : Heap} {t : Int} {d : Bs} {A : Option Addr} {m c n' : Nat} (ho : o = some n') (hn : NodeC h' nd [.int .i64 t, str d, .slice A m c]) : F11R o nd (.tuple #[.agg #[.int .i64 t, str d, .slice A m c], .int .i64 n', .bool true]) h' :=
  ⟨t, d, A, m, c, n', true, rfl, .inl ⟨rfl, ho, hn⟩⟩
theorem F11R.ofB {o : Option Nat} {nd nd' : Nd} {h' : Heap} {t : Int} {d : Bs} {A : Option Addr} {m c n' : Nat} (P : Bool) (ho : o = if P = true then some n' else none) (hn : NodeC h' nd' [.int .i64 t, str d, .slice A m c]) (he : P = true -> nd' = nd) : F11R o nd (.tuple #[.agg #[.int .i64 t, str d, .slice A m c], .int .i64 n', .bool P]) h' := by
  cases P with
  | true => obtain rfl := he rfl; exact F11R.ok (by rw [ho, if_pos rfl]) hn
  | false => exact F11R.no (by rw [ho, if_neg Bool.false_ne_true])
def pcsW11 (ps : Pcs) : List Nd := ps.map fun p => lfN (IntKind.i64.wrap (128 + p.1)) p.2
def pcsW11C (ps : Pcs) : List (List Value) := ps.map fun p => lfC (IntKind.i64.wrap (128 + p.1)) p.2
theorem pcsW11C_len (ps : Pcs) : (pcsW11C ps).length = ps.length := by simp [pcsW11C]
theorem pcsW11_C (h : Heap) : ∀ ps : Pcs, KidsC h (pcsW11 ps) (pcsW11C ps)
  | [] => by simp [pcsW11, pcsW11C, KidsC]
  | p :: ps => by
    have ih := pcsW11_C h ps
    unfold pcsW11 pcsW11C at *
    simp only [List.map_cons, KidsC]
    exact ⟨_, _, rfl, lf_C h _ _, ih⟩
theorem pcsW11_ok {ps : Pcs} (h : pcsOk ps = true) : pcsW11 ps = pcsN ps := by
  have hk : ∀ p ∈ ps, 0 <= p.1 /\ p.1 <= 2 := by
    intro p hp
    unfold pcsOk at h
    rw [Bool.and_eq_true] at h
    exact pcs_kind _ _ h.2 p hp
  unfold pcsW11 pcsN
  refine List.map_congr_left fun p hp => ?_
  have := hk p hp
  rw [wrap_in (k := .i64) (n := 128 + p.1) Zi]
set_option maxRecDepth 8000 in
set_option maxHeartbeats 4000000 in
theorem ref11_Filter : ∀ (q : Nat) (f : Fl), f.sz <= q -> f.wt <= 50000000 -> ∀ (n : Nat), n <= 1000 -> ∀ (r : List Value) (h : Heap), FlC h f r →
    Spec Tryd.prog 81 [.agg r.toArray, .int .i64 n] h [] (fun u h' H' => F11R (askM n f) (flN f) u h' /\ H' = [])
  | 0, .mk _ _ _ _ _, hq, _, _, _, _, _, _ => by simp only [Fl.sz] at hq; omega
  | q + 1, f, hq, hw, n, hn, r, h, hf => by
    have ih := ref11_Filter q
    obtain ⟨k, a, v, ps, ks, A, c, B, d, rowa, rfl, rfl, sp, sa, ka, la⟩ := hf.box
    have lp := pcsR_length ps
    have hpl := pcW_len ps
    have hkl := flwt_len ks
    have hwt : 1 + a.length + v.length + pcW ps + flwt ks <= 50000000 := by simpa only [Fl.wt] using hw
    clear hf
    rw [askM, flN]
    by_cases h1 : 1000 < n + 1
    . rw [if_pos (.inl h1)]
      refine Spec.enter Tryd.func81 rfl rfl ?_; intro w0
      repeat' (first | (refine G.atCode ?_; first | refine G.seq ?_ | refine G.region ?_ | refine G.ret ?_ | (refine G.cond rfl ?_ ?_ <;> intro hc <;> (try simp only [tests, reduceCtorEq] at hc) <;> (try exact Zf))) | refine G.endOps ?_ | (refine G.atGd ?_; first | refine G.guardNoS rfl rfl rfl ?_ | refine G.guardU rfl rfl rfl ?_ | (refine G.guardS rfl rfl rfl ?_ ?_ <;> intro hc <;> (try simp only [tests, reduceCtorEq] at hc) <;> (try exact Zf))) | (refine G.atBin ?_; first | (refine G.atAdd ?_; first | refine G.arith rfl rfl rfl rfl rfl Zi ?_) | refine G.op rfl rfl ?_) | refine G.op rfl rfl ?_ | (refine G.atSto ?_; refine G.storeOwn rfl rfl (tyy rfl) Za rfl rfl rfl rfl ?_) | (refine G.atAlc ?_; refine G.alloc (tyy rfl) rfl rfl ?_; intro _) | (refine G.atBox ?_; refine G.box rfl rfl rfl ?_; intro _) | (refine G.atBld ?_; refine G.build (tyy rfl) rfl rfl rfl ?_))
      all_goals first | (exfalso; omega) | exact G.done (rs := [.cell 4 90, .tmp 5, .tmp 6]) rfl (.cellA rfl (tyy rfl) rfl rfl Za rfl (.tmp rfl (.tmp rfl .nil))) rfl [] (SubH.nil _) ⟨F11R.no (n' := n + 1) rfl, rfl⟩ | skip
    by_cases h8 : k < 0 \/ 8 < k
    . rw [if_pos (by rcases h8 with h8 | h8; exact .inr (.inl h8); exact .inr (.inr (.inl h8)))]
      refine Spec.enter Tryd.func81 rfl rfl ?_; intro w0
      repeat' (first | (refine G.atCode ?_; first | refine G.seq ?_ | refine G.region ?_ | refine G.ret ?_ | (refine G.cond rfl ?_ ?_ <;> intro hc <;> (try simp only [tests, reduceCtorEq] at hc) <;> (try exact Zf))) | refine G.endOps ?_ | (refine G.atGd ?_; first | refine G.guardYes rfl rfl ?_ | refine G.guardNoS rfl rfl rfl ?_ | refine G.guardU rfl rfl rfl ?_ | (refine G.guardS rfl rfl rfl ?_ ?_ <;> intro hc <;> (try simp only [tests, reduceCtorEq] at hc) <;> (try exact Zf))) | (refine G.atBin ?_; first | (refine G.atAdd ?_; first | refine G.arith rfl rfl rfl rfl rfl Zi ?_) | refine G.op rfl rfl ?_) | refine G.op rfl rfl ?_ | (refine G.atLoad ?_; first | refine G.loadOwn1 rfl (tyy rfl) rfl rfl Za rfl rfl ?_) | (refine G.atFld ?_; first | refine G.fieldAddr rfl (tyy rfl) rfl rfl ?_) | (refine G.atSto ?_; refine G.storeOwn rfl rfl (tyy rfl) Za rfl rfl rfl rfl ?_) | (refine G.atAlc ?_; refine G.alloc (tyy rfl) rfl rfl ?_; intro _) | (refine G.atBox ?_; refine G.box rfl rfl rfl ?_; intro _) | (refine G.atBld ?_; refine G.build (tyy rfl) rfl rfl rfl ?_))
      all_goals first | (exfalso; omega) | exact G.done (rs := [.cell 4 90, .tmp 5, .tmp 6]) rfl (.cellA rfl (tyy rfl) rfl rfl Za rfl (.tmp rfl (.tmp rfl .nil))) rfl [] (SubH.nil _) ⟨F11R.no (n' := n + 1) rfl, rfl⟩ | skip
    by_cases hc2 : k = 2 /\ ks.length ≠ 1
    . rw [if_pos (.inr (.inr (.inr (.inl hc2))))]
      refine Spec.enter Tryd.func81 rfl rfl ?_; intro w0
      repeat' (first | (refine G.atCode ?_; first | refine G.seq ?_ | refine G.region ?_ | refine G.ret ?_ | (refine G.cond rfl ?_ ?_ <;> intro hc <;> (try simp only [tests, reduceCtorEq] at hc) <;> (try exact Zf))) | refine G.endOps ?_ | (refine G.atGd ?_; first | refine G.guardYes rfl rfl ?_ | (refine G.guardS rfl rfl rfl ?_ ?_ <;> intro hc <;> (try simp only [tests, reduceCtorEq] at hc) <;> (try exact Zf))) | (refine G.atBin ?_; first | (refine G.atAdd ?_; first | refine G.arith rfl rfl rfl rfl rfl Zi ?_) | (refine G.atEql ?_; first | refine G.op rfl rfl ?_) | (refine G.atNeq ?_; first | refine G.op rfl rfl ?_) | refine G.op rfl rfl ?_) | refine G.op rfl rfl ?_ | (refine G.atLen ?_; first | refine G.lenSlice rfl (tyy rfl) rfl ?_) | (refine G.atLoad ?_; first | refine G.loadOwn1 rfl (tyy rfl) rfl rfl Za rfl rfl ?_) | (refine G.atFld ?_; first | refine G.fieldAddr rfl (tyy rfl) rfl rfl ?_) | (refine G.atSto ?_; refine G.storeOwn rfl rfl (tyy rfl) Za rfl rfl rfl rfl ?_) | (refine G.atAlc ?_; refine G.alloc (tyy rfl) rfl rfl ?_; intro _) | (refine G.atBox ?_; refine G.box rfl rfl rfl ?_; intro _) | (refine G.atBld ?_; refine G.build (tyy rfl) rfl rfl rfl ?_))
      all_goals first | (exfalso; omega) | exact G.done (rs := [.cell 4 90, .tmp 5, .tmp 6]) rfl (.cellA rfl (tyy rfl) rfl rfl Za rfl (.tmp rfl (.tmp rfl .nil))) rfl [] (SubH.nil _) ⟨F11R.no (n' := n + 1) rfl, rfl⟩ | skip
    by_cases h3 : k < 3
    . rw [if_neg (by rintro (q | q | q | q | ⟨q, _⟩) <;> first | omega | exact hc2 q), if_pos h3, if_neg (show ¬ k = 7 by omega), if_pos h3]
      refine Spec.enter Tryd.func81 rfl rfl ?_; intro w0
      repeat' (first | (refine G.atCode ?_; refine G.stopLoop ?_) | (refine G.atCode ?_; first | refine G.seq ?_ | refine G.region ?_ | refine G.block ?_ | refine G.skip ?_ | (refine G.cond rfl ?_ ?_ <;> intro hc <;> (try simp only [tests, reduceCtorEq] at hc) <;> (try exact Zf))) | refine G.endOps ?_ | (refine G.atGd ?_; first | refine G.guardYes rfl rfl ?_ | refine G.guardNoS rfl rfl rfl ?_ | (refine G.guardS rfl rfl rfl ?_ ?_ <;> intro hc <;> (try simp only [tests, reduceCtorEq] at hc) <;> (try exact Zf))) | (refine G.atBin ?_; first | (refine G.atAdd ?_; first | refine G.arith rfl rfl rfl rfl rfl Zi ?_) | (refine G.atEql ?_; first | refine G.op rfl rfl ?_) | (refine G.atNeq ?_; first | refine G.op rfl rfl ?_) | refine G.op rfl rfl ?_) | refine G.op rfl rfl ?_ | (refine G.atLen ?_; first | refine G.lenSlice rfl (tyy rfl) rfl ?_) | (refine G.atLoad ?_; first | refine G.loadOwn1 rfl (tyy rfl) rfl rfl Za rfl rfl ?_) | (refine G.atFld ?_; first | refine G.fieldAddr rfl (tyy rfl) rfl rfl ?_) | (refine G.atSto ?_; refine G.storeOwn rfl rfl (tyy rfl) Za rfl rfl rfl rfl ?_) | (refine G.atAlc ?_; refine G.alloc (tyy rfl) rfl rfl ?_; intro _) | (refine G.atBox ?_; refine G.box rfl rfl rfl ?_; intro _) | (refine G.atBld ?_; refine G.build (tyy rfl) rfl rfl rfl ?_))
      all_goals first | (exfalso; omega) | skip
      all_goals
        rename Nat => g7; revert g7; rename Nat => g4; revert g4; rename Nat => g2; intro g4 g7
        refine G.nilRow 90 3 ?_
        refine G.go ?_
        refine G.loop (σ := Nat × Nat × List (List Value) × Option Addr × Nat) (fun x => [(59, .int .i64 x.1), (58, .int .i64 ks.length), (1, .int .i64 x.2.1), (7, .pointer (some ⟨g7, 0, none⟩)), (4, .pointer (some ⟨g4, 0, none⟩)), (2, .pointer (some ⟨g2, 0, none⟩))])
          (fun x => [.blk g2 [.int .i64 k, str a, str v, .slice A ps.length c, .slice B ks.length d] 45, .blk g4 [.int .i64 0, str [], .slice none 0 0] 90, .blk g7 [.int .i64 (160 + k), str [], .slice x.2.2.2.1 x.2.2.1.length x.2.2.2.2] 90, .row (.slice x.2.2.2.1 x.2.2.1.length x.2.2.2.2) 90 3 x.2.2.1])
          (fun x h' => x.1 <= ks.length /\ x.2.2.1.length = x.1 /\ x.2.1 <= 1000 /\ asksM (n + 1) (ks.take x.1) = some x.2.1 /\ KidsC h' (flsN (ks.take x.1)) x.2.2.1) (fun x => ks.length - x.1) ⟨0, n + 1, [], none, 0⟩ ⟨rfl, rfl, rfl, rfl, rfl, rfl, trivial⟩ Zu ⟨Nat.zero_le _, rfl, by simp only; omega, by simp only [List.take_zero]; rw [asksM], by simp only [List.take_zero, flsN, KidsC]⟩ ?_
        rintro ⟨i, m, rws, A1, c1⟩ h5 hle5 ⟨hi, hil, hm, hrd, hik⟩
        simp only at hi hil hm hrd hik
        refine G.norm (by (try dsimp only) <;> exact rfl) (by (try dsimp only) <;> exact rfl) ?_
        by_cases hlt : i < ks.length
        . obtain ⟨x, hk⟩ : ∃ x, ks[i]? = some x := ⟨ks[i], List.getElem?_eq_getElem hlt⟩
          obtain ⟨q1, e1, n1⟩ := ka.get hk
          have n1 := n1.mono' hle5
          have hfs := flsz_kid (k := k) (a := a) (v := v) (ps := ps) hk
          have hfw := flwt_kid (k := k) (a := a) (v := v) (ps := ps) hk
          have t1 : HSl h5 (.slice B ks.length d) 5 rowa := sa.mono hle5
          have hcall := ih x (by omega) (by omega) m hm q1 h5 n1
          obtain ⟨k9, a9, v9, A9, m9, q9, B9, p9, r9, rfl⟩ := n1.shp
          have l1 : ([.int .i64 k9, str a9, str v9, .slice A9 m9 q9, .slice B9 p9 r9] : List Value).length = 5 := rfl
          repeat' (first | (refine G.atIdx ?_; refine G.idxImm rfl rfl (tyy rfl) (tyy rfl) t1 Zj rfl (by omega) ?_; intro p1 r1 hx1 hp1; (rw [e1] at hx1); (obtain rfl := Option.some.inj hx1)) | (show G _ (.ops .seq _ (⟨some _, .call { callee := .value (.func 81), args := _, argTypes := _ }, _, _, _, none⟩ :: _) :: _) _ _ _; refine G.call callFilter11 rfl rfl hcall Ze ?_; rintro _ h4 H4 ⟨⟨t9, d9, A8, m8, c8, n9, b9, rfl, ⟨rfl, ho9, hf9⟩ | ⟨rfl, ho9⟩⟩, rfl⟩ hle4) | (refine G.atApp ?_; refine G.append1 rfl rfl (tyy rfl) (tyy rfl) rfl rfl Za Za rfl rfl rfl Zo ?_; intro _; refine G.rowForm Take.hd ?_; rintro _ _ rfl) | (refine G.atCode ?_; first | refine G.seq ?_ | refine G.region ?_ | refine G.block ?_ | refine G.skip ?_ | refine G.ret ?_ | (refine G.cond rfl ?_ ?_ <;> intro hc <;> (try simp only [tests, reduceCtorEq] at hc) <;> (try exact Zf))) | refine G.endOps ?_ | refine G.endBlk ?_ | (refine G.atBin ?_; first | (refine G.atAdd ?_; first | refine G.arith rfl rfl rfl rfl rfl Zi ?_) | refine G.op rfl rfl ?_) | refine G.op rfl rfl ?_ | (refine G.atLoad ?_; first | refine G.loadOwn1 rfl (tyy rfl) rfl rfl Za rfl rfl ?_ | refine G.loadOwnA rfl (tyy rfl) rfl rfl Za rfl rfl ?_ | refine G.loadImmA rfl (tyy rfl) rfl rfl Zp Zp rfl ?_) | (refine G.atFld ?_; first | refine G.fieldAddr rfl (tyy rfl) rfl rfl ?_) | (refine G.atSto ?_; refine G.storeOwn rfl rfl (tyy rfl) Za rfl rfl rfl rfl ?_) | (refine G.atAlc ?_; refine G.alloc (tyy rfl) rfl rfl ?_; intro _) | (refine G.atBld ?_; refine G.build (tyy rfl) rfl rfl rfl ?_) | (refine G.atBsl ?_; refine G.buildSlice (tyy rfl) (tyy rfl) rfl rfl rfl rfl ?_; intro _))
          all_goals first | (exfalso; omega) | (exfalso; simp_all; done) | exact G.done (rs := [.cell 4 90, .tmp 5, .tmp 6]) rfl (.cellA rfl (tyy rfl) rfl rfl Za rfl (.tmp rfl (.tmp rfl .nil))) rfl [] (SubH.nil _) ⟨F11R.no (by rw [asks_stop hk hrd ho9]), rfl⟩ | skip
          rename_i A' c'
          refine G.again ⟨i + 1, n9, rws ++ [[.int .i64 t9, str d9, .slice A8 m8 c8]], A', c'⟩ ⟨sint (by simp), rfl, rfl, rfl, rfl, rfl, trivial⟩ Zu ⟨by simp only; omega, by simp [hil], by have := ask_le _ _ _ ho9; simpa using this, asks_step hk hrd ho9, ?_⟩ (by solve | repeat first | assumption | exact Zr _ | refine Zq ?_ Zp) (by simp only; omega)
          simp only
          rw [take_get hk, flsN_eq, List.map_append, ← flsN_eq]
          exact (hik.mono' (by solve | repeat first | assumption | exact Zr _ | refine Zq ?_ Zp)).append (KidsC.one (hf9.mono' (by solve | repeat first | assumption | exact Zr _ | refine Zq ?_ Zp)))
        . obtain rfl : i = ks.length := by omega
          rw [List.take_length] at hrd hik
          have hln := hik.len
          refine G.freezeRow (v := .slice A1 rws.length c1) Za ?_
          intro h9 hle9 hs9
          have hks : NodeC h9 (sqN (160 + k) (flsN ks)) [.int .i64 (160 + k), str [], .slice A1 rws.length c1] := NodeC.mk_ hs9 (hik.mono' hle9)
          repeat' (first | (refine G.atCode ?_; first | refine G.seq ?_ | refine G.region ?_ | refine G.exit rfl ?_ | refine G.ret ?_ | (refine G.cond rfl ?_ ?_ <;> intro hc <;> (try simp only [tests, reduceCtorEq] at hc) <;> (try exact Zf))) | refine G.endOps ?_ | (refine G.atBin ?_; first | refine G.op rfl rfl ?_) | refine G.op rfl rfl ?_ | (refine G.atLoad ?_; first | refine G.loadOwnA rfl (tyy rfl) rfl rfl Za rfl rfl ?_) | (refine G.atSto ?_; refine G.storeOwn rfl rfl (tyy rfl) Za rfl rfl rfl rfl ?_))
          all_goals first | (exfalso; omega) | skip
          all_goals exact G.done (rs := [.cell 4 90, .tmp 5, .tmp 6]) rfl (.cellA rfl (tyy rfl) rfl rfl Za rfl (.tmp rfl (.tmp rfl .nil))) rfl [] (SubH.nil _) ⟨F11R.ok hrd (hks.mono' (by solve | repeat first | assumption | exact Zr _ | refine Zq ?_ Zp)), rfl⟩
    rw [if_neg h3]
    by_cases h7 : k = 7
    . rw [if_pos h7, if_neg (by rintro (q | q | q | q | q) <;> omega)]
      refine Spec.enter Tryd.func81 rfl rfl ?_; intro w0
      repeat' (first | (refine G.atCode ?_; first | refine G.seq ?_ | refine G.region ?_ | refine G.skip ?_ | refine G.ret ?_ | (refine G.cond rfl ?_ ?_ <;> intro hc <;> (try simp only [tests, reduceCtorEq] at hc) <;> (try exact Zf))) | refine G.endOps ?_ | (refine G.atGd ?_; first | refine G.guardYes rfl rfl ?_ | refine G.guardNoS rfl rfl rfl ?_ | (refine G.guardS rfl rfl rfl ?_ ?_ <;> intro hc <;> (try simp only [tests, reduceCtorEq] at hc) <;> (try exact Zf))) | (refine G.atBin ?_; first | (refine G.atAdd ?_; first | refine G.arith rfl rfl rfl rfl rfl Zi ?_) | (refine G.atEql ?_; first | refine G.op rfl rfl ?_) | refine G.op rfl rfl ?_) | refine G.op rfl rfl ?_ | (refine G.atLoad ?_; first | refine G.loadOwn1 rfl (tyy rfl) rfl rfl Za rfl rfl ?_) | (refine G.atFld ?_; first | refine G.fieldAddr rfl (tyy rfl) rfl rfl ?_) | (refine G.atSto ?_; refine G.storeOwn rfl rfl (tyy rfl) Za rfl rfl rfl rfl ?_) | (refine G.atAlc ?_; refine G.alloc (tyy rfl) rfl rfl ?_; intro _) | (refine G.atBox ?_; refine G.box rfl rfl rfl ?_; intro _) | (refine G.atBld ?_; refine G.build (tyy rfl) rfl rfl rfl ?_))
      all_goals first | (exfalso; omega) | exact G.done (rs := [.cell 4 90, .tmp 5, .tmp 6]) rfl (.cellA rfl (tyy rfl) rfl rfl Za rfl (.tmp rfl (.tmp rfl .nil))) rfl [] (SubH.nil _) ⟨F11R.ok (n' := n + 1) rfl (lf_C _ 135 a), rfl⟩ | skip
    rw [if_neg h7, if_neg h3]
    by_cases h4 : k = 4
    . subst h4
      rw [if_pos rfl]
      have hres : (if 1000 < n + 1 \/ (4 : Int) < 0 \/ 8 < (4 : Int) \/ ((4 : Int) = 2 /\ ks.length ≠ 1) \/ ((4 : Int) = 4 /\ pcsOk ps = false) then none else some (n + 1)) = if pcsOk ps = true then some (n + 1) else none := by
        cases hp : pcsOk ps with
        | true => rw [if_neg (by rintro (q | q | q | q | ⟨_, q⟩) <;> first | omega | cases q), if_pos rfl]
        | false => rw [if_pos (.inr (.inr (.inr (.inr ⟨rfl, rfl⟩)))), if_neg Bool.false_ne_true]
      rw [hres]
      clear hres
      refine Spec.enter Tryd.func81 rfl rfl ?_; intro w0
      repeat' (first | (refine G.atCode ?_; refine G.stopLoop ?_) | (refine G.atCode ?_; first | refine G.seq ?_ | refine G.region ?_ | refine G.block ?_ | refine G.skip ?_ | (refine G.cond rfl ?_ ?_ <;> intro hc <;> (try simp only [tests, reduceCtorEq] at hc) <;> (try exact Zf))) | refine G.endOps ?_ | (refine G.atGd ?_; first | refine G.guardYes rfl rfl ?_ | refine G.guardNoS rfl rfl rfl ?_ | (refine G.guardS rfl rfl rfl ?_ ?_ <;> intro hc <;> (try simp only [tests, reduceCtorEq] at hc) <;> (try exact Zf))) | (refine G.atBin ?_; first | (refine G.atAdd ?_; first | refine G.arith rfl rfl rfl rfl rfl Zi ?_) | (refine G.atEql ?_; first | refine G.op rfl rfl ?_) | refine G.op rfl rfl ?_) | refine G.op rfl rfl ?_ | (refine G.atLen ?_; first | refine G.lenSlice rfl (tyy rfl) rfl ?_) | (refine G.atLoad ?_; first | refine G.loadOwn1 rfl (tyy rfl) rfl rfl Za rfl rfl ?_) | (refine G.atFld ?_; first | refine G.fieldAddr rfl (tyy rfl) rfl rfl ?_) | (refine G.atSto ?_; refine G.storeOwn rfl rfl (tyy rfl) Za rfl rfl rfl rfl ?_) | (refine G.atAlc ?_; refine G.alloc (tyy rfl) rfl rfl ?_; intro _) | (refine G.atBox ?_; refine G.box rfl rfl rfl ?_; intro _) | (refine G.atBld ?_; refine G.build (tyy rfl) rfl rfl rfl ?_))
      all_goals first | (exfalso; omega) | skip
      rename Nat => g7; revert g7; rename Nat => g4; revert g4; rename Nat => g2; intro g4 g7
      refine G.nilRow 90 3 ?_
      refine G.go ?_
      refine G.loop (σ := Nat × Option Addr × Nat) (fun x => [(93, .int .i64 x.1), (92, .int .i64 ps.length), (91, .slice A ps.length c), (12, .slice x.2.1 (pcsW11C (ps.take x.1)).length x.2.2), (1, .int .i64 ((n : Int) + 1)), (7, .pointer (some ⟨g7, 0, none⟩)), (4, .pointer (some ⟨g4, 0, none⟩)), (2, .pointer (some ⟨g2, 0, none⟩))])
        (fun x => [.blk g2 [.int .i64 4, str a, str v, .slice A ps.length c, .slice B ks.length d] 45, .blk g4 [.int .i64 0, str [], .slice none 0 0] 90, .blk g7 [.int .i64 164, str [], .slice none 0 0] 90, .row (.slice x.2.1 (pcsW11C (ps.take x.1)).length x.2.2) 90 3 (pcsW11C (ps.take x.1))])
        (fun x _ => x.1 <= ps.length) (fun x => ps.length - x.1) ⟨0, none, 0⟩ ⟨rfl, rfl, rfl, rfl, rfl, rfl, rfl, rfl, trivial⟩ Zu (Nat.zero_le _) ?_
      rintro ⟨i, A1, c1⟩ h5 hle5 hi
      simp only at hi
      refine G.norm (by (try dsimp only) <;> exact rfl) (by (try dsimp only) <;> exact rfl) ?_
      by_cases hlt : i < ps.length
      . obtain ⟨⟨pk, pt⟩, hp⟩ : ∃ p, ps[i]? = some p := ⟨ps[i], List.getElem?_eq_getElem hlt⟩
        have hpg := pcsR_get hp
        have hn1 : pcsW11C (ps.take (i + 1)) = pcsW11C (ps.take i) ++ [lfC (IntKind.i64.wrap (128 + pk)) pt] := by rw [take_get hp]; simp [pcsW11C]
        have hpl1 : (pcsW11C (ps.take i)).length = i := by rw [pcsW11C_len, List.length_take]; omega
        have l1 : ([.int .i64 pk, str pt] : List Value).length = 2 := rfl
        generalize pcsW11C (ps.take i) = P at *
        repeat' (first | (refine G.atIdx ?_; refine G.idxImm rfl rfl (tyy rfl) (tyy rfl) (sp.mono (by solve | repeat first | assumption | exact Zr _ | refine Zq ?_ Zp)) Zj rfl (by omega) ?_; intro p1 r1 hx1 hp1; (rw [hpg] at hx1); (obtain rfl := Option.some.inj hx1)) | (refine G.atApp ?_; refine G.append1 rfl rfl (tyy rfl) (tyy rfl) rfl rfl Za Za rfl rfl rfl Zo ?_; intro _; refine G.rowForm Take.hd ?_; rintro _ _ rfl) | (refine G.atCode ?_; first | refine G.seq ?_ | refine G.region ?_ | refine G.block ?_ | refine G.skip ?_ | (refine G.cond rfl ?_ ?_ <;> intro hc <;> (try simp only [tests, reduceCtorEq] at hc) <;> (try exact Zf))) | refine G.endOps ?_ | refine G.endBlk ?_ | (refine G.atBin ?_; first | (refine G.atAdd ?_; first | refine G.arith rfl rfl rfl rfl rfl Zi ?_ | refine G.op rfl rfl ?_) | refine G.op rfl rfl ?_) | refine G.op rfl rfl ?_ | (refine G.atLoad ?_; first | refine G.loadOwn1 rfl (tyy rfl) rfl rfl Za rfl rfl ?_ | refine G.loadImmA rfl (tyy rfl) rfl rfl Zp Zp rfl ?_) | (refine G.atFld ?_; first | refine G.fieldAddr rfl (tyy rfl) rfl rfl ?_) | (refine G.atSto ?_; refine G.storeOwn rfl rfl (tyy rfl) Za rfl rfl rfl rfl ?_) | (refine G.atAlc ?_; refine G.alloc (tyy rfl) rfl rfl ?_; intro _) | (refine G.atBld ?_; refine G.build (tyy rfl) rfl rfl rfl ?_) | (refine G.atBsl ?_; refine G.buildSlice (tyy rfl) (tyy rfl) rfl rfl rfl rfl ?_; intro _))
        all_goals first | (exfalso; omega) | skip
        rename_i A' c'
        refine G.again ⟨i + 1, A', c'⟩ ?_ ?_ (by simp only; omega) (by solve | repeat first | assumption | exact Zr _ | refine Zq ?_ Zp) (by simp only; omega)
        . simp only [hn1]
          exact ⟨sint (by simp), rfl, rfl, rfl, rfl, rfl, rfl, rfl, trivial⟩
        . simp only [hn1]
          exact Zu
      . obtain rfl : i = ps.length := by omega
        rw [List.take_length]
        refine G.freezeRow (v := .slice A1 (pcsW11C ps).length c1) Za ?_
        intro h9 hle9 hs9
        have hks : NodeC h9 (sqN 48 (pcsW11 ps)) [.int .i64 48, str [], .slice A1 (pcsW11C ps).length c1] := NodeC.mk_ hs9 (pcsW11_C _ ps)
        have hfc : ∀ h', Heap.le h5 h' -> FlC h' (.mk 4 [97] [] ps []) [.int .i64 4, str [97], str [], .slice A ps.length c, .slice none 0 0] := fun h' hl' => FlC.mk_ (sp.mono (Heap.le_trans hle5 hl')) (HSl.nil _ 5) (FlsC.nil _)
        repeat' (first | (refine G.atAny ?_; refine Hold.out ?_) | (refine G.atCode ?_; first | refine G.seq ?_ | refine G.region ?_ | refine G.anyIn mixedOk ?_ | refine G.exit rfl ?_ | (refine G.cond rfl ?_ ?_ <;> intro hc <;> (try simp only [tests, reduceCtorEq] at hc) <;> (try exact Zf))) | refine G.endOps ?_ | (refine G.atBin ?_; first | refine G.op rfl rfl ?_) | refine G.op rfl rfl ?_ | (refine G.atLoad ?_; first | refine G.loadOwn1 rfl (tyy rfl) rfl rfl Za rfl rfl ?_) | (refine G.atFld ?_; first | refine G.fieldAddr rfl (tyy rfl) rfl rfl ?_) | (refine G.atSto ?_; refine G.storeOwn rfl rfl (tyy rfl) Za rfl rfl rfl rfl ?_) | (refine G.atBld ?_; refine G.build (tyy rfl) rfl rfl rfl ?_) | (refine G.atBsl ?_; refine G.buildSlice (tyy rfl) (tyy rfl) rfl rfl rfl rfl ?_; intro _))
        all_goals first | (exfalso; omega) | skip
        rename_i w
        refine ⟨?_⟩
        refine G.freezeBlk (g := w) Za ?_
        intro h10 hle10 hc10
        have hs10 := HSl.ofBlk1 (rows := [lfC 4 a, [.int .i64 48, str [], .slice A1 (pcsW11C ps).length c1]]) (n := 2) hc10 (rowed3 rfl) rfl (by decide)
        clear hc10
        have hNd : NodeC h10 (sqN 164 [txtN a, sqN 48 (pcsW11 ps)]) [.int .i64 164, str [], .slice (some ⟨w, 0, none⟩) 2 2] := NodeC.mk_ hs10 (KidsC.of1 (lf_C _ 4 a) (KidsC.of1 (hks.mono' hle10) (KidsC.nil_ _)))
        repeat' (first | (refine G.atAny ?_; first | refine G.anyAutoX slB rfl rfl Zw (by solve | exact Heap.none_le _ | assumption | exact Zr _ | (repeat first | assumption | exact Zr _ | refine Zq ?_ Zp)) Zd ?_ | refine G.anyKeep slB rfl Zw (by solve | exact Heap.none_le _ | assumption | exact Zr _ | (repeat first | assumption | exact Zr _ | refine Zq ?_ Zp)) Zu ?_ | refine G.anyOne rfl Zw (by solve | exact Heap.none_le _ | assumption | exact Zr _ | (repeat first | assumption | exact Zr _ | refine Zq ?_ Zp)) Zu ?_ | refine G.anyEndX Zw ?_) | (show G _ (.ops .seq _ (⟨some _, .call { callee := .value (.func 104), args := _, argTypes := _ }, _, _, _, none⟩ :: _) :: _) _ _ _; refine G.call callRCheck rfl rfl (ref10_Check (.mk 4 [97] [] ps []) (by simp only [Fl.wt, flwt, List.length_cons, List.length_nil]; omega) _ _ (hfc _ (by solve | repeat first | assumption | exact Zr _ | refine Zq ?_ Zp))) Ze ?_; rintro _ h7 H7 ⟨rfl, rfl⟩ hle7) | (refine G.atCode ?_; first | refine G.ret ?_) | refine G.endOps ?_ | refine G.endHeld ?_ | refine G.back ?_ | (refine G.atBin ?_; first | (refine G.atEql ?_; first | refine G.op rfl rfl ?_)) | refine G.op rfl rfl ?_ | (refine G.atLoad ?_; first | refine G.loadOwn1 rfl (tyy rfl) rfl rfl Za rfl rfl ?_ | refine G.loadOwnA rfl (tyy rfl) rfl rfl Za rfl rfl ?_) | (refine G.atFld ?_; first | refine G.fieldAddr rfl (tyy rfl) rfl rfl ?_) | (refine G.atSto ?_; refine G.storeOwn rfl rfl (tyy rfl) Za rfl rfl rfl rfl ?_) | (refine G.atBld ?_; refine G.build (tyy rfl) rfl rfl rfl ?_))
        all_goals first | (exfalso; omega) | skip
        all_goals exact G.done (rs := [.cell 4 90, .tmp 5, .tmp 6]) rfl (.cellA rfl (tyy rfl) rfl rfl Za rfl (.tmp rfl (.tmp rfl .nil))) rfl [] (SubH.nil _) ⟨F11R.ofB (n' := n + 1) (decide (chkE (.mk 4 [97] [] ps []) = 0)) (by rw [chkE_pc]; cases pcsOk ps <;> rfl) (hNd.mono' (by solve | repeat first | assumption | exact Zr _ | refine Zq ?_ Zp)) (fun hP => by
          have hok : pcsOk ps = true := by
            rw [chkE_pc] at hP
            cases hq : pcsOk ps with
            | true => rfl
            | false => rw [hq] at hP; cases hP
          rw [<- pcsW11_ok hok]), rfl⟩
    . rw [if_neg h4, if_neg (by rintro (q | q | q | q | q) <;> omega)]
      refine Spec.enter Tryd.func81 rfl rfl ?_; intro w0
      repeat' (first | (show G _ (.ops .seq _ (⟨some _, .call { callee := .value (.func 79), args := _, argTypes := _ }, _, _, _, none⟩ :: _) :: _) _ _ _; refine G.call callTwo11 rfl rfl (ref11_two a v _) Ze ?_; rintro _ h2 H2 ⟨⟨twA, twc, rfl, rows, twr, twk⟩, rfl⟩ hle2) | (refine G.atCode ?_; first | refine G.seq ?_ | refine G.region ?_ | refine G.skip ?_ | refine G.ret ?_ | (refine G.cond rfl ?_ ?_ <;> intro hc <;> (try simp only [tests, reduceCtorEq] at hc) <;> (try exact Zf))) | refine G.endOps ?_ | (refine G.atGd ?_; first | refine G.guardYes rfl rfl ?_ | refine G.guardNoS rfl rfl rfl ?_ | (refine G.guardS rfl rfl rfl ?_ ?_ <;> intro hc <;> (try simp only [tests, reduceCtorEq] at hc) <;> (try exact Zf))) | (refine G.atBin ?_; first | (refine G.atAdd ?_; first | refine G.arith rfl rfl rfl rfl rfl Zi ?_) | (refine G.atEql ?_; first | refine G.op rfl rfl ?_) | refine G.op rfl rfl ?_) | refine G.op rfl rfl ?_ | (refine G.atLoad ?_; first | refine G.loadOwn1 rfl (tyy rfl) rfl rfl Za rfl rfl ?_ | refine G.loadOwnA rfl (tyy rfl) rfl rfl Za rfl rfl ?_) | (refine G.atFld ?_; first | refine G.fieldAddr rfl (tyy rfl) rfl rfl ?_) | (refine G.atSto ?_; refine G.storeOwn rfl rfl (tyy rfl) Za rfl rfl rfl rfl ?_) | (refine G.atAlc ?_; refine G.alloc (tyy rfl) rfl rfl ?_; intro _) | (refine G.atBox ?_; refine G.box rfl rfl rfl ?_; intro _) | (refine G.atBld ?_; refine G.build (tyy rfl) rfl rfl rfl ?_))
      all_goals first | (exfalso; omega) | skip
      all_goals exact G.done (rs := [.cell 4 90, .tmp 5, .tmp 6]) rfl (.cellA rfl (tyy rfl) rfl rfl Za rfl (.tmp rfl (.tmp rfl .nil))) rfl [] (SubH.nil _) ⟨F11R.ok (n' := n + 1) rfl (NodeC.mk_ (twr.mono (by solve | repeat first | assumption | exact Zr _ | refine Zq ?_ Zp)) (twk.mono' (by solve | repeat first | assumption | exact Zr _ | refine Zq ?_ Zp))), rfl⟩
end Go.Proofs.YtibkffoeioidlaaDoor
