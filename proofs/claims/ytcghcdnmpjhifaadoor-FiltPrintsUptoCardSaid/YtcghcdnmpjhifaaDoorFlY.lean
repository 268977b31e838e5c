/- Filters: how long texts are; castellanref10.size, text. -/
import Derived.Test.YtcghcdnmpjhifaaDoorFlX
import Derived.Test.YtcghcdnmpjhifaaDoorFlO
namespace Go.Proofs.YtcghcdnmpjhifaaDoor
set_option linter.all false
set_option maxRecDepth 4000
open Go.RowKit

theorem callSize : Callable Tryd.prog 24 := ⟨_, Tryd.func24, by kernel_rfl, rfl⟩
theorem callRText : Callable Tryd.prog 25 := ⟨_, Tryd.func25, by kernel_rfl, rfl⟩
def pcL : Pcs -> Nat
  | [] => 0
  | (_, t) :: ps => t.length + pcL ps
theorem pcL_pcTA : ∀ ps : Pcs, pcsOkF false ps = true -> pcL ps + 1 <= (pcTA ps).length
  | [], _ => by simp [pcL, pcTA]
  | (k, t) :: ps, h => by
    obtain ⟨h1, h2, h3⟩ := pcsOkF_cons h
    have hl := (escS_len t).1
    rcases h2 with rfl | ⟨_, h⟩ | ⟨rfl, rfl⟩
    . have ih := pcL_pcTA ps h3
      rw [pcTA, if_neg (by decide)]
      simp only [pcL, List.length_cons, List.length_append]; omega
    . cases h
    . rw [pcTA, if_pos rfl]
      simp only [pcL, List.length_cons]; omega
theorem pcL_pcT {ps : Pcs} (h : pcsOkF true ps = true) : pcL ps + 1 <= (pcT ps).length := by
  match ps, h with
  | [], _ => exact pcL_pcTA [] rfl
  | (k, t) :: r, h =>
    obtain ⟨h1, h2, h3⟩ := pcsOkF_cons h
    by_cases hk : k = 0
    . have hl := (escS_len t).1
      have ih := pcL_pcTA r h3
      rw [pcT, if_pos hk]
      simp only [pcL, List.length_append]; omega
    . rw [pcT, if_neg hk]
      exact pcL_pcTA _ (pcsOkF_mk h1 (by rcases h2 with h | ⟨h, _⟩ | h; exact .inl h; exact absurd h hk; exact .inr (.inr h)) h3)
theorem pcTA_len : ∀ ps : Pcs, (pcTA ps).length <= 1 + 4 * pcW ps
  | [] => by simp [pcTA]
  | (k, t) :: ps => by
    have ih := pcTA_len ps
    have hl := (escS_len t).2
    rw [pcTA]
    split <;> simp only [pcW, List.length_cons, List.length_append] <;> omega
theorem pcT_len (ps : Pcs) : (pcT ps).length <= 1 + 4 * pcW ps := by
  match ps with
  | [] => exact pcTA_len []
  | (k, t) :: ps =>
    by_cases hk : k = 0
    . have ih := pcTA_len ps
      have hl := (escS_len t).2
      rw [pcT, if_pos hk]
      simp only [pcW, List.length_append]; omega
    . rw [pcT, if_neg hk]; exact pcTA_len _
theorem sgT_len (k : Int) : 1 <= (sgT k).length /\ (sgT k).length <= 2 := by
  unfold sgT
  split
  . decide
  . split
    . decide
    . split <;> decide
theorem opT_len (k : Int) : (opT k).length = 1 := by unfold opT; split; rfl; split <;> rfl
theorem txF_mk {k : Int} {a v : List UInt8} {ps : Pcs} {ks : List Fl} : txF (.mk k a v ps ks) = 40 :: ((if k <= 2 then opT k ++ txFs ks else txB k a v ps) ++ [41]) := by rw [txF]
mutual
theorem txF_len8 : ∀ f : Fl, (txF f).length <= 8 * f.wt
  | .mk k a v ps ks => by
    have h1 := txFs_len8 ks
    have h2 := pcT_len ps
    have h3 := (escS_len v).2
    have h4 := (sgT_len k).2
    have h5 := opT_len k
    rw [txF_mk]
    by_cases hk : k <= 2
    . rw [if_pos hk]; simp only [Fl.wt, List.length_cons, List.length_append, List.length_nil]; omega
    . rw [if_neg hk]
      unfold txB
      by_cases h7 : k = 7
      . rw [if_pos h7]; simp only [Fl.wt, List.length_cons, List.length_append, List.length_nil]; omega
      . rw [if_neg h7]
        by_cases h4 : k = 4
        . rw [if_pos h4]; simp only [Fl.wt, List.length_cons, List.length_append, List.length_nil]; omega
        . rw [if_neg h4]; simp only [Fl.wt, List.length_cons, List.length_append, List.length_nil]; omega
theorem txFs_len8 : ∀ ks : List Fl, (txFs ks).length <= 8 * flwt ks
  | [] => by simp [txFs]
  | k :: ks => by
    have := txF_len8 k
    have := txFs_len8 ks
    simp only [txFs, flwt, List.length_append]; omega
end
theorem txFs_app : ∀ (a b : List Fl), txFs (a ++ b) = txFs a ++ txFs b
  | [], b => by simp [txFs]
  | k :: a, b => by simp [txFs, txFs_app a b]
theorem okF_kids {k : Int} {a v : List UInt8} {ps : Pcs} {ks : List Fl} (h : okF (.mk k a v ps ks)) (hk : k <= 2) : okFs ks := by simp only [okF] at h; exact (h.2.2.1 hk).2
theorem okF_pcs {k : Int} {a v : List UInt8} {ps : Pcs} {ks : List Fl} (h : okF (.mk k a v ps ks)) (hk : k = 4) : pcsOk ps = true := by simp only [okF] at h; exact (h.2.2.2 (by omega)).2 hk
theorem okF_rng {k : Int} {a v : List UInt8} {ps : Pcs} {ks : List Fl} (h : okF (.mk k a v ps ks)) : 0 <= k /\ k <= 8 := by simp only [okF] at h; exact ⟨h.1, h.2.1⟩
theorem okFs_get : ∀ {ks : List Fl} {i : Nat} {f : Fl}, okFs ks -> ks[i]? = some f -> okF f
  | [], i, f, _, h => by simp at h
  | k :: ks, 0, f, hk, h => by simp at h; subst h; simp only [okFs] at hk; exact hk.1
  | k :: ks, i + 1, f, hk, h => by simp only [okFs] at hk; exact okFs_get hk.2 (by simpa using h)
theorem pcsOk_F {ps : Pcs} (h : pcsOk ps = true) : pcsOkF true ps = true /\ ps ≠ [] := by
  unfold pcsOk at h
  simp only [Bool.and_eq_true, decide_eq_true_eq] at h
  exact ⟨h.2, h.1⟩
theorem txF_low {k : Int} {a v : List UInt8} {ps : Pcs} {ks : List Fl} (h : okF (.mk k a v ps ks)) :
    (k <= 2 -> 3 + (txFs ks).length <= (txF (.mk k a v ps ks)).length) /\ (2 < k -> 3 + a.length + (if k = 4 then pcL ps else 0) + (if k = 4 \/ k = 7 then 0 else v.length) <= (txF (.mk k a v ps ks)).length) := by
  have h3 := (escS_len v).1
  have h4 := (sgT_len k).1
  have h5 := opT_len k
  rw [txF_mk]
  refine ⟨fun hk => ?_, fun hk => ?_⟩
  . rw [if_pos hk]; simp only [List.length_cons, List.length_append, List.length_nil]; omega
  . rw [show (if k <= 2 then opT k ++ txFs ks else txB k a v ps) = txB k a v ps from if_neg (by omega)]
    by_cases h7 : k = 7
    . rw [if_neg (show ¬ k = 4 by omega), if_pos (show k = 4 \/ k = 7 from .inr h7), show txB k a v ps = a ++ [61, 42] by unfold txB; rw [if_pos h7]]
      simp only [List.length_cons, List.length_append, List.length_nil]; omega
    . by_cases h4 : k = 4
      . have hp := pcL_pcT (pcsOk_F (okF_pcs h h4)).1
        rw [if_pos h4, if_pos (show k = 4 \/ k = 7 from .inl h4), show txB k a v ps = a ++ 61 :: pcT ps by unfold txB; rw [if_neg h7, if_pos h4]]
        simp only [List.length_cons, List.length_append, List.length_nil]; omega
      . rw [if_neg h4, if_neg (show ¬ (k = 4 \/ k = 7) by omega), show txB k a v ps = a ++ (sgT k ++ escS v) by unfold txB; rw [if_neg h7, if_neg h4]]
        simp only [List.length_cons, List.length_append, List.length_nil]; omega
theorem flwt_takeY : ∀ (ks : List Fl) (i : Nat), flwt (ks.take i) <= flwt ks
  | [], i => by simp [flwt]
  | k :: ks, 0 => by simp [flwt]
  | k :: ks, i + 1 => by have := flwt_takeY ks i; simp only [List.take_succ_cons, flwt]; omega
theorem pcL_drop {ps : Pcs} {i : Nat} {k : Int} {t : List UInt8} (h : ps[i]? = some (k, t)) : pcL (ps.drop i) = t.length + pcL (ps.drop (i + 1)) := by
  obtain ⟨hlt, he⟩ := List.getElem?_eq_some_iff.1 h
  rw [List.drop_eq_getElem_cons hlt, he, pcL]
theorem txFs_drop {ks : List Fl} {i : Nat} {f : Fl} (h : ks[i]? = some f) : (txFs (ks.drop i)).length = (txF f).length + (txFs (ks.drop (i + 1))).length := by
  obtain ⟨hlt, he⟩ := List.getElem?_eq_some_iff.1 h
  rw [List.drop_eq_getElem_cons hlt, he, txFs, List.length_append]
set_option maxRecDepth 8000 in
set_option maxHeartbeats 2000000 in
theorem ref10_size : ∀ (n : Nat) (a : Fl), a.sz <= n -> a.wt <= 100000000 -> okF a -> ∀ (r : List Value) (h : Heap), FlC h a r →
    Spec Tryd.prog 24 [.agg r.toArray] h [] (fun u _ H' => (∃ m : Nat, u = .int .i64 m /\ m <= (txF a).length) /\ H' = [])
  | 0, .mk _ _ _ _ _, hn, _, _, _, _, _ => by simp only [Fl.sz] at hn; omega
  | n + 1, a, hn, hw, hok, r, h, ha => by
    have ih := ref10_size n
    obtain ⟨k, a, v, ps, ks, A, c, B, d, rowa, rfl, rfl, sp, sa, ka, la⟩ := ha.box
    have lp := pcsR_length ps
    have hpl := pcW_len ps
    have hkl := flwt_len ks
    have hwt : 1 + a.length + v.length + pcW ps + flwt ks <= 100000000 := by simpa only [Fl.wt] using hw
    have hT8 := txF_len8 (.mk k a v ps ks)
    obtain ⟨hlow1, hlow2⟩ := txF_low hok
    generalize hTT : (txF (.mk k a v ps ks)).length = T at *
    clear ha
    by_cases hk : k <= 2
    . have hok := okF_kids hok hk
      have hlow := hlow1 hk
      clear hlow1 hlow2
      refine Spec.enter Tryd.func24 rfl rfl ?_; intro w0
      repeat' (first | (refine G.atCode ?_; refine G.stopLoop ?_) | (refine G.atCode ?_; first | refine G.seq ?_ | refine G.region ?_ | refine G.block ?_ | refine G.skip ?_ | (refine G.cond rfl ?_ ?_ <;> intro hc <;> (try simp only [tests, reduceCtorEq] at hc) <;> (try exact Zf))) | refine G.endOps ?_ | (refine G.atBin ?_; first | refine G.op rfl rfl ?_) | refine G.op rfl rfl ?_ | (refine G.atLen ?_; first | refine G.lenSlice rfl (tyy rfl) rfl ?_) | (refine G.atLoad ?_; first | refine G.loadOwn1 rfl (tyy rfl) rfl rfl Za rfl rfl ?_) | (refine G.atFld ?_; first | refine G.fieldAddr rfl (tyy rfl) rfl rfl ?_) | (refine G.atBox ?_; refine G.box rfl rfl rfl ?_; intro _))
      all_goals first | (exfalso; omega) | skip
      rename_i gb
      refine G.go ?_
      refine G.loop (σ := Nat × Nat) (fun x => [(52, .int .i64 x.1), (51, .int .i64 ks.length), (3, .int .i64 x.2), (1, .pointer (some ⟨gb, 0, none⟩))])
        (fun _ => [.blk gb [.int .i64 k, str a, str v, .slice A ps.length c, .slice B ks.length d] 25]) (fun x _ => x.1 <= ks.length /\ x.2 + (txFs (ks.drop x.1)).length <= T) (fun x => ks.length - x.1) ⟨0, 3⟩ ⟨rfl, rfl, rfl, rfl, trivial⟩ Zu ⟨Nat.zero_le _, by simpa using hlow⟩ ?_
      rintro ⟨i, m⟩ h1 hle1 ⟨hi, hm⟩
      simp only at hi hm
      refine G.norm (by (try dsimp only) <;> exact rfl) (by (try dsimp only) <;> exact rfl) ?_
      by_cases hlt : i < ks.length
      . obtain ⟨f, hf⟩ : ∃ f, ks[i]? = some f := ⟨ks[i], List.getElem?_eq_getElem hlt⟩
        obtain ⟨q1, e1, n1⟩ := ka.get hf
        have n1 := n1.mono' hle1
        have hfs := flsz_kid (k := k) (a := a) (v := v) (ps := ps) hf
        have hfw := flwt_kid (k := k) (a := a) (v := v) (ps := ps) hf
        rw [txFs_drop hf] at hm
        have t1 : HSl h1 (.slice B ks.length d) 5 rowa := sa.mono hle1
        have l1 : q1.length = 5 := t1.rowed q1 (List.mem_of_getElem? e1)
        have hcall := ih f (by omega) (by omega) (okFs_get hok hf) q1 h1 n1
        obtain ⟨k9, a9, v9, A9, m9, q9, B9, p9, r9, rfl⟩ := n1.shp
        repeat' (first | (refine G.atIdx ?_; refine G.idxImm rfl rfl (tyy rfl) (tyy rfl) t1 Zj rfl (by omega) ?_; intro p1 r1 hx1 hp1; (rw [e1] at hx1); (obtain rfl := Option.some.inj hx1)) | (show G _ (.ops .seq _ (⟨some _, .call { callee := .value (.func 24), args := _, argTypes := _ }, _, _, _, none⟩ :: _) :: _) _ _ _; refine G.call callSize rfl rfl hcall Ze ?_; rintro _ h4 H4 ⟨⟨m4, rfl, hm4⟩, rfl⟩ hle4) | (refine G.atCode ?_; first | refine G.seq ?_ | refine G.region ?_ | refine G.block ?_ | refine G.skip ?_ | (refine G.cond rfl ?_ ?_ <;> intro hc <;> (try simp only [tests, reduceCtorEq] at hc) <;> (try exact Zf))) | refine G.endOps ?_ | refine G.endBlk ?_ | (refine G.atGd ?_; first | refine G.guardYes rfl rfl ?_ | (refine G.guardS rfl rfl rfl ?_ ?_ <;> intro hc <;> (try simp only [tests, reduceCtorEq] at hc) <;> (try exact Zf))) | (refine G.atBin ?_; first | (refine G.atAdd ?_; first | refine G.arith rfl rfl rfl rfl rfl Zi ?_) | refine G.op rfl rfl ?_) | refine G.op rfl rfl ?_ | (refine G.atLoad ?_; first | refine G.loadOwn1 rfl (tyy rfl) rfl rfl Za rfl rfl ?_ | refine G.loadImmA rfl (tyy rfl) rfl rfl Zp Zp rfl ?_) | (refine G.atFld ?_; first | refine G.fieldAddr rfl (tyy rfl) rfl rfl ?_))
        all_goals first
          | (exfalso; omega)
          | exact G.again ⟨i + 1, m + m4⟩ ⟨sint (by simp), rfl, sint (by simp), rfl, trivial⟩ Zu ⟨by simp only; omega, by simp only; omega⟩ (by solve | repeat first | assumption | exact Zr _ | refine Zq ?_ Zp) (by simp only; omega)
          | exact G.again ⟨i + 1, m⟩ ⟨sint (by simp), rfl, rfl, rfl, trivial⟩ Zu ⟨by simp only; omega, by simp only; omega⟩ (by solve | repeat first | assumption | exact Zr _ | refine Zq ?_ Zp) (by simp only; omega)
          | skip
      . obtain rfl : i = ks.length := by omega
        rw [List.drop_eq_nil_of_le (Nat.le_refl _)] at hm
        repeat' (first | (refine G.atCode ?_; first | refine G.seq ?_ | refine G.region ?_ | refine G.exit rfl ?_ | refine G.ret ?_ | (refine G.cond rfl ?_ ?_ <;> intro hc <;> (try simp only [tests, reduceCtorEq] at hc) <;> (try exact Zf))) | refine G.endOps ?_ | (refine G.atBin ?_; first | refine G.op rfl rfl ?_) | refine G.op rfl rfl ?_)
        all_goals first | (exfalso; omega) | exact G.done1 rfl rfl [] (SubH.nil _) ⟨⟨m, rfl, by simpa [txFs] using hm⟩, rfl⟩ | skip
    . have hlow := hlow2 (by omega)
      clear hlow1 hlow2
      by_cases h4 : k = 4
      . rw [if_pos h4] at hlow
        have hlow0 : 3 + a.length + pcL (ps.drop 0) <= T := by rw [List.drop_zero]; omega
        refine Spec.enter Tryd.func24 rfl rfl ?_; intro w0
        repeat' (first | (refine G.atCode ?_; refine G.stopLoop ?_) | (refine G.atCode ?_; first | refine G.seq ?_ | refine G.region ?_ | refine G.block ?_ | refine G.skip ?_ | (refine G.cond rfl ?_ ?_ <;> intro hc <;> (try simp only [tests, reduceCtorEq] at hc) <;> (try exact Zf))) | refine G.endOps ?_ | (refine G.atGd ?_; first | refine G.guardNoS rfl rfl rfl ?_ | (refine G.guardS rfl rfl rfl ?_ ?_ <;> intro hc <;> (try simp only [tests, reduceCtorEq] at hc) <;> (try exact Zf))) | (refine G.atBin ?_; first | (refine G.atAdd ?_; first | refine G.arith rfl rfl rfl rfl rfl Zi ?_) | (refine G.atNeq ?_; first | refine G.op rfl rfl ?_) | refine G.op rfl rfl ?_) | refine G.op rfl rfl ?_ | (refine G.atLen ?_; first | refine G.lenStr rfl (tyy rfl) rfl ?_ | refine G.lenSlice rfl (tyy rfl) rfl ?_) | (refine G.atLoad ?_; first | refine G.loadOwn1 rfl (tyy rfl) rfl rfl Za rfl rfl ?_) | (refine G.atFld ?_; first | refine G.fieldAddr rfl (tyy rfl) rfl rfl ?_) | (refine G.atBox ?_; refine G.box rfl rfl rfl ?_; intro _))
        all_goals first | (exfalso; omega) | skip
        rename_i gb _ _
        refine G.go ?_
        refine G.loop (σ := Nat × Nat) (fun x => [(31, .int .i64 x.1), (30, .int .i64 ps.length), (29, .slice A ps.length c), (3, .int .i64 x.2), (1, .pointer (some ⟨gb, 0, none⟩))])
          (fun _ => [.blk gb [.int .i64 k, str a, str v, .slice A ps.length c, .slice B ks.length d] 25]) (fun x _ => x.1 <= ps.length /\ x.2 + pcL (ps.drop x.1) <= T) (fun x => ps.length - x.1) ⟨0, 3 + a.length⟩ ⟨rfl, sint (by simp), rfl, sint (by simp), rfl, trivial⟩ Zu ⟨Nat.zero_le _, hlow0⟩ ?_
        rintro ⟨i, m⟩ h1 hle1 ⟨hi, hm⟩
        simp only at hi hm
        have s1 : HSl h1 (.slice A ps.length c) 2 (pcsR ps) := sp.mono hle1
        refine G.norm (by (try dsimp only) <;> exact rfl) (by (try dsimp only) <;> exact rfl) ?_
        by_cases hlt : i < ps.length
        . obtain ⟨⟨pk, pt⟩, hp⟩ : ∃ p, ps[i]? = some p := ⟨ps[i], List.getElem?_eq_getElem hlt⟩
          have hget := pcsR_get hp
          have hl3 : ([.int .i64 pk, str pt] : List Value).length = 2 := rfl
          rw [pcL_drop hp] at hm
          repeat' (first | (refine G.minI rfl rfl rfl ?_) | (refine G.atIdx ?_; refine G.idxImm rfl rfl (tyy rfl) (tyy rfl) s1 Zj rfl (by omega) ?_; intro p1 r1 hx1 hp1; (rw [hget] at hx1); (obtain rfl := Option.some.inj hx1)) | (refine G.atCode ?_; first | refine G.seq ?_ | refine G.region ?_ | refine G.block ?_ | refine G.skip ?_ | (refine G.cond rfl ?_ ?_ <;> intro hc <;> (try simp only [tests, reduceCtorEq] at hc) <;> (try exact Zf))) | refine G.endOps ?_ | refine G.endBlk ?_ | (refine G.atGd ?_; first | refine G.guardYes rfl rfl ?_ | (refine G.guardS rfl rfl rfl ?_ ?_ <;> intro hc <;> (try simp only [tests, reduceCtorEq] at hc) <;> (try exact Zf))) | (refine G.atBin ?_; first | (refine G.atAdd ?_; first | refine G.arith rfl rfl rfl rfl rfl Zi ?_) | (refine G.atEql ?_; first | refine G.op rfl rfl ?_) | refine G.op rfl rfl ?_) | refine G.op rfl rfl ?_ | (refine G.atLen ?_; first | refine G.lenStr rfl (tyy rfl) rfl ?_) | (refine G.atLoad ?_; first | refine G.loadOwn1 rfl (tyy rfl) rfl rfl Za rfl rfl ?_ | refine G.loadImmA rfl (tyy rfl) rfl rfl Zp Zp rfl ?_) | (refine G.atFld ?_; first | refine G.fieldAddr rfl (tyy rfl) rfl rfl ?_) | (refine G.atSto ?_; refine G.storeOwn rfl rfl (tyy rfl) Za rfl rfl rfl rfl ?_) | (refine G.atAlc ?_; refine G.alloc (tyy rfl) rfl rfl ?_; intro _))
          all_goals first
            | (exfalso; omega)
            | exact G.again ⟨i + 1, m + min pt.length 10000⟩ ⟨sint (by simp), rfl, rfl, sint (by simp only; omega), rfl, trivial⟩ Zu ⟨by simp only; omega, by simp only; omega⟩ (by solve | repeat first | assumption | exact Zr _ | refine Zq ?_ Zp) (by simp only; omega)
            | exact G.again ⟨i + 1, m⟩ ⟨sint (by simp), rfl, rfl, rfl, rfl, trivial⟩ Zu ⟨by simp only; omega, by simp only; omega⟩ (by solve | repeat first | assumption | exact Zr _ | refine Zq ?_ Zp) (by simp only; omega)
            | skip
        obtain rfl : i = ps.length := by omega
        have hm : m <= T := by omega
        repeat' (first | (refine G.atCode ?_; refine G.stopLoop ?_) | (refine G.atCode ?_; first | refine G.seq ?_ | refine G.region ?_ | refine G.block ?_ | refine G.exit rfl ?_ | (refine G.cond rfl ?_ ?_ <;> intro hc <;> (try simp only [tests, reduceCtorEq] at hc) <;> (try exact Zf))) | refine G.endOps ?_ | (refine G.atBin ?_; first | refine G.op rfl rfl ?_) | refine G.op rfl rfl ?_ | (refine G.atLen ?_; first | refine G.lenSlice rfl (tyy rfl) rfl ?_) | (refine G.atLoad ?_; first | refine G.loadOwn1 rfl (tyy rfl) rfl rfl Za rfl rfl ?_) | (refine G.atFld ?_; first | refine G.fieldAddr rfl (tyy rfl) rfl rfl ?_))
        all_goals first | (exfalso; omega) | skip
        refine G.go ?_
        refine G.loop (σ := Nat) (fun i => [(52, .int .i64 i), (51, .int .i64 ks.length), (3, .int .i64 m), (1, .pointer (some ⟨gb, 0, none⟩))])
          (fun _ => [.blk gb [.int .i64 k, str a, str v, .slice A ps.length c, .slice B ks.length d] 25]) (fun i _ => i <= ks.length) (fun i => ks.length - i) 0 ⟨rfl, sint (by simp), rfl, rfl, trivial⟩ Zu (Nat.zero_le _) ?_
        rintro i h2 hle2 hi
        by_cases hlt : i < ks.length
        . repeat' (first | (refine G.atCode ?_; first | refine G.seq ?_ | refine G.region ?_ | refine G.block ?_ | refine G.skip ?_ | (refine G.cond rfl ?_ ?_ <;> intro hc <;> (try simp only [tests, reduceCtorEq] at hc) <;> (try exact Zf))) | refine G.endOps ?_ | refine G.endBlk ?_ | (refine G.atGd ?_; first | refine G.guardNoS rfl rfl rfl ?_ | (refine G.guardS rfl rfl rfl ?_ ?_ <;> intro hc <;> (try simp only [tests, reduceCtorEq] at hc) <;> (try exact Zf))) | (refine G.atBin ?_; first | (refine G.atAdd ?_; first | refine G.arith rfl rfl rfl rfl rfl Zi ?_) | refine G.op rfl rfl ?_) | refine G.op rfl rfl ?_ | (refine G.atLoad ?_; first | refine G.loadOwn1 rfl (tyy rfl) rfl rfl Za rfl rfl ?_) | (refine G.atFld ?_; first | refine G.fieldAddr rfl (tyy rfl) rfl rfl ?_))
          all_goals first | (exfalso; omega) | exact G.again (i + 1) ⟨sint (by simp), rfl, rfl, rfl, trivial⟩ Zu (by omega) (by solve | repeat first | assumption | exact Zr _ | refine Zq ?_ Zp) (by omega) | skip
        . obtain rfl : i = ks.length := by omega
          repeat' (first | (refine G.atCode ?_; first | refine G.seq ?_ | refine G.region ?_ | refine G.exit rfl ?_ | refine G.ret ?_ | (refine G.cond rfl ?_ ?_ <;> intro hc <;> (try simp only [tests, reduceCtorEq] at hc) <;> (try exact Zf))) | refine G.endOps ?_ | (refine G.atBin ?_; first | refine G.op rfl rfl ?_) | refine G.op rfl rfl ?_)
          all_goals first | (exfalso; omega) | exact G.done1 rfl rfl [] (SubH.nil _) ⟨⟨m, rfl, hm⟩, rfl⟩ | skip
      . rw [if_neg h4] at hlow
        refine Spec.enter Tryd.func24 rfl rfl ?_; intro w0
        repeat' (first | (refine G.minI rfl rfl rfl ?_) | (refine G.atCode ?_; refine G.stopLoop ?_) | (refine G.atCode ?_; first | refine G.seq ?_ | refine G.region ?_ | refine G.block ?_ | refine G.skip ?_ | (refine G.cond rfl ?_ ?_ <;> intro hc <;> (try simp only [tests, reduceCtorEq] at hc) <;> (try exact Zf))) | refine G.endOps ?_ | (refine G.atGd ?_; first | refine G.guardYes rfl rfl ?_ | (refine G.guardS rfl rfl rfl ?_ ?_ <;> intro hc <;> (try simp only [tests, reduceCtorEq] at hc) <;> (try exact Zf))) | (refine G.atBin ?_; first | (refine G.atAdd ?_; first | refine G.arith rfl rfl rfl rfl rfl Zi ?_) | (refine G.atNeq ?_; first | refine G.op rfl rfl ?_) | refine G.op rfl rfl ?_) | refine G.op rfl rfl ?_ | (refine G.atLen ?_; first | refine G.lenStr rfl (tyy rfl) rfl ?_ | refine G.lenSlice rfl (tyy rfl) rfl ?_) | (refine G.atLoad ?_; first | refine G.loadOwn1 rfl (tyy rfl) rfl rfl Za rfl rfl ?_) | (refine G.atFld ?_; first | refine G.fieldAddr rfl (tyy rfl) rfl rfl ?_) | (refine G.atBox ?_; refine G.box rfl rfl rfl ?_; intro _))
        all_goals first | (exfalso; omega) | skip
        all_goals
          rename_i gb _ _
          refine G.go ?_
          first
            | (refine G.loop (σ := Nat × Nat) (fun x => [(31, .int .i64 x.1), (30, .int .i64 ps.length), (29, .slice A ps.length c), (3, .int .i64 x.2), (1, .pointer (some ⟨gb, 0, none⟩))])
                (fun _ => [.blk gb [.int .i64 k, str a, str v, .slice A ps.length c, .slice B ks.length d] 25]) (fun x _ => x.1 <= ps.length /\ x.2 <= T) (fun x => ps.length - x.1) ⟨0, 3 + a.length⟩ ⟨rfl, sint (by simp), rfl, sint (by solve | (simp only; omega)), rfl, trivial⟩ Zu ⟨Nat.zero_le _, by simp only; omega⟩ ?_)
            | (refine G.loop (σ := Nat × Nat) (fun x => [(31, .int .i64 x.1), (30, .int .i64 ps.length), (29, .slice A ps.length c), (3, .int .i64 x.2), (1, .pointer (some ⟨gb, 0, none⟩))])
                (fun _ => [.blk gb [.int .i64 k, str a, str v, .slice A ps.length c, .slice B ks.length d] 25]) (fun x _ => x.1 <= ps.length /\ x.2 <= T) (fun x => ps.length - x.1) ⟨0, 3 + a.length + min v.length 10000⟩ ⟨rfl, sint (by simp), rfl, sint (by simp only; omega), rfl, trivial⟩ Zu ⟨Nat.zero_le _, by rw [if_neg (by omega)] at hlow; simp only; omega⟩ ?_)
          rintro ⟨i, m⟩ h1 hle1 ⟨hi, hm⟩
          simp only at hi hm
          have s1 : HSl h1 (.slice A ps.length c) 2 (pcsR ps) := sp.mono hle1
          refine G.norm (by (try dsimp only) <;> exact rfl) (by (try dsimp only) <;> exact rfl) ?_
          by_cases hlt : i < ps.length
          . obtain ⟨⟨pk, pt⟩, hp⟩ : ∃ p, ps[i]? = some p := ⟨ps[i], List.getElem?_eq_getElem hlt⟩
            have hget := pcsR_get hp
            have hl3 : ([.int .i64 pk, str pt] : List Value).length = 2 := rfl
            repeat' (first | (refine G.atIdx ?_; refine G.idxImm rfl rfl (tyy rfl) (tyy rfl) s1 Zj rfl (by omega) ?_; intro p1 r1 hx1 hp1; (rw [hget] at hx1); (obtain rfl := Option.some.inj hx1)) | (refine G.atCode ?_; first | refine G.seq ?_ | refine G.region ?_ | refine G.block ?_ | refine G.skip ?_ | (refine G.cond rfl ?_ ?_ <;> intro hc <;> (try simp only [tests, reduceCtorEq] at hc) <;> (try exact Zf))) | refine G.endOps ?_ | refine G.endBlk ?_ | (refine G.atGd ?_; first | refine G.guardNoS rfl rfl rfl ?_ | (refine G.guardS rfl rfl rfl ?_ ?_ <;> intro hc <;> (try simp only [tests, reduceCtorEq] at hc) <;> (try exact Zf))) | (refine G.atBin ?_; first | (refine G.atAdd ?_; first | refine G.arith rfl rfl rfl rfl rfl Zi ?_) | (refine G.atEql ?_; first | refine G.op rfl rfl ?_) | refine G.op rfl rfl ?_) | refine G.op rfl rfl ?_ | (refine G.atLoad ?_; first | refine G.loadOwn1 rfl (tyy rfl) rfl rfl Za rfl rfl ?_ | refine G.loadImmA rfl (tyy rfl) rfl rfl Zp Zp rfl ?_) | (refine G.atFld ?_; first | refine G.fieldAddr rfl (tyy rfl) rfl rfl ?_) | (refine G.atSto ?_; refine G.storeOwn rfl rfl (tyy rfl) Za rfl rfl rfl rfl ?_) | (refine G.atAlc ?_; refine G.alloc (tyy rfl) rfl rfl ?_; intro _))
            all_goals first
              | (exfalso; omega)
              | exact G.again ⟨i + 1, m⟩ ⟨sint (by simp), rfl, rfl, rfl, rfl, trivial⟩ Zu ⟨by simp only; omega, hm⟩ (by solve | repeat first | assumption | exact Zr _ | refine Zq ?_ Zp) (by simp only; omega)
              | skip
          obtain rfl : i = ps.length := by omega
          repeat' (first | (refine G.atCode ?_; refine G.stopLoop ?_) | (refine G.atCode ?_; first | refine G.seq ?_ | refine G.region ?_ | refine G.block ?_ | refine G.exit rfl ?_ | (refine G.cond rfl ?_ ?_ <;> intro hc <;> (try simp only [tests, reduceCtorEq] at hc) <;> (try exact Zf))) | refine G.endOps ?_ | (refine G.atBin ?_; first | refine G.op rfl rfl ?_) | refine G.op rfl rfl ?_ | (refine G.atLen ?_; first | refine G.lenSlice rfl (tyy rfl) rfl ?_) | (refine G.atLoad ?_; first | refine G.loadOwn1 rfl (tyy rfl) rfl rfl Za rfl rfl ?_) | (refine G.atFld ?_; first | refine G.fieldAddr rfl (tyy rfl) rfl rfl ?_))
          all_goals first | (exfalso; omega) | skip
          refine G.go ?_
          refine G.loop (σ := Nat) (fun i => [(52, .int .i64 i), (51, .int .i64 ks.length), (3, .int .i64 m), (1, .pointer (some ⟨gb, 0, none⟩))])
            (fun _ => [.blk gb [.int .i64 k, str a, str v, .slice A ps.length c, .slice B ks.length d] 25]) (fun i _ => i <= ks.length) (fun i => ks.length - i) 0 ⟨rfl, sint (by simp), rfl, rfl, trivial⟩ Zu (Nat.zero_le _) ?_
          rintro i h2 hle2 hi
          by_cases hlt : i < ks.length
          . repeat' (first | (refine G.atCode ?_; first | refine G.seq ?_ | refine G.region ?_ | refine G.block ?_ | refine G.skip ?_ | (refine G.cond rfl ?_ ?_ <;> intro hc <;> (try simp only [tests, reduceCtorEq] at hc) <;> (try exact Zf))) | refine G.endOps ?_ | refine G.endBlk ?_ | (refine G.atGd ?_; first | refine G.guardNoS rfl rfl rfl ?_ | (refine G.guardS rfl rfl rfl ?_ ?_ <;> intro hc <;> (try simp only [tests, reduceCtorEq] at hc) <;> (try exact Zf))) | (refine G.atBin ?_; first | (refine G.atAdd ?_; first | refine G.arith rfl rfl rfl rfl rfl Zi ?_) | refine G.op rfl rfl ?_) | refine G.op rfl rfl ?_ | (refine G.atLoad ?_; first | refine G.loadOwn1 rfl (tyy rfl) rfl rfl Za rfl rfl ?_) | (refine G.atFld ?_; first | refine G.fieldAddr rfl (tyy rfl) rfl rfl ?_))
            all_goals first | (exfalso; omega) | exact G.again (i + 1) ⟨sint (by simp), rfl, rfl, rfl, trivial⟩ Zu (by omega) (by solve | repeat first | assumption | exact Zr _ | refine Zq ?_ Zp) (by omega) | skip
          . obtain rfl : i = ks.length := by omega
            repeat' (first | (refine G.atCode ?_; first | refine G.seq ?_ | refine G.region ?_ | refine G.exit rfl ?_ | refine G.ret ?_ | (refine G.cond rfl ?_ ?_ <;> intro hc <;> (try simp only [tests, reduceCtorEq] at hc) <;> (try exact Zf))) | refine G.endOps ?_ | (refine G.atBin ?_; first | refine G.op rfl rfl ?_) | refine G.op rfl rfl ?_)
            all_goals first | (exfalso; omega) | exact G.done1 rfl rfl [] (SubH.nil _) ⟨⟨m, rfl, hm⟩, rfl⟩ | skip
theorem pcTA_cons1 {t : List UInt8} {r : Pcs} : pcTA ((1, t) :: r) = 42 :: (escS t ++ pcTA r) := by rw [pcTA, if_neg (by decide)]
theorem pcTA_cons2 {t : List UInt8} : pcTA [(2, t)] = 42 :: escS t := by rw [pcTA, if_pos rfl]
def pcRem (ps : Pcs) (i : Nat) : List UInt8 := if i = 0 then pcT ps else pcTA (ps.drop i)
theorem pcsOk_drop {ps : Pcs} (h : pcsOkF true ps = true) : ∀ i, pcsOkF (decide (i = 0)) (ps.drop i) = true
  | 0 => h
  | i + 1 => by
    have ih := pcsOk_drop h i
    by_cases hi : i < ps.length
    . rw [List.drop_eq_getElem_cons hi] at ih
      exact (pcsOkF_cons (k := ps[i].1) (t := ps[i].2) ih).2.2
    . rw [List.drop_eq_nil_of_le (by omega)]; rfl
theorem pcRem_at {ps : Pcs} (h : pcsOkF true ps = true) {i : Nat} {k : Int} {t : List UInt8} (hp : ps[i]? = some (k, t)) :
    t ≠ [] /\ ((k = 0 /\ i = 0 /\ pcRem ps i = escS t ++ pcRem ps (i + 1)) \/ (k = 1 /\ pcRem ps i = 42 :: (escS t ++ pcRem ps (i + 1))) \/ (k = 2 /\ i + 1 = ps.length /\ pcRem ps i = 42 :: escS t)) := by
  obtain ⟨hlt, he⟩ := List.getElem?_eq_some_iff.1 hp
  have hd := pcsOk_drop h i
  have hcons := List.drop_eq_getElem_cons hlt
  rw [he] at hcons
  rw [hcons] at hd
  obtain ⟨h1, h2, h3⟩ := pcsOkF_cons hd
  have hr1 : pcRem ps (i + 1) = pcTA (ps.drop (i + 1)) := by unfold pcRem; rw [if_neg (by omega)]
  refine ⟨h1, ?_⟩
  rw [hr1]
  unfold pcRem
  rcases h2 with rfl | ⟨rfl, h2⟩ | ⟨rfl, h2⟩
  . refine .inr (.inl ⟨rfl, ?_⟩)
    by_cases hi : i = 0
    . subst hi
      rw [if_pos rfl]
      rw [List.drop_zero] at hcons
      rw [hcons, pcT, if_neg (by decide), pcTA_cons1]; rfl
    . rw [if_neg hi, hcons, pcTA_cons1]
  . have hi : i = 0 := of_decide_eq_true h2
    subst hi
    refine .inl ⟨rfl, rfl, ?_⟩
    rw [List.drop_zero] at hcons
    rw [if_pos rfl, hcons, pcT, if_pos rfl]; rfl
  . refine .inr (.inr ⟨rfl, ?_, ?_⟩)
    . have := congrArg List.length h2
      rw [List.length_drop] at this
      simp at this; omega
    . by_cases hi : i = 0
      . subst hi
        rw [if_pos rfl]
        rw [List.drop_zero] at hcons
        rw [hcons, pcT, if_neg (by decide), h2, pcTA_cons2]
      . rw [if_neg hi, hcons, h2, pcTA_cons2]
theorem pcRem_end {ps : Pcs} (h : ps ≠ []) : pcRem ps ps.length = [42] := by
  unfold pcRem
  rw [if_neg (fun e => h (List.eq_nil_of_length_eq_zero e)), List.drop_length]; rfl
set_option maxRecDepth 8000 in
set_option maxHeartbeats 2000000 in
theorem ref10_text : ∀ (n : Nat) (a : Fl), a.sz <= n -> a.wt <= 100000000 -> okF a -> ∀ (r : List Value) (h : Heap), FlC h a r →
    Spec Tryd.prog 25 [.agg r.toArray] h [] (fun u _ H' => u = str (txF a) /\ H' = [])
  | 0, .mk _ _ _ _ _, hn, _, _, _, _, _ => by simp only [Fl.sz] at hn; omega
  | n + 1, a, hn, hw, hok, r, h, ha => by
    have ih := ref10_text n
    obtain ⟨k, a, v, ps, ks, A, c, B, d, rowa, rfl, rfl, sp, sa, ka, la⟩ := ha.box
    have lp := pcsR_length ps
    have hpl := pcW_len ps
    have hkl := flwt_len ks
    have hwt : 1 + a.length + v.length + pcW ps + flwt ks <= 100000000 := by simpa only [Fl.wt] using hw
    have hrng := okF_rng hok
    have hvl := (escS_len v).2
    clear ha
    by_cases hk : k <= 2
    . have hoks := okF_kids hok hk
      have hop : [40] ++ List.take ((k + 1).toNat - k.toNat) (List.drop k.toNat ([38, 124, 33] : List UInt8)) = 40 :: opT k := by
        rcases (show k = 0 \/ k = 1 \/ k = 2 by omega) with rfl | rfl | rfl <;> rfl
      have htx : txF (.mk k a v ps ks) = (40 :: opT k ++ txFs ks) ++ [41] := by rw [txF_mk, if_pos hk]; rfl
      have hopl := opT_len k
      rw [htx]
      refine Spec.enter Tryd.func25 rfl rfl ?_; intro w0
      repeat' (first | (refine G.atCode ?_; refine G.stopLoop ?_) | (refine G.atCode ?_; first | refine G.seq ?_ | refine G.region ?_ | refine G.block ?_ | (refine G.cond rfl ?_ ?_ <;> intro hc <;> (try simp only [tests, reduceCtorEq] at hc) <;> (try exact Zf))) | refine G.endOps ?_ | (refine G.atBin ?_; first | (refine G.atAdd ?_; first | refine G.arith rfl rfl rfl rfl rfl Zi ?_ | refine G.catStr rfl rfl rfl Zo ?_) | refine G.op rfl rfl ?_) | refine G.op rfl rfl ?_ | (refine G.atLen ?_; first | refine G.lenSlice rfl (tyy rfl) rfl ?_) | (refine G.atLoad ?_; first | refine G.loadOwn1 rfl (tyy rfl) rfl rfl Za rfl rfl ?_) | (refine G.atFld ?_; first | refine G.fieldAddr rfl (tyy rfl) rfl rfl ?_) | (refine G.atBox ?_; refine G.box rfl rfl rfl ?_; intro _) | (refine G.atSlc ?_; first | refine G.sliceStr rfl rfl rfl (tyy rfl) rfl Zj Zj Zo rfl ?_))
      all_goals first | (exfalso; omega) | skip
      rename_i gb
      refine G.go ?_
      refine G.loop (σ := Nat) (fun i => [(24, .int .i64 i), (23, .int .i64 ks.length), (3, str (40 :: opT k ++ txFs (ks.take i))), (1, .pointer (some ⟨gb, 0, none⟩))])
        (fun _ => [.blk gb [.int .i64 k, str a, str v, .slice A ps.length c, .slice B ks.length d] 25]) (fun i _ => i <= ks.length) (fun i => ks.length - i) 0 ⟨rfl, rfl, sstr (by rw [hop]; simp [txFs]), rfl, trivial⟩ Zu (Nat.zero_le _) ?_
      rintro i h1 hle1 hi
      have hl8 := txFs_len8 (ks.take i)
      have hlw := flwt_takeY ks i
      by_cases hlt : i < ks.length
      . obtain ⟨f, hf⟩ : ∃ f, ks[i]? = some f := ⟨ks[i], List.getElem?_eq_getElem hlt⟩
        obtain ⟨q1, e1, n1⟩ := ka.get hf
        have n1 := n1.mono' hle1
        have hfs := flsz_kid (k := k) (a := a) (v := v) (ps := ps) hf
        have hfw := flwt_kid (k := k) (a := a) (v := v) (ps := ps) hf
        have hf8 := txF_len8 f
        have t1 : HSl h1 (.slice B ks.length d) 5 rowa := sa.mono hle1
        have l1 : q1.length = 5 := t1.rowed q1 (List.mem_of_getElem? e1)
        have hcall := ih f (by omega) (by omega) (okFs_get hoks hf) q1 h1 n1
        obtain ⟨k9, a9, v9, A9, m9, q9, B9, p9, r9, rfl⟩ := n1.shp
        have htk : 40 :: opT k ++ txFs (ks.take i) ++ txF f = 40 :: opT k ++ txFs (ks.take (i + 1)) := by
          rw [List.take_succ_eq_append_getElem hlt, (List.getElem?_eq_some_iff.1 hf).2, txFs_app]; simp [txFs]
        have hll : (40 :: opT k ++ txFs (ks.take i)).length = 2 + (txFs (ks.take i)).length := by simp only [List.length_append, List.length_cons, hopl]
        repeat' (first | (refine G.atIdx ?_; refine G.idxImm rfl rfl (tyy rfl) (tyy rfl) t1 Zj rfl (by omega) ?_; intro p1 r1 hx1 hp1; (rw [e1] at hx1); (obtain rfl := Option.some.inj hx1)) | (show G _ (.ops .seq _ (⟨some _, .call { callee := .value (.func 25), args := _, argTypes := _ }, _, _, _, none⟩ :: _) :: _) _ _ _; refine G.call callRText rfl rfl hcall Ze ?_; rintro _ h4 H4 ⟨rfl, rfl⟩ hle4) | (refine G.atCode ?_; first | refine G.seq ?_ | refine G.region ?_ | refine G.block ?_ | refine G.skip ?_ | (refine G.cond rfl ?_ ?_ <;> intro hc <;> (try simp only [tests, reduceCtorEq] at hc) <;> (try exact Zf))) | refine G.endOps ?_ | refine G.endBlk ?_ | (refine G.atBin ?_; first | (refine G.atAdd ?_; first | refine G.arith rfl rfl rfl rfl rfl Zi ?_ | refine G.catStr rfl rfl rfl Zo ?_) | refine G.op rfl rfl ?_) | refine G.op rfl rfl ?_ | (refine G.atLoad ?_; first | refine G.loadOwn1 rfl (tyy rfl) rfl rfl Za rfl rfl ?_ | refine G.loadImmA rfl (tyy rfl) rfl rfl Zp Zp rfl ?_) | (refine G.atFld ?_; first | refine G.fieldAddr rfl (tyy rfl) rfl rfl ?_))
        all_goals first
          | (exfalso; omega)
          | exact G.again (i + 1) ⟨sint (by simp), rfl, sstr htk, rfl, trivial⟩ Zu (by omega) (by solve | repeat first | assumption | exact Zr _ | refine Zq ?_ Zp) (by omega)
          | skip
      . obtain rfl : i = ks.length := by omega
        rw [List.take_of_length_le (Nat.le_refl _)] at *
        have hll : (40 :: opT k ++ txFs ks).length = 2 + (txFs ks).length := by simp only [List.length_append, List.length_cons, hopl]
        repeat' (first | (refine G.atCode ?_; first | refine G.seq ?_ | refine G.region ?_ | refine G.exit rfl ?_ | refine G.ret ?_ | (refine G.cond rfl ?_ ?_ <;> intro hc <;> (try simp only [tests, reduceCtorEq] at hc) <;> (try exact Zf))) | refine G.endOps ?_ | (refine G.atBin ?_; first | (refine G.atAdd ?_; first | refine G.catStr rfl rfl rfl Zo ?_) | refine G.op rfl rfl ?_) | refine G.op rfl rfl ?_)
        all_goals first | (exfalso; omega) | exact G.done1 rfl rfl [] (SubH.nil _) ⟨rfl, rfl⟩ | skip
    have htx : txF (.mk k a v ps ks) = 40 :: (txB k a v ps ++ [41]) := by rw [txF_mk, if_neg hk]
    rw [htx]
    unfold txB
    by_cases h7 : k = 7
    . rw [if_pos h7]
      refine Spec.enter Tryd.func25 rfl rfl ?_; intro w0
      repeat' (first | (refine G.atCode ?_; first | refine G.seq ?_ | refine G.region ?_ | refine G.skip ?_ | refine G.ret ?_ | (refine G.cond rfl ?_ ?_ <;> intro hc <;> (try simp only [tests, reduceCtorEq] at hc) <;> (try exact Zf))) | refine G.endOps ?_ | (refine G.atBin ?_; first | (refine G.atAdd ?_; first | refine G.catStr rfl rfl rfl Zo ?_) | (refine G.atEql ?_; first | refine G.op rfl rfl ?_) | refine G.op rfl rfl ?_) | refine G.op rfl rfl ?_ | (refine G.atLoad ?_; first | refine G.loadOwn1 rfl (tyy rfl) rfl rfl Za rfl rfl ?_) | (refine G.atFld ?_; first | refine G.fieldAddr rfl (tyy rfl) rfl rfl ?_) | (refine G.atBox ?_; refine G.box rfl rfl rfl ?_; intro _))
      all_goals first | (exfalso; omega) | exact G.done1 rfl rfl [] (SubH.nil _) ⟨by simp [str], rfl⟩ | skip
    rw [if_neg h7]
    by_cases h4 : k = 4
    . rw [if_pos h4]
      obtain ⟨hpF, hpne⟩ := pcsOk_F (okF_pcs hok h4)
      have hpt := pcT_len ps
      have hend := pcRem_end hpne
      have hinv0 : ([] : List UInt8) ++ [] ++ pcRem ps 0 = pcT ps := rfl
      generalize hTT : pcT ps = T at *
      refine Spec.enter Tryd.func25 rfl rfl ?_; intro w0
      repeat' (first | (refine G.atCode ?_; refine G.stopLoop ?_) | (refine G.atCode ?_; first | refine G.seq ?_ | refine G.region ?_ | refine G.block ?_ | refine G.skip ?_ | (refine G.cond rfl ?_ ?_ <;> intro hc <;> (try simp only [tests, reduceCtorEq] at hc) <;> (try exact Zf))) | refine G.endOps ?_ | (refine G.atBin ?_; first | (refine G.atAdd ?_; first | refine G.catStr rfl rfl rfl Zo ?_) | (refine G.atEql ?_; first | refine G.op rfl rfl ?_) | (refine G.atNeq ?_; first | refine G.op rfl rfl ?_) | refine G.op rfl rfl ?_) | refine G.op rfl rfl ?_ | (refine G.atLen ?_; first | refine G.lenSlice rfl (tyy rfl) rfl ?_) | (refine G.atLoad ?_; first | refine G.loadOwn1 rfl (tyy rfl) rfl rfl Za rfl rfl ?_) | (refine G.atFld ?_; first | refine G.fieldAddr rfl (tyy rfl) rfl rfl ?_) | (refine G.atBox ?_; refine G.box rfl rfl rfl ?_; intro _))
      all_goals first | (exfalso; omega) | skip
      rename_i gb _ _ _ _ _
      refine G.go ?_
      refine G.loop (σ := Nat × List UInt8 × List UInt8 × List UInt8) (fun x => [(76, .int .i64 x.1), (75, .int .i64 ps.length), (74, .slice A ps.length c), (7, str x.2.2.2), (6, str x.2.2.1), (5, str x.2.1), (3, str ([40] ++ a ++ [61])), (1, .pointer (some ⟨gb, 0, none⟩))])
        (fun _ => [.blk gb [.int .i64 k, str a, str v, .slice A ps.length c, .slice B ks.length d] 25])
        (fun x _ => x.1 <= ps.length /\ ((x.2.2.2 = [] /\ x.2.1 ++ x.2.2.1 ++ pcRem ps x.1 = T /\ (x.1 = 0 -> x.2.1 = [] /\ x.2.2.1 = [])) \/ (x.1 = ps.length /\ x.2.1 ++ x.2.2.1 ++ 42 :: x.2.2.2 = T))) (fun x => ps.length - x.1) ⟨0, [], [], []⟩ ⟨rfl, sint (by simp), rfl, rfl, rfl, rfl, rfl, rfl, trivial⟩ Zu ⟨Nat.zero_le _, .inl ⟨rfl, hinv0, fun _ => ⟨rfl, rfl⟩⟩⟩ ?_
      rintro ⟨i, fi, mi, la'⟩ h1 hle1 ⟨hi, hinv⟩
      simp only at hi hinv
      have s1 : HSl h1 (.slice A ps.length c) 2 (pcsR ps) := sp.mono hle1
      refine G.norm (by (try dsimp only) <;> exact rfl) (by (try dsimp only) <;> exact rfl) ?_
      by_cases hlt : i < ps.length
      . obtain ⟨⟨pk, pt⟩, hp⟩ : ∃ p, ps[i]? = some p := ⟨ps[i], List.getElem?_eq_getElem hlt⟩
        have hget := pcsR_get hp
        have hl3 : ([.int .i64 pk, str pt] : List Value).length = 2 := rfl
        have hpw := pcW_get hp
        obtain ⟨hla, heq, h0⟩ : la' = [] /\ fi ++ mi ++ pcRem ps i = T /\ (i = 0 -> fi = [] /\ mi = []) := by
          rcases hinv with h | ⟨h, _⟩
          . exact h
          . exact absurd h (by omega)
        subst hla
        have hel := escS_len pt
        have hlen := congrArg List.length heq
        simp only [List.length_append] at hlen
        obtain ⟨hne, hat⟩ := pcRem_at hpF hp
        rcases hat with ⟨hpk, hi0, hat⟩ | ⟨hpk, hat⟩ | ⟨hpk, hin, hat⟩
        . obtain ⟨rfl, rfl⟩ := h0 hi0
          have hnew : escS pt ++ [] ++ pcRem ps (i + 1) = T := by rw [<- heq, hat]; simp
          repeat' (first | (show G _ (.ops .seq _ (⟨some _, .call { callee := .value (.func 36), args := _, argTypes := _ }, _, _, _, none⟩ :: _) :: _) _ _ _; refine G.call callRFWritten rfl rfl (ref10_written pt (by omega) _) Ze ?_; rintro _ h4 H4 ⟨rfl, rfl⟩ hle4) | (refine G.atIdx ?_; refine G.idxImm rfl rfl (tyy rfl) (tyy rfl) s1 Zj rfl (by omega) ?_; intro p1 r1 hx1 hp1; (rw [hget] at hx1); (obtain rfl := Option.some.inj hx1)) | (refine G.atCode ?_; first | refine G.seq ?_ | refine G.region ?_ | refine G.block ?_ | refine G.skip ?_ | (refine G.cond rfl ?_ ?_ <;> intro hc <;> (try simp only [tests, reduceCtorEq] at hc) <;> (try exact Zf))) | refine G.endOps ?_ | refine G.endBlk ?_ | (refine G.atBin ?_; first | (refine G.atAdd ?_; first | refine G.arith rfl rfl rfl rfl rfl Zi ?_) | (refine G.atEql ?_; first | refine G.op rfl rfl ?_) | refine G.op rfl rfl ?_) | refine G.op rfl rfl ?_ | (refine G.atLoad ?_; first | refine G.loadOwn1 rfl (tyy rfl) rfl rfl Za rfl rfl ?_ | refine G.loadImmA rfl (tyy rfl) rfl rfl Zp Zp rfl ?_) | (refine G.atFld ?_; first | refine G.fieldAddr rfl (tyy rfl) rfl rfl ?_) | (refine G.atSto ?_; refine G.storeOwn rfl rfl (tyy rfl) Za rfl rfl rfl rfl ?_) | (refine G.atAlc ?_; refine G.alloc (tyy rfl) rfl rfl ?_; intro _))
          all_goals first
            | (exfalso; omega)
            | exact G.again ⟨i + 1, escS pt, [], []⟩ ⟨sint (by simp), rfl, rfl, rfl, rfl, rfl, rfl, rfl, trivial⟩ Zu ⟨by simp only; omega, .inl ⟨rfl, hnew, fun e => absurd e (by simp)⟩⟩ (by solve | repeat first | assumption | exact Zr _ | refine Zq ?_ Zp) (by simp only; omega)
            | skip
        . have hnew : fi ++ (mi ++ [42] ++ escS pt) ++ pcRem ps (i + 1) = T := by rw [<- heq, hat]; simp
          repeat' (first | (show G _ (.ops .seq _ (⟨some _, .call { callee := .value (.func 36), args := _, argTypes := _ }, _, _, _, none⟩ :: _) :: _) _ _ _; refine G.call callRFWritten rfl rfl (ref10_written pt (by omega) _) Ze ?_; rintro _ h4 H4 ⟨rfl, rfl⟩ hle4) | (refine G.atIdx ?_; refine G.idxImm rfl rfl (tyy rfl) (tyy rfl) s1 Zj rfl (by omega) ?_; intro p1 r1 hx1 hp1; (rw [hget] at hx1); (obtain rfl := Option.some.inj hx1)) | (refine G.atCode ?_; first | refine G.seq ?_ | refine G.region ?_ | refine G.block ?_ | refine G.skip ?_ | (refine G.cond rfl ?_ ?_ <;> intro hc <;> (try simp only [tests, reduceCtorEq] at hc) <;> (try exact Zf))) | refine G.endOps ?_ | refine G.endBlk ?_ | (refine G.atBin ?_; first | (refine G.atAdd ?_; first | refine G.arith rfl rfl rfl rfl rfl Zi ?_ | refine G.catStr rfl rfl rfl Zo ?_) | (refine G.atEql ?_; first | refine G.op rfl rfl ?_) | refine G.op rfl rfl ?_) | refine G.op rfl rfl ?_ | (refine G.atLoad ?_; first | refine G.loadOwn1 rfl (tyy rfl) rfl rfl Za rfl rfl ?_ | refine G.loadImmA rfl (tyy rfl) rfl rfl Zp Zp rfl ?_) | (refine G.atFld ?_; first | refine G.fieldAddr rfl (tyy rfl) rfl rfl ?_) | (refine G.atSto ?_; refine G.storeOwn rfl rfl (tyy rfl) Za rfl rfl rfl rfl ?_) | (refine G.atAlc ?_; refine G.alloc (tyy rfl) rfl rfl ?_; intro _))
          all_goals first
            | (exfalso; omega)
            | exact G.again ⟨i + 1, fi, mi ++ [42] ++ escS pt, []⟩ ⟨sint (by simp), rfl, rfl, rfl, rfl, rfl, rfl, rfl, trivial⟩ Zu ⟨by simp only; omega, .inl ⟨rfl, hnew, fun e => absurd e (by simp)⟩⟩ (by solve | repeat first | assumption | exact Zr _ | refine Zq ?_ Zp) (by simp only; omega)
            | skip
        . have hnew : fi ++ mi ++ 42 :: escS pt = T := by rw [<- heq, hat]
          repeat' (first | (show G _ (.ops .seq _ (⟨some _, .call { callee := .value (.func 36), args := _, argTypes := _ }, _, _, _, none⟩ :: _) :: _) _ _ _; refine G.call callRFWritten rfl rfl (ref10_written pt (by omega) _) Ze ?_; rintro _ h4 H4 ⟨rfl, rfl⟩ hle4) | (refine G.atIdx ?_; refine G.idxImm rfl rfl (tyy rfl) (tyy rfl) s1 Zj rfl (by omega) ?_; intro p1 r1 hx1 hp1; (rw [hget] at hx1); (obtain rfl := Option.some.inj hx1)) | (refine G.atCode ?_; first | refine G.seq ?_ | refine G.region ?_ | refine G.block ?_ | refine G.skip ?_ | (refine G.cond rfl ?_ ?_ <;> intro hc <;> (try simp only [tests, reduceCtorEq] at hc) <;> (try exact Zf))) | refine G.endOps ?_ | refine G.endBlk ?_ | (refine G.atBin ?_; first | (refine G.atAdd ?_; first | refine G.arith rfl rfl rfl rfl rfl Zi ?_) | (refine G.atEql ?_; first | refine G.op rfl rfl ?_) | refine G.op rfl rfl ?_) | refine G.op rfl rfl ?_ | (refine G.atLoad ?_; first | refine G.loadOwn1 rfl (tyy rfl) rfl rfl Za rfl rfl ?_ | refine G.loadImmA rfl (tyy rfl) rfl rfl Zp Zp rfl ?_) | (refine G.atFld ?_; first | refine G.fieldAddr rfl (tyy rfl) rfl rfl ?_) | (refine G.atSto ?_; refine G.storeOwn rfl rfl (tyy rfl) Za rfl rfl rfl rfl ?_) | (refine G.atAlc ?_; refine G.alloc (tyy rfl) rfl rfl ?_; intro _))
          all_goals first
            | (exfalso; omega)
            | exact G.again ⟨i + 1, fi, mi, escS pt⟩ ⟨sint (by simp), rfl, rfl, rfl, rfl, rfl, rfl, rfl, trivial⟩ Zu ⟨by simp only; omega, .inr ⟨hin, hnew⟩⟩ (by solve | repeat first | assumption | exact Zr _ | refine Zq ?_ Zp) (by simp only; omega)
            | skip
      . obtain rfl : i = ps.length := by omega
        have hfin : fi ++ mi ++ 42 :: la' = T := by
          rcases hinv with ⟨rfl, h, _⟩ | ⟨_, h⟩
          . rw [hend] at h; exact h
          . exact h
        have hlen := congrArg List.length hfin
        simp only [List.length_append, List.length_cons] at hlen
        repeat' (first | (refine G.atCode ?_; first | refine G.seq ?_ | refine G.region ?_ | refine G.exit rfl ?_ | refine G.ret ?_ | (refine G.cond rfl ?_ ?_ <;> intro hc <;> (try simp only [tests, reduceCtorEq] at hc) <;> (try exact Zf))) | refine G.endOps ?_ | (refine G.atBin ?_; first | (refine G.atAdd ?_; first | refine G.catStr rfl rfl rfl Zo ?_) | refine G.op rfl rfl ?_) | refine G.op rfl rfl ?_)
        all_goals first | (exfalso; omega) | exact G.done1 rfl rfl [] (SubH.nil _) ⟨by rw [<- hfin]; simp [str], rfl⟩ | skip
    . rw [if_neg h4]
      rcases (show k = 3 \/ k = 5 \/ k = 6 \/ k = 8 by omega) with h | h | h | h
      all_goals
        refine Spec.enter Tryd.func25 rfl rfl ?_; intro w0
        repeat' (first | (show G _ (.ops .seq _ (⟨some _, .call { callee := .value (.func 36), args := _, argTypes := _ }, _, _, _, none⟩ :: _) :: _) _ _ _; refine G.call callRFWritten rfl rfl (ref10_written v (by omega) _) Ze ?_; rintro _ h4 H4 ⟨rfl, rfl⟩ hle4) | (refine G.atCode ?_; first | refine G.seq ?_ | refine G.region ?_ | refine G.skip ?_ | refine G.ret ?_ | (refine G.cond rfl ?_ ?_ <;> intro hc <;> (try simp only [tests, reduceCtorEq] at hc) <;> (try exact Zf))) | refine G.endOps ?_ | (refine G.atBin ?_; first | (refine G.atAdd ?_; first | refine G.catStr rfl rfl rfl Zo ?_) | (refine G.atEql ?_; first | refine G.op rfl rfl ?_) | (refine G.atNeq ?_; first | refine G.op rfl rfl ?_) | refine G.op rfl rfl ?_) | refine G.op rfl rfl ?_ | (refine G.atLoad ?_; first | refine G.loadOwn1 rfl (tyy rfl) rfl rfl Za rfl rfl ?_) | (refine G.atFld ?_; first | refine G.fieldAddr rfl (tyy rfl) rfl rfl ?_) | (refine G.atBox ?_; refine G.box rfl rfl rfl ?_; intro _))
        all_goals first | (exfalso; omega) | exact G.done1 rfl rfl [] (SubH.nil _) ⟨by subst h; simp [str, sgT], rfl⟩ | skip
end Go.Proofs.YtcghcdnmpjhifaaDoor
