/- Filters: filt.text. -/
import Derived.Test.YtcghcdnmpjhifaaDoorFlY
import Derived.Test.YtcghcdnmpjhifaaDoorFlI
namespace Go.Proofs.YtcghcdnmpjhifaaDoor
set_option linter.all false
set_option maxRecDepth 4000
open Go.RowKit

theorem callFText : Callable Tryd.prog 23 := ⟨_, Tryd.func23, by kernel_rfl, rfl⟩
def TxR (u : Value) (most : Int) (t : List UInt8) : Prop := ∃ s, u = .tuple #[str s, .bool (decide ((t.length : Int) <= most))] /\ ((t.length : Int) <= most -> s = t)
theorem TxR_no {most : Int} {t : List UInt8} (h : ¬ (t.length : Int) <= most) : TxR (.tuple #[str [], .bool false]) most t := ⟨[], by rw [decide_eq_false h], fun e => absurd e h⟩
theorem TxR_end {most : Int} {s t : List UInt8} (h : s = t) : TxR (.tuple #[str s, .bool (decide ((s.length : Int) <= most))]) most t := ⟨s, by rw [h], fun _ => h⟩
def remA : Pcs -> List UInt8
  | [] => []
  | (k, t) :: r => if k = 2 then escS t else pcTA ((k, t) :: r)
def rem2 (ps : Pcs) (i : Nat) : List UInt8 := if i = 0 then pcT ps else remA (ps.drop i)
theorem rem2_end {ps : Pcs} (h : ps ≠ []) : rem2 ps ps.length = [] := by
  unfold rem2
  rw [if_neg (fun e => h (List.eq_nil_of_length_eq_zero e)), List.drop_length]; rfl
theorem rem2_star {ps : Pcs} (h : ps ≠ []) {i : Nat} (hi : i = ps.length \/ ∃ t, ps[i]? = some (2, t)) (h0 : i ≠ 0) (hok : pcsOkF true ps = true) : pcRem ps i = 42 :: rem2 ps i := by
  rcases hi with rfl | ⟨t, hp⟩
  . rw [pcRem_end h, rem2_end h]
  . obtain ⟨_, hat⟩ := pcRem_at hok hp
    rcases hat with ⟨h9, _⟩ | ⟨h9, _⟩ | ⟨_, hin, hat⟩
    . exact absurd h9 (by decide)
    . exact absurd h9 (by decide)
    . rw [hat]
      obtain ⟨hlt, he⟩ := List.getElem?_eq_some_iff.1 hp
      unfold rem2
      rw [if_neg h0, List.drop_eq_getElem_cons hlt, he, remA, if_pos rfl]
theorem rem2_no {ps : Pcs} {i : Nat} {k : Int} {t : List UInt8} (hp : ps[i]? = some (k, t)) (hk : k ≠ 2) : pcRem ps i = rem2 ps i := by
  obtain ⟨hlt, he⟩ := List.getElem?_eq_some_iff.1 hp
  unfold rem2 pcRem
  by_cases h0 : i = 0
  . rw [if_pos h0, if_pos h0]
  . rw [if_neg h0, if_neg h0, List.drop_eq_getElem_cons hlt, he, remA, if_neg hk]
theorem rem2_at {ps : Pcs} (hok : pcsOkF true ps = true) (hne : ps ≠ []) {i : Nat} {k : Int} {t : List UInt8} (hp : ps[i]? = some (k, t)) :
    (k = 0 /\ i = 0 /\ (i + 1 = ps.length \/ ∃ t2, ps[i + 1]? = some (2, t2)) /\ rem2 ps i = escS t ++ [42] ++ rem2 ps (i + 1)) ∨
    (k = 0 /\ i = 0 /\ (∃ k2 t2, ps[i + 1]? = some (k2, t2) /\ k2 ≠ 2) /\ rem2 ps i = escS t ++ rem2 ps (i + 1)) ∨
    (k = 1 /\ (i + 1 = ps.length \/ ∃ t2, ps[i + 1]? = some (2, t2)) /\ rem2 ps i = [42] ++ escS t ++ [42] ++ rem2 ps (i + 1)) ∨
    (k = 1 /\ (∃ k2 t2, ps[i + 1]? = some (k2, t2) /\ k2 ≠ 2) /\ rem2 ps i = [42] ++ escS t ++ rem2 ps (i + 1)) ∨
    (k = 2 /\ i = 0 /\ i + 1 = ps.length /\ rem2 ps i = [42] ++ escS t) ∨
    (k = 2 /\ i ≠ 0 /\ i + 1 = ps.length /\ rem2 ps i = escS t) := by
  obtain ⟨hlt, he⟩ := List.getElem?_eq_some_iff.1 hp
  have hnx : (i + 1 = ps.length \/ ∃ t2, ps[i + 1]? = some (2, t2)) \/ (∃ k2 t2, ps[i + 1]? = some (k2, t2) /\ k2 ≠ 2) := by
    by_cases h1 : i + 1 < ps.length
    . have h2 : ps[i + 1]? = some (ps[i + 1].1, ps[i + 1].2) := List.getElem?_eq_getElem h1
      by_cases h3 : ps[i + 1].1 = 2
      . rw [h3] at h2; exact .inl (.inr ⟨_, h2⟩)
      . exact .inr ⟨_, _, h2, h3⟩
    . exact .inl (.inl (by omega))
  obtain ⟨_, hat⟩ := pcRem_at hok hp
  rcases hat with ⟨rfl, rfl, hat⟩ | ⟨rfl, hat⟩ | ⟨rfl, hin, hat⟩
  . rw [rem2_no hp (by decide)] at hat
    rcases hnx with hnx | hnx
    . refine .inl ⟨rfl, rfl, hnx, ?_⟩
      rw [hat, rem2_star hne hnx (by omega) hok]; simp
    . refine .inr (.inl ⟨rfl, rfl, hnx, ?_⟩)
      obtain ⟨k2, t2, hp2, hk2⟩ := hnx
      rw [hat, rem2_no hp2 hk2]
  . rw [rem2_no hp (by decide)] at hat
    rcases hnx with hnx | hnx
    . refine .inr (.inr (.inl ⟨rfl, hnx, ?_⟩))
      rw [hat, rem2_star hne hnx (by omega) hok]; simp
    . refine .inr (.inr (.inr (.inl ⟨rfl, hnx, ?_⟩)))
      obtain ⟨k2, t2, hp2, hk2⟩ := hnx
      rw [hat, rem2_no hp2 hk2]; simp
  . by_cases h0 : i = 0
    . subst h0
      refine .inr (.inr (.inr (.inr (.inl ⟨rfl, rfl, hin, ?_⟩))))
      have : rem2 ps 0 = pcRem ps 0 := rfl
      rw [this, hat]; rfl
    . refine .inr (.inr (.inr (.inr (.inr ⟨rfl, h0, hin, ?_⟩))))
      unfold rem2
      rw [if_neg h0, List.drop_eq_getElem_cons hlt, he, remA, if_pos rfl]
set_option maxRecDepth 8000 in
set_option maxHeartbeats 4000000 in
theorem filt_text : ∀ (n : Nat) (a : Fl), a.sz <= n -> a.wt <= 100000000 -> okF a -> ∀ (most : Int), most <= 4096 -> -1000000000000 + ((txF a).length : Int) <= most -> ∀ (r : List Value) (h : Heap), Tabs h -> FlC h a r →
    Spec Tryd.prog 23 [.agg r.toArray, .int .i64 most] h [] (fun u _ H' => TxR u most (txF a) /\ H' = [])
  | 0, .mk _ _ _ _ _, hn, _, _, _, _, _, _, _, _, _ => by simp only [Fl.sz] at hn; omega
  | n + 1, a, hn, hw, hok, most, hm1, hm2, r, h, hT, ha => by
    have ih := filt_text n
    obtain ⟨k, a, v, ps, ks, A, c, B, d, rowa, rfl, rfl, sp, sa, ka, la⟩ := ha.box
    have lp := pcsR_length ps
    have hpl := pcW_len ps
    have hkl := flwt_len ks
    have hwt : 1 + a.length + v.length + pcW ps + flwt ks <= 100000000 := by simpa only [Fl.wt] using hw
    have hrng := okF_rng hok
    have hvl := escS_len v
    clear ha
    by_cases hk : k <= 2
    . have hoks := okF_kids hok hk
      have hop : [40] ++ List.take ((k + 1).toNat - k.toNat) (List.drop k.toNat ([38, 124, 33] : List UInt8)) = 40 :: opT k := by
        rcases (show k = 0 \/ k = 1 \/ k = 2 by omega) with rfl | rfl | rfl <;> rfl
      have htx : txF (.mk k a v ps ks) = (40 :: opT k ++ txFs ks) ++ [41] := by rw [txF_mk, if_pos hk]; rfl
      have hopl := opT_len k
      have htl : (txF (.mk k a v ps ks)).length = 3 + (txFs ks).length := by rw [htx]; simp only [List.length_append, List.length_cons, List.length_nil, hopl]; omega
      rw [htl] at hm2
      have hE : ∀ most : Int, ¬ (((3 + (txFs ks).length : Nat) : Int) <= most) -> TxR (.tuple #[str [], .bool false]) most (txF (.mk k a v ps ks)) := fun m hm => TxR_no (by rw [htl]; exact hm)
      rcases (show k = 0 \/ k = 1 \/ k = 2 by omega) with hk0 | hk0 | hk0
      all_goals
        refine Spec.enter Tryd.func23 rfl rfl ?_; intro w0
        repeat' (first | (refine G.atCode ?_; refine G.stopLoop ?_) | (refine G.atCode ?_; first | refine G.seq ?_ | refine G.region ?_ | refine G.block ?_ | refine G.skip ?_ | (refine G.cond rfl ?_ ?_ <;> intro hc <;> (try simp only [tests, reduceCtorEq] at hc) <;> (try exact Zf))) | refine G.endOps ?_ | (refine G.atBin ?_; first | (refine G.atAdd ?_; first | refine G.arith rfl rfl rfl rfl rfl Zi ?_ | refine G.catStr rfl rfl rfl Zo ?_) | (refine G.atEql ?_; first | refine G.op rfl rfl ?_)) | refine G.op rfl rfl ?_ | (refine G.atLen ?_; first | refine G.lenSlice rfl (tyy rfl) rfl ?_) | (refine G.atLoad ?_; first | refine G.loadOwn1 rfl (tyy rfl) rfl rfl Za rfl rfl ?_) | (refine G.atFld ?_; first | refine G.fieldAddr rfl (tyy rfl) rfl rfl ?_) | (refine G.atBox ?_; refine G.box rfl rfl rfl ?_; intro _) | (refine G.atSlc ?_; first | refine G.sliceStr rfl rfl rfl (tyy rfl) rfl Zj Zj Zo rfl ?_))
        all_goals first | (exfalso; omega) | skip
        refine G.go ?_
        refine G.loop (σ := Nat) (fun i => [(59, .int .i64 i), (58, .int .i64 ks.length), (57, .slice B ks.length d), (6, str (40 :: opT k ++ txFs (ks.take i))), (1, .int .i64 most)])
          (fun _ => []) (fun i _ => i <= ks.length) (fun i => ks.length - i) 0 ⟨rfl, rfl, rfl, sstr (by rw [hop]; simp [txFs]), rfl, trivial⟩ (SubH.nil _) (Nat.zero_le _) ?_
        rintro i h1 hle1 hi
        have hl8 := txFs_len8 (ks.take i)
        have hlw := flwt_takeY ks i
        have hll : (40 :: opT k ++ txFs (ks.take i)).length = 2 + (txFs (ks.take i)).length := by simp only [List.length_append, List.length_cons, hopl] <;> omega
        have hsplit : (txFs ks).length = (txFs (ks.take i)).length + (txFs (ks.drop i)).length := by rw [<- List.length_append, ← txFs_app, List.take_append_drop]
        by_cases hlt : i < ks.length
        . obtain ⟨f, hf⟩ : ∃ f, ks[i]? = some f := ⟨ks[i], List.getElem?_eq_getElem hlt⟩
          obtain ⟨q1, e1, n1⟩ := ka.get hf
          have n1 := n1.mono' hle1
          have hfs := flsz_kid (k := k) (a := a) (v := v) (ps := ps) hf
          have hfw := flwt_kid (k := k) (a := a) (v := v) (ps := ps) hf
          have hf8 := txF_len8 f
          rw [txFs_drop hf] at hsplit
          have t1 : HSl h1 (.slice B ks.length d) 5 rowa := sa.mono hle1
          have l1 : q1.length = 5 := t1.rowed q1 (List.mem_of_getElem? e1)
          have htk : 40 :: opT k ++ txFs (ks.take i) ++ txF f = 40 :: opT k ++ txFs (ks.take (i + 1)) := by
            rw [List.take_succ_eq_append_getElem hlt, (List.getElem?_eq_some_iff.1 hf).2, txFs_app]; simp [txFs]
          have hcall := ih f (by omega) (by omega) (okFs_get hoks hf) (most - ((40 :: opT k ++ txFs (ks.take i)).length : Nat)) (by omega) (by omega) q1 h1 (hT.mono hle1) n1
          obtain ⟨k9, a9, v9, A9, m9, q9, B9, p9, r9, rfl⟩ := n1.shp
          by_cases hfit : ((txF f).length : Int) <= most - ((40 :: opT k ++ txFs (ks.take i)).length : Nat)
          . repeat' (first | (refine G.atIdx ?_; refine G.idxImm rfl rfl (tyy rfl) (tyy rfl) t1 Zj rfl (by omega) ?_; intro p1 r1 hx1 hp1; (rw [e1] at hx1); (obtain rfl := Option.some.inj hx1)) | (show G _ (.ops .seq _ (⟨some _, .call { callee := .value (.func 23), args := _, argTypes := _ }, _, _, _, none⟩ :: _) :: _) _ _ _; refine G.call callFText rfl rfl hcall Ze ?_; rintro _ h4 H4 ⟨⟨s4, rfl, hs4⟩, rfl⟩ hle4; obtain rfl := hs4 hfit; rw [decide_eq_true hfit]) | (refine G.atCode ?_; first | refine G.seq ?_ | refine G.region ?_ | refine G.block ?_ | refine G.skip ?_ | (refine G.cond rfl ?_ ?_ <;> intro hc <;> (try simp only [tests, reduceCtorEq] at hc) <;> (try exact Zf))) | refine G.endOps ?_ | refine G.endBlk ?_ | (refine G.atBin ?_; first | (refine G.atAdd ?_; first | refine G.arith rfl rfl rfl rfl rfl Zi ?_ | refine G.catStr rfl rfl rfl Zo ?_) | (refine G.atSub ?_; first | refine G.arith rfl rfl rfl rfl rfl Zi ?_) | refine G.op rfl rfl ?_) | refine G.op rfl rfl ?_ | (refine G.atLen ?_; first | refine G.lenStr rfl (tyy rfl) rfl ?_) | (refine G.atLoad ?_; first | refine G.loadOwnA rfl (tyy rfl) rfl rfl Za rfl rfl ?_ | refine G.loadImmA rfl (tyy rfl) rfl rfl Zp Zp rfl ?_) | (refine G.atSto ?_; refine G.storeOwn rfl rfl (tyy rfl) Za rfl rfl rfl rfl ?_) | (refine G.atAlc ?_; refine G.alloc (tyy rfl) rfl rfl ?_; intro _))
            all_goals first
              | (exfalso; omega)
              | exact G.again (i + 1) ⟨sint (by simp), rfl, rfl, sstr htk, rfl, trivial⟩ (SubH.nil _) (by omega) (by solve | repeat first | assumption | exact Zr _ | refine Zq ?_ Zp) (by omega)
              | skip
          . repeat' (first | (refine G.atIdx ?_; refine G.idxImm rfl rfl (tyy rfl) (tyy rfl) t1 Zj rfl (by omega) ?_; intro p1 r1 hx1 hp1; (rw [e1] at hx1); (obtain rfl := Option.some.inj hx1)) | (show G _ (.ops .seq _ (⟨some _, .call { callee := .value (.func 23), args := _, argTypes := _ }, _, _, _, none⟩ :: _) :: _) _ _ _; refine G.call callFText rfl rfl hcall Ze ?_; rintro _ h4 H4 ⟨⟨s4, rfl, hs4⟩, rfl⟩ hle4; rw [decide_eq_false hfit]) | (refine G.atCode ?_; first | refine G.seq ?_ | refine G.region ?_ | refine G.block ?_ | refine G.skip ?_ | refine G.ret ?_ | (refine G.cond rfl ?_ ?_ <;> intro hc <;> (try simp only [tests, reduceCtorEq] at hc) <;> (try exact Zf))) | refine G.endOps ?_ | (refine G.atBin ?_; first | (refine G.atSub ?_; first | refine G.arith rfl rfl rfl rfl rfl Zi ?_) | refine G.op rfl rfl ?_) | refine G.op rfl rfl ?_ | (refine G.atLen ?_; first | refine G.lenStr rfl (tyy rfl) rfl ?_) | (refine G.atLoad ?_; first | refine G.loadOwnA rfl (tyy rfl) rfl rfl Za rfl rfl ?_ | refine G.loadImmA rfl (tyy rfl) rfl rfl Zp Zp rfl ?_) | (refine G.atSto ?_; refine G.storeOwn rfl rfl (tyy rfl) Za rfl rfl rfl rfl ?_) | (refine G.atAlc ?_; refine G.alloc (tyy rfl) rfl rfl ?_; intro _))
            all_goals first
              | (exfalso; omega)
              | exact G.done2 rfl rfl rfl [] (SubH.nil _) ⟨hE _ (by omega), rfl⟩
              | skip
        . obtain rfl : i = ks.length := by omega
          rw [List.take_of_length_le (Nat.le_refl _)] at *
          repeat' (first | (refine G.atCode ?_; first | refine G.seq ?_ | refine G.region ?_ | refine G.exit rfl ?_ | refine G.ret ?_ | (refine G.cond rfl ?_ ?_ <;> intro hc <;> (try simp only [tests, reduceCtorEq] at hc) <;> (try exact Zf))) | refine G.endOps ?_ | refine G.endBlk ?_ | (refine G.atBin ?_; first | (refine G.atAdd ?_; first | refine G.catStr rfl rfl rfl Zo ?_) | refine G.op rfl rfl ?_) | refine G.op rfl rfl ?_ | (refine G.atLen ?_; first | refine G.lenStr rfl (tyy rfl) rfl ?_))
          all_goals first | (exfalso; omega) | exact G.done2 rfl rfl rfl [] (SubH.nil _) ⟨TxR_end htx.symm, rfl⟩ | skip
    have htx : txF (.mk k a v ps ks) = 40 :: (txB k a v ps ++ [41]) := by rw [txF_mk, if_neg hk]
    rw [htx] at hm2 ⊢
    unfold txB at hm2 ⊢
    by_cases h7 : k = 7
    . rw [if_pos h7] at hm2 ⊢
      simp only [List.length_cons, List.length_append, List.length_nil] at hm2
      refine Spec.enter Tryd.func23 rfl rfl ?_; intro w0
      repeat' (first | (refine G.atCode ?_; first | refine G.seq ?_ | refine G.region ?_ | refine G.block ?_ | refine G.ret ?_ | (refine G.cond rfl ?_ ?_ <;> intro hc <;> (try simp only [tests, reduceCtorEq] at hc) <;> (try exact Zf))) | refine G.endOps ?_ | refine G.endBlk ?_ | (refine G.atBin ?_; first | (refine G.atAdd ?_; first | refine G.catStr rfl rfl rfl Zo ?_) | (refine G.atEql ?_; first | refine G.op rfl rfl ?_) | refine G.op rfl rfl ?_) | refine G.op rfl rfl ?_ | (refine G.atLen ?_; first | refine G.lenStr rfl (tyy rfl) rfl ?_) | (refine G.atLoad ?_; first | refine G.loadOwn1 rfl (tyy rfl) rfl rfl Za rfl rfl ?_) | (refine G.atFld ?_; first | refine G.fieldAddr rfl (tyy rfl) rfl rfl ?_) | (refine G.atBox ?_; refine G.box rfl rfl rfl ?_; intro _))
      all_goals first | (exfalso; omega) | exact G.done2 rfl rfl rfl [] (SubH.nil _) ⟨TxR_end (by simp), rfl⟩ | skip
    rw [if_neg h7] at hm2 ⊢
    by_cases h4 : k = 4
    . rw [if_pos h4] at hm2 ⊢
      simp only [List.length_cons, List.length_append, List.length_nil] at hm2
      obtain ⟨hpF, hpne⟩ := pcsOk_F (okF_pcs hok h4)
      have hpt := pcT_len ps
      have hend := rem2_end hpne
      have hE : ∀ most : Int, ¬ (((3 + a.length + (pcT ps).length : Nat) : Int) <= most) -> TxR (.tuple #[str [], .bool false]) most (40 :: (a ++ 61 :: pcT ps ++ [41])) := fun m hm => TxR_no (by simp only [List.length_cons, List.length_append, List.length_nil]; omega)
      have hF : ∀ P : List UInt8, P = pcT ps -> [40] ++ (a ++ [61]) ++ P ++ [41] = 40 :: (a ++ 61 :: pcT ps ++ [41]) := fun P hP => by rw [hP]; simp
      have hinv0 : ([] : List UInt8) ++ rem2 ps 0 = pcT ps := rfl
      generalize hTT : pcT ps = T at *
      refine Spec.enter Tryd.func23 rfl rfl ?_; intro w0
      repeat' (first | (refine G.atCode ?_; refine G.stopLoop ?_) | (refine G.atCode ?_; first | refine G.seq ?_ | refine G.region ?_ | refine G.block ?_ | (refine G.cond rfl ?_ ?_ <;> intro hc <;> (try simp only [tests, reduceCtorEq] at hc) <;> (try exact Zf))) | refine G.endOps ?_ | (refine G.atBin ?_; first | (refine G.atAdd ?_; first | refine G.catStr rfl rfl rfl Zo ?_) | (refine G.atEql ?_; first | refine G.op rfl rfl ?_)) | refine G.op rfl rfl ?_ | (refine G.atLen ?_; first | refine G.lenSlice rfl (tyy rfl) rfl ?_) | (refine G.atLoad ?_; first | refine G.loadOwn1 rfl (tyy rfl) rfl rfl Za rfl rfl ?_) | (refine G.atFld ?_; first | refine G.fieldAddr rfl (tyy rfl) rfl rfl ?_) | (refine G.atBox ?_; refine G.box rfl rfl rfl ?_; intro _))
      all_goals first | (exfalso; omega) | skip
      rename_i gb _ _ _ _
      refine G.go ?_
      refine G.loop (σ := Nat × List UInt8) (fun x => [(95, .int .i64 x.1), (94, .int .i64 ps.length), (93, .slice A ps.length c), (6, str ([40] ++ (a ++ [61]) ++ x.2)), (1, .int .i64 most), (2, .pointer (some ⟨gb, 0, none⟩))])
        (fun _ => [.blk gb [.int .i64 k, str a, str v, .slice A ps.length c, .slice B ks.length d] 25])
        (fun x _ => x.1 <= ps.length /\ x.2 ++ rem2 ps x.1 = T) (fun x => ps.length - x.1) ⟨0, []⟩ ⟨rfl, sint (by simp), rfl, sstr (by simp), rfl, rfl, trivial⟩ Zu ⟨Nat.zero_le _, hinv0⟩ ?_
      rintro ⟨i, P⟩ h1 hle1 ⟨hi, heq⟩
      simp only at hi heq
      have s1 : HSl h1 (.slice A ps.length c) 2 (pcsR ps) := sp.mono hle1
      refine G.norm (by (try dsimp only) <;> exact rfl) (by (try dsimp only) <;> exact rfl) ?_
      have hlen := congrArg List.length heq
      simp only [List.length_append] at hlen
      have hsl : ([40] ++ (a ++ [61]) ++ P).length = 2 + a.length + P.length := by simp only [List.length_append, List.length_cons, List.length_nil]; omega
      by_cases hlt : i < ps.length
      . obtain ⟨⟨pk, pt⟩, hp⟩ : ∃ p, ps[i]? = some p := ⟨ps[i], List.getElem?_eq_getElem hlt⟩
        have hget := pcsR_get hp
        have hl3 : ([.int .i64 pk, str pt] : List Value).length = 2 := rfl
        have hpw := pcW_get hp
        have hel := escS_len pt
        generalize hS : [40] ++ (a ++ [61]) ++ P = S at *
        rcases rem2_at hpF hpne hp with ⟨hpk, hi0, hnx, hat⟩ | ⟨hpk, hi0, ⟨k2, t2, hp2, hk2⟩, hat⟩ | ⟨hpk, hnx, hat⟩ | ⟨hpk, ⟨k2, t2, hp2, hk2⟩, hat⟩ | ⟨hpk, hi0, hin, hat⟩ | ⟨hpk, hi0, hin, hat⟩
        . rcases hnx with hnx | ⟨t2, hp2⟩
          . have hnew : P ++ (escS pt ++ [42]) ++ rem2 ps (i + 1) = T := by rw [<- heq, hat]; simp
            have hln := congrArg List.length hnew
            simp only [List.length_append, List.length_cons, List.length_nil] at hln
            repeat' (first | (show G _ (.ops .seq _ (⟨some _, .call { callee := .value (.func 35), args := _, argTypes := _ }, _, _, _, none⟩ :: _) :: _) _ _ _; refine G.call callFWritten rfl rfl (filt_written pt (by omega) _) Ze ?_; rintro _ h4 H4 ⟨rfl, rfl⟩ hle4) | (refine G.atIdx ?_; refine G.idxImm rfl rfl (tyy rfl) (tyy rfl) (s1.mono (by solve | repeat first | assumption | exact Zr _ | refine Zq ?_ Zp)) Zj rfl (by omega) ?_; intro p1 r1 hx1 hp1; (rw [hget] at hx1); (obtain rfl := Option.some.inj hx1)) | (refine G.atCode ?_; first | refine G.seq ?_ | refine G.region ?_ | refine G.block ?_ | refine G.skip ?_ | refine G.ret ?_ | (refine G.cond rfl ?_ ?_ <;> intro hc <;> (try simp only [tests, reduceCtorEq] at hc) <;> (try exact Zf))) | refine G.endOps ?_ | refine G.endBlk ?_ | (refine G.atGd ?_; first | refine G.guardYes rfl rfl ?_ | refine G.guardNoS rfl rfl rfl ?_ | (refine G.guardS rfl rfl rfl ?_ ?_ <;> intro hc <;> (try simp only [tests, reduceCtorEq] at hc) <;> (try exact Zf))) | (refine G.atBin ?_; first | (refine G.atAdd ?_; first | refine G.arith rfl rfl rfl rfl rfl Zi ?_ | refine G.catStr rfl rfl rfl Zo ?_) | (refine G.atSub ?_; first | refine G.arith rfl rfl rfl rfl rfl Zi ?_) | (refine G.atEql ?_; first | refine G.op rfl rfl ?_) | (refine G.atNeq ?_; first | refine G.op rfl rfl ?_) | refine G.op rfl rfl ?_) | refine G.op rfl rfl ?_ | (refine G.atLen ?_; first | refine G.lenStr rfl (tyy rfl) rfl ?_ | refine G.lenSlice rfl (tyy rfl) rfl ?_) | (refine G.atLoad ?_; first | refine G.loadOwn1 rfl (tyy rfl) rfl rfl Za rfl rfl ?_ | refine G.loadImmA rfl (tyy rfl) rfl rfl Zp Zp rfl ?_) | (refine G.atFld ?_; first | refine G.fieldAddr rfl (tyy rfl) rfl rfl ?_) | (refine G.atSto ?_; refine G.storeOwn rfl rfl (tyy rfl) Za rfl rfl rfl rfl ?_) | (refine G.atAlc ?_; refine G.alloc (tyy rfl) rfl rfl ?_; intro _))
            all_goals first
              | (exfalso; omega)
              | exact G.done2 rfl rfl rfl [] (SubH.nil _) ⟨hE _ (by simp only [List.length_append, List.length_cons, List.length_nil] at *; omega), rfl⟩
              | exact G.again ⟨i + 1, P ++ (escS pt ++ [42])⟩ ⟨sint (by simp), rfl, rfl, sstr (by rw [<- hS]; simp), rfl, rfl, trivial⟩ Zu ⟨by simp only; omega, hnew⟩ (by solve | repeat first | assumption | exact Zr _ | refine Zq ?_ Zp) (by simp only; omega)
              | skip
          . have hnew : P ++ (escS pt ++ [42]) ++ rem2 ps (i + 1) = T := by rw [<- heq, hat]; simp
            have hln := congrArg List.length hnew
            simp only [List.length_append, List.length_cons, List.length_nil] at hln
            have hget2 := pcsR_get hp2
            have hlt2 := (List.getElem?_eq_some_iff.1 hp2).1
            repeat' (first | (show G _ (.ops .seq _ (⟨some _, .call { callee := .value (.func 35), args := _, argTypes := _ }, _, _, _, none⟩ :: _) :: _) _ _ _; refine G.call callFWritten rfl rfl (filt_written pt (by omega) _) Ze ?_; rintro _ h4 H4 ⟨rfl, rfl⟩ hle4) | (refine G.atIdx ?_; refine G.idxImm rfl rfl (tyy rfl) (tyy rfl) (s1.mono (by solve | repeat first | assumption | exact Zr _ | refine Zq ?_ Zp)) Zj rfl (by omega) ?_; intro p1 r1 hx1 hp1; (rw [hget] at hx1); (obtain rfl := Option.some.inj hx1)) | (refine G.atIdx ?_; refine G.idxImm rfl rfl (tyy rfl) (tyy rfl) (s1.mono (by solve | repeat first | assumption | exact Zr _ | refine Zq ?_ Zp)) (show ((i : Int) + 1).toNat = i + 1 by omega) rfl (by omega) ?_; intro p2 r2 hx2 hp2; (rw [hget2] at hx2); (obtain rfl := Option.some.inj hx2)) | (refine G.atLoad ?_; refine G.loadImmAt1 rfl (tyy rfl) rfl rfl Zp rfl rfl ?_) | (refine G.atCode ?_; first | refine G.seq ?_ | refine G.region ?_ | refine G.block ?_ | refine G.skip ?_ | refine G.ret ?_ | (refine G.cond rfl ?_ ?_ <;> intro hc <;> (try simp only [tests, reduceCtorEq] at hc) <;> (try exact Zf))) | refine G.endOps ?_ | refine G.endBlk ?_ | (refine G.atGd ?_; first | refine G.guardYes rfl rfl ?_ | refine G.guardNoS rfl rfl rfl ?_ | (refine G.guardS rfl rfl rfl ?_ ?_ <;> intro hc <;> (try simp only [tests, reduceCtorEq] at hc) <;> (try exact Zf))) | (refine G.atBin ?_; first | (refine G.atAdd ?_; first | refine G.arith rfl rfl rfl rfl rfl Zi ?_ | refine G.catStr rfl rfl rfl Zo ?_) | (refine G.atSub ?_; first | refine G.arith rfl rfl rfl rfl rfl Zi ?_) | (refine G.atEql ?_; first | refine G.op rfl rfl ?_) | (refine G.atNeq ?_; first | refine G.op rfl rfl ?_) | refine G.op rfl rfl ?_) | refine G.op rfl rfl ?_ | (refine G.atLen ?_; first | refine G.lenStr rfl (tyy rfl) rfl ?_ | refine G.lenSlice rfl (tyy rfl) rfl ?_) | (refine G.atLoad ?_; first | refine G.loadOwn1 rfl (tyy rfl) rfl rfl Za rfl rfl ?_ | refine G.loadImmA rfl (tyy rfl) rfl rfl Zp Zp rfl ?_) | (refine G.atFld ?_; first | refine G.fieldAddr rfl (tyy rfl) rfl rfl ?_ | refine G.fieldAddrP rfl (tyy rfl) rfl rfl ?_) | (refine G.atSto ?_; refine G.storeOwn rfl rfl (tyy rfl) Za rfl rfl rfl rfl ?_) | (refine G.atAlc ?_; refine G.alloc (tyy rfl) rfl rfl ?_; intro _))
            all_goals first
              | (exfalso; omega)
              | exact G.done2 rfl rfl rfl [] (SubH.nil _) ⟨hE _ (by simp only [List.length_append, List.length_cons, List.length_nil] at *; omega), rfl⟩
              | exact G.again ⟨i + 1, P ++ (escS pt ++ [42])⟩ ⟨sint (by simp), rfl, rfl, sstr (by rw [<- hS]; simp), rfl, rfl, trivial⟩ Zu ⟨by simp only; omega, hnew⟩ (by solve | repeat first | assumption | exact Zr _ | refine Zq ?_ Zp) (by simp only; omega)
              | skip
        . have hnew : P ++ (escS pt) ++ rem2 ps (i + 1) = T := by rw [<- heq, hat]; simp
          have hln := congrArg List.length hnew
          simp only [List.length_append, List.length_cons, List.length_nil] at hln
          have hget2 := pcsR_get hp2
          have hlt2 := (List.getElem?_eq_some_iff.1 hp2).1
          repeat' (first | (show G _ (.ops .seq _ (⟨some _, .call { callee := .value (.func 35), args := _, argTypes := _ }, _, _, _, none⟩ :: _) :: _) _ _ _; refine G.call callFWritten rfl rfl (filt_written pt (by omega) _) Ze ?_; rintro _ h4 H4 ⟨rfl, rfl⟩ hle4) | (refine G.atIdx ?_; refine G.idxImm rfl rfl (tyy rfl) (tyy rfl) (s1.mono (by solve | repeat first | assumption | exact Zr _ | refine Zq ?_ Zp)) Zj rfl (by omega) ?_; intro p1 r1 hx1 hp1; (rw [hget] at hx1); (obtain rfl := Option.some.inj hx1)) | (refine G.atIdx ?_; refine G.idxImm rfl rfl (tyy rfl) (tyy rfl) (s1.mono (by solve | repeat first | assumption | exact Zr _ | refine Zq ?_ Zp)) (show ((i : Int) + 1).toNat = i + 1 by omega) rfl (by omega) ?_; intro p2 r2 hx2 hp2; (rw [hget2] at hx2); (obtain rfl := Option.some.inj hx2)) | (refine G.atLoad ?_; refine G.loadImmAt1 rfl (tyy rfl) rfl rfl Zp rfl rfl ?_) | (refine G.atCode ?_; first | refine G.seq ?_ | refine G.region ?_ | refine G.block ?_ | refine G.skip ?_ | refine G.ret ?_ | (refine G.cond rfl ?_ ?_ <;> intro hc <;> (try simp only [tests, reduceCtorEq] at hc) <;> (try exact Zf))) | refine G.endOps ?_ | refine G.endBlk ?_ | (refine G.atGd ?_; first | refine G.guardYes rfl rfl ?_ | refine G.guardNoS rfl rfl rfl ?_ | (refine G.guardS rfl rfl rfl ?_ ?_ <;> intro hc <;> (try simp only [tests, reduceCtorEq] at hc) <;> (try exact Zf))) | (refine G.atBin ?_; first | (refine G.atAdd ?_; first | refine G.arith rfl rfl rfl rfl rfl Zi ?_ | refine G.catStr rfl rfl rfl Zo ?_) | (refine G.atSub ?_; first | refine G.arith rfl rfl rfl rfl rfl Zi ?_) | (refine G.atEql ?_; first | refine G.op rfl rfl ?_) | (refine G.atNeq ?_; first | refine G.op rfl rfl ?_) | refine G.op rfl rfl ?_) | refine G.op rfl rfl ?_ | (refine G.atLen ?_; first | refine G.lenStr rfl (tyy rfl) rfl ?_ | refine G.lenSlice rfl (tyy rfl) rfl ?_) | (refine G.atLoad ?_; first | refine G.loadOwn1 rfl (tyy rfl) rfl rfl Za rfl rfl ?_ | refine G.loadImmA rfl (tyy rfl) rfl rfl Zp Zp rfl ?_) | (refine G.atFld ?_; first | refine G.fieldAddr rfl (tyy rfl) rfl rfl ?_ | refine G.fieldAddrP rfl (tyy rfl) rfl rfl ?_) | (refine G.atSto ?_; refine G.storeOwn rfl rfl (tyy rfl) Za rfl rfl rfl rfl ?_) | (refine G.atAlc ?_; refine G.alloc (tyy rfl) rfl rfl ?_; intro _))
          all_goals first
            | (exfalso; omega)
            | exact G.done2 rfl rfl rfl [] (SubH.nil _) ⟨hE _ (by simp only [List.length_append, List.length_cons, List.length_nil] at *; omega), rfl⟩
            | exact G.again ⟨i + 1, P ++ (escS pt)⟩ ⟨sint (by simp), rfl, rfl, sstr (by rw [<- hS]; simp), rfl, rfl, trivial⟩ Zu ⟨by simp only; omega, hnew⟩ (by solve | repeat first | assumption | exact Zr _ | refine Zq ?_ Zp) (by simp only; omega)
            | skip
        . rcases hnx with hnx | ⟨t2, hp2⟩
          . have hnew : P ++ ([42] ++ escS pt ++ [42]) ++ rem2 ps (i + 1) = T := by rw [<- heq, hat]; simp
            have hln := congrArg List.length hnew
            simp only [List.length_append, List.length_cons, List.length_nil] at hln
            repeat' (first | (show G _ (.ops .seq _ (⟨some _, .call { callee := .value (.func 35), args := _, argTypes := _ }, _, _, _, none⟩ :: _) :: _) _ _ _; refine G.call callFWritten rfl rfl (filt_written pt (by omega) _) Ze ?_; rintro _ h4 H4 ⟨rfl, rfl⟩ hle4) | (refine G.atIdx ?_; refine G.idxImm rfl rfl (tyy rfl) (tyy rfl) (s1.mono (by solve | repeat first | assumption | exact Zr _ | refine Zq ?_ Zp)) Zj rfl (by omega) ?_; intro p1 r1 hx1 hp1; (rw [hget] at hx1); (obtain rfl := Option.some.inj hx1)) | (refine G.atCode ?_; first | refine G.seq ?_ | refine G.region ?_ | refine G.block ?_ | refine G.skip ?_ | refine G.ret ?_ | (refine G.cond rfl ?_ ?_ <;> intro hc <;> (try simp only [tests, reduceCtorEq] at hc) <;> (try exact Zf))) | refine G.endOps ?_ | refine G.endBlk ?_ | (refine G.atGd ?_; first | refine G.guardYes rfl rfl ?_ | refine G.guardNoS rfl rfl rfl ?_ | refine G.guardU rfl rfl rfl ?_ | (refine G.guardS rfl rfl rfl ?_ ?_ <;> intro hc <;> (try simp only [tests, reduceCtorEq] at hc) <;> (try exact Zf))) | (refine G.atBin ?_; first | (refine G.atAdd ?_; first | refine G.arith rfl rfl rfl rfl rfl Zi ?_ | refine G.catStr rfl rfl rfl Zo ?_) | (refine G.atSub ?_; first | refine G.arith rfl rfl rfl rfl rfl Zi ?_) | (refine G.atEql ?_; first | refine G.op rfl rfl ?_) | (refine G.atNeq ?_; first | refine G.op rfl rfl ?_) | refine G.op rfl rfl ?_) | refine G.op rfl rfl ?_ | (refine G.atLen ?_; first | refine G.lenStr rfl (tyy rfl) rfl ?_ | refine G.lenSlice rfl (tyy rfl) rfl ?_) | (refine G.atLoad ?_; first | refine G.loadOwn1 rfl (tyy rfl) rfl rfl Za rfl rfl ?_ | refine G.loadImmA rfl (tyy rfl) rfl rfl Zp Zp rfl ?_) | (refine G.atFld ?_; first | refine G.fieldAddr rfl (tyy rfl) rfl rfl ?_) | (refine G.atSto ?_; refine G.storeOwn rfl rfl (tyy rfl) Za rfl rfl rfl rfl ?_) | (refine G.atAlc ?_; refine G.alloc (tyy rfl) rfl rfl ?_; intro _))
            all_goals first
              | (exfalso; omega)
              | exact G.done2 rfl rfl rfl [] (SubH.nil _) ⟨hE _ (by simp only [List.length_append, List.length_cons, List.length_nil] at *; omega), rfl⟩
              | exact G.again ⟨i + 1, P ++ ([42] ++ escS pt ++ [42])⟩ ⟨sint (by simp), rfl, rfl, sstr (by rw [<- hS]; simp), rfl, rfl, trivial⟩ Zu ⟨by simp only; omega, hnew⟩ (by solve | repeat first | assumption | exact Zr _ | refine Zq ?_ Zp) (by simp only; omega)
              | skip
          . have hnew : P ++ ([42] ++ escS pt ++ [42]) ++ rem2 ps (i + 1) = T := by rw [<- heq, hat]; simp
            have hln := congrArg List.length hnew
            simp only [List.length_append, List.length_cons, List.length_nil] at hln
            have hget2 := pcsR_get hp2
            have hlt2 := (List.getElem?_eq_some_iff.1 hp2).1
            repeat' (first | (show G _ (.ops .seq _ (⟨some _, .call { callee := .value (.func 35), args := _, argTypes := _ }, _, _, _, none⟩ :: _) :: _) _ _ _; refine G.call callFWritten rfl rfl (filt_written pt (by omega) _) Ze ?_; rintro _ h4 H4 ⟨rfl, rfl⟩ hle4) | (refine G.atIdx ?_; refine G.idxImm rfl rfl (tyy rfl) (tyy rfl) (s1.mono (by solve | repeat first | assumption | exact Zr _ | refine Zq ?_ Zp)) Zj rfl (by omega) ?_; intro p1 r1 hx1 hp1; (rw [hget] at hx1); (obtain rfl := Option.some.inj hx1)) | (refine G.atIdx ?_; refine G.idxImm rfl rfl (tyy rfl) (tyy rfl) (s1.mono (by solve | repeat first | assumption | exact Zr _ | refine Zq ?_ Zp)) (show ((i : Int) + 1).toNat = i + 1 by omega) rfl (by omega) ?_; intro p2 r2 hx2 hp2; (rw [hget2] at hx2); (obtain rfl := Option.some.inj hx2)) | (refine G.atLoad ?_; refine G.loadImmAt1 rfl (tyy rfl) rfl rfl Zp rfl rfl ?_) | (refine G.atCode ?_; first | refine G.seq ?_ | refine G.region ?_ | refine G.block ?_ | refine G.skip ?_ | refine G.ret ?_ | (refine G.cond rfl ?_ ?_ <;> intro hc <;> (try simp only [tests, reduceCtorEq] at hc) <;> (try exact Zf))) | refine G.endOps ?_ | refine G.endBlk ?_ | (refine G.atGd ?_; first | refine G.guardYes rfl rfl ?_ | refine G.guardNoS rfl rfl rfl ?_ | refine G.guardU rfl rfl rfl ?_ | (refine G.guardS rfl rfl rfl ?_ ?_ <;> intro hc <;> (try simp only [tests, reduceCtorEq] at hc) <;> (try exact Zf))) | (refine G.atBin ?_; first | (refine G.atAdd ?_; first | refine G.arith rfl rfl rfl rfl rfl Zi ?_ | refine G.catStr rfl rfl rfl Zo ?_) | (refine G.atSub ?_; first | refine G.arith rfl rfl rfl rfl rfl Zi ?_) | (refine G.atEql ?_; first | refine G.op rfl rfl ?_) | (refine G.atNeq ?_; first | refine G.op rfl rfl ?_) | refine G.op rfl rfl ?_) | refine G.op rfl rfl ?_ | (refine G.atLen ?_; first | refine G.lenStr rfl (tyy rfl) rfl ?_ | refine G.lenSlice rfl (tyy rfl) rfl ?_) | (refine G.atLoad ?_; first | refine G.loadOwn1 rfl (tyy rfl) rfl rfl Za rfl rfl ?_ | refine G.loadImmA rfl (tyy rfl) rfl rfl Zp Zp rfl ?_) | (refine G.atFld ?_; first | refine G.fieldAddr rfl (tyy rfl) rfl rfl ?_ | refine G.fieldAddrP rfl (tyy rfl) rfl rfl ?_) | (refine G.atSto ?_; refine G.storeOwn rfl rfl (tyy rfl) Za rfl rfl rfl rfl ?_) | (refine G.atAlc ?_; refine G.alloc (tyy rfl) rfl rfl ?_; intro _))
            all_goals first
              | (exfalso; omega)
              | exact G.done2 rfl rfl rfl [] (SubH.nil _) ⟨hE _ (by simp only [List.length_append, List.length_cons, List.length_nil] at *; omega), rfl⟩
              | exact G.again ⟨i + 1, P ++ ([42] ++ escS pt ++ [42])⟩ ⟨sint (by simp), rfl, rfl, sstr (by rw [<- hS]; simp), rfl, rfl, trivial⟩ Zu ⟨by simp only; omega, hnew⟩ (by solve | repeat first | assumption | exact Zr _ | refine Zq ?_ Zp) (by simp only; omega)
              | skip
        . have hnew : P ++ ([42] ++ escS pt) ++ rem2 ps (i + 1) = T := by rw [<- heq, hat]; simp
          have hln := congrArg List.length hnew
          simp only [List.length_append, List.length_cons, List.length_nil] at hln
          have hget2 := pcsR_get hp2
          have hlt2 := (List.getElem?_eq_some_iff.1 hp2).1
          repeat' (first | (show G _ (.ops .seq _ (⟨some _, .call { callee := .value (.func 35), args := _, argTypes := _ }, _, _, _, none⟩ :: _) :: _) _ _ _; refine G.call callFWritten rfl rfl (filt_written pt (by omega) _) Ze ?_; rintro _ h4 H4 ⟨rfl, rfl⟩ hle4) | (refine G.atIdx ?_; refine G.idxImm rfl rfl (tyy rfl) (tyy rfl) (s1.mono (by solve | repeat first | assumption | exact Zr _ | refine Zq ?_ Zp)) Zj rfl (by omega) ?_; intro p1 r1 hx1 hp1; (rw [hget] at hx1); (obtain rfl := Option.some.inj hx1)) | (refine G.atIdx ?_; refine G.idxImm rfl rfl (tyy rfl) (tyy rfl) (s1.mono (by solve | repeat first | assumption | exact Zr _ | refine Zq ?_ Zp)) (show ((i : Int) + 1).toNat = i + 1 by omega) rfl (by omega) ?_; intro p2 r2 hx2 hp2; (rw [hget2] at hx2); (obtain rfl := Option.some.inj hx2)) | (refine G.atLoad ?_; refine G.loadImmAt1 rfl (tyy rfl) rfl rfl Zp rfl rfl ?_) | (refine G.atCode ?_; first | refine G.seq ?_ | refine G.region ?_ | refine G.block ?_ | refine G.skip ?_ | refine G.ret ?_ | (refine G.cond rfl ?_ ?_ <;> intro hc <;> (try simp only [tests, reduceCtorEq] at hc) <;> (try exact Zf))) | refine G.endOps ?_ | refine G.endBlk ?_ | (refine G.atGd ?_; first | refine G.guardYes rfl rfl ?_ | refine G.guardNoS rfl rfl rfl ?_ | refine G.guardU rfl rfl rfl ?_ | (refine G.guardS rfl rfl rfl ?_ ?_ <;> intro hc <;> (try simp only [tests, reduceCtorEq] at hc) <;> (try exact Zf))) | (refine G.atBin ?_; first | (refine G.atAdd ?_; first | refine G.arith rfl rfl rfl rfl rfl Zi ?_ | refine G.catStr rfl rfl rfl Zo ?_) | (refine G.atSub ?_; first | refine G.arith rfl rfl rfl rfl rfl Zi ?_) | (refine G.atEql ?_; first | refine G.op rfl rfl ?_) | (refine G.atNeq ?_; first | refine G.op rfl rfl ?_) | refine G.op rfl rfl ?_) | refine G.op rfl rfl ?_ | (refine G.atLen ?_; first | refine G.lenStr rfl (tyy rfl) rfl ?_ | refine G.lenSlice rfl (tyy rfl) rfl ?_) | (refine G.atLoad ?_; first | refine G.loadOwn1 rfl (tyy rfl) rfl rfl Za rfl rfl ?_ | refine G.loadImmA rfl (tyy rfl) rfl rfl Zp Zp rfl ?_) | (refine G.atFld ?_; first | refine G.fieldAddr rfl (tyy rfl) rfl rfl ?_ | refine G.fieldAddrP rfl (tyy rfl) rfl rfl ?_) | (refine G.atSto ?_; refine G.storeOwn rfl rfl (tyy rfl) Za rfl rfl rfl rfl ?_) | (refine G.atAlc ?_; refine G.alloc (tyy rfl) rfl rfl ?_; intro _))
          all_goals first
            | (exfalso; omega)
            | exact G.done2 rfl rfl rfl [] (SubH.nil _) ⟨hE _ (by simp only [List.length_append, List.length_cons, List.length_nil] at *; omega), rfl⟩
            | exact G.again ⟨i + 1, P ++ ([42] ++ escS pt)⟩ ⟨sint (by simp), rfl, rfl, sstr (by rw [<- hS]; simp), rfl, rfl, trivial⟩ Zu ⟨by simp only; omega, hnew⟩ (by solve | repeat first | assumption | exact Zr _ | refine Zq ?_ Zp) (by simp only; omega)
            | skip
        . have hnew : P ++ ([42] ++ escS pt) ++ rem2 ps (i + 1) = T := by rw [<- heq, hat, show rem2 ps (i + 1) = [] by rw [hin]; exact hend]; simp
          have hln := congrArg List.length hnew
          simp only [List.length_append, List.length_cons, List.length_nil] at hln
          repeat' (first | (show G _ (.ops .seq _ (⟨some _, .call { callee := .value (.func 35), args := _, argTypes := _ }, _, _, _, none⟩ :: _) :: _) _ _ _; refine G.call callFWritten rfl rfl (filt_written pt (by omega) _) Ze ?_; rintro _ h4 H4 ⟨rfl, rfl⟩ hle4) | (refine G.atIdx ?_; refine G.idxImm rfl rfl (tyy rfl) (tyy rfl) (s1.mono (by solve | repeat first | assumption | exact Zr _ | refine Zq ?_ Zp)) Zj rfl (by omega) ?_; intro p1 r1 hx1 hp1; (rw [hget] at hx1); (obtain rfl := Option.some.inj hx1)) | (refine G.atCode ?_; first | refine G.seq ?_ | refine G.region ?_ | refine G.block ?_ | refine G.skip ?_ | refine G.ret ?_ | (refine G.cond rfl ?_ ?_ <;> intro hc <;> (try simp only [tests, reduceCtorEq] at hc) <;> (try exact Zf))) | refine G.endOps ?_ | refine G.endBlk ?_ | (refine G.atGd ?_; first | refine G.guardYes rfl rfl ?_ | refine G.guardNoS rfl rfl rfl ?_ | refine G.guardU rfl rfl rfl ?_ | (refine G.guardS rfl rfl rfl ?_ ?_ <;> intro hc <;> (try simp only [tests, reduceCtorEq] at hc) <;> (try exact Zf))) | (refine G.atBin ?_; first | (refine G.atAdd ?_; first | refine G.arith rfl rfl rfl rfl rfl Zi ?_ | refine G.catStr rfl rfl rfl Zo ?_) | (refine G.atEql ?_; first | refine G.op rfl rfl ?_) | (refine G.atNeq ?_; first | refine G.op rfl rfl ?_) | refine G.op rfl rfl ?_) | refine G.op rfl rfl ?_ | (refine G.atLen ?_; first | refine G.lenStr rfl (tyy rfl) rfl ?_) | (refine G.atLoad ?_; first | refine G.loadOwn1 rfl (tyy rfl) rfl rfl Za rfl rfl ?_ | refine G.loadImmA rfl (tyy rfl) rfl rfl Zp Zp rfl ?_) | (refine G.atFld ?_; first | refine G.fieldAddr rfl (tyy rfl) rfl rfl ?_) | (refine G.atSto ?_; refine G.storeOwn rfl rfl (tyy rfl) Za rfl rfl rfl rfl ?_) | (refine G.atAlc ?_; refine G.alloc (tyy rfl) rfl rfl ?_; intro _))
          all_goals first
            | (exfalso; omega)
            | exact G.done2 rfl rfl rfl [] (SubH.nil _) ⟨hE _ (by simp only [List.length_append, List.length_cons, List.length_nil] at *; omega), rfl⟩
            | exact G.again ⟨i + 1, P ++ ([42] ++ escS pt)⟩ ⟨sint (by simp), rfl, rfl, sstr (by rw [<- hS]; simp), rfl, rfl, trivial⟩ Zu ⟨by simp only; omega, hnew⟩ (by solve | repeat first | assumption | exact Zr _ | refine Zq ?_ Zp) (by simp only; omega)
            | skip
        . have hnew : P ++ (escS pt) ++ rem2 ps (i + 1) = T := by rw [<- heq, hat, show rem2 ps (i + 1) = [] by rw [hin]; exact hend]; simp
          have hln := congrArg List.length hnew
          simp only [List.length_append, List.length_cons, List.length_nil] at hln
          repeat' (first | (show G _ (.ops .seq _ (⟨some _, .call { callee := .value (.func 35), args := _, argTypes := _ }, _, _, _, none⟩ :: _) :: _) _ _ _; refine G.call callFWritten rfl rfl (filt_written pt (by omega) _) Ze ?_; rintro _ h4 H4 ⟨rfl, rfl⟩ hle4) | (refine G.atIdx ?_; refine G.idxImm rfl rfl (tyy rfl) (tyy rfl) (s1.mono (by solve | repeat first | assumption | exact Zr _ | refine Zq ?_ Zp)) Zj rfl (by omega) ?_; intro p1 r1 hx1 hp1; (rw [hget] at hx1); (obtain rfl := Option.some.inj hx1)) | (refine G.atCode ?_; first | refine G.seq ?_ | refine G.region ?_ | refine G.block ?_ | refine G.skip ?_ | refine G.ret ?_ | (refine G.cond rfl ?_ ?_ <;> intro hc <;> (try simp only [tests, reduceCtorEq] at hc) <;> (try exact Zf))) | refine G.endOps ?_ | refine G.endBlk ?_ | (refine G.atGd ?_; first | refine G.guardYes rfl rfl ?_ | refine G.guardNoS rfl rfl rfl ?_ | refine G.guardU rfl rfl rfl ?_ | (refine G.guardS rfl rfl rfl ?_ ?_ <;> intro hc <;> (try simp only [tests, reduceCtorEq] at hc) <;> (try exact Zf))) | (refine G.atBin ?_; first | (refine G.atAdd ?_; first | refine G.arith rfl rfl rfl rfl rfl Zi ?_ | refine G.catStr rfl rfl rfl Zo ?_) | (refine G.atEql ?_; first | refine G.op rfl rfl ?_) | (refine G.atNeq ?_; first | refine G.op rfl rfl ?_) | refine G.op rfl rfl ?_) | refine G.op rfl rfl ?_ | (refine G.atLen ?_; first | refine G.lenStr rfl (tyy rfl) rfl ?_) | (refine G.atLoad ?_; first | refine G.loadOwn1 rfl (tyy rfl) rfl rfl Za rfl rfl ?_ | refine G.loadImmA rfl (tyy rfl) rfl rfl Zp Zp rfl ?_) | (refine G.atFld ?_; first | refine G.fieldAddr rfl (tyy rfl) rfl rfl ?_) | (refine G.atSto ?_; refine G.storeOwn rfl rfl (tyy rfl) Za rfl rfl rfl rfl ?_) | (refine G.atAlc ?_; refine G.alloc (tyy rfl) rfl rfl ?_; intro _))
          all_goals first
            | (exfalso; omega)
            | exact G.done2 rfl rfl rfl [] (SubH.nil _) ⟨hE _ (by simp only [List.length_append, List.length_cons, List.length_nil] at *; omega), rfl⟩
            | exact G.again ⟨i + 1, P ++ (escS pt)⟩ ⟨sint (by simp), rfl, rfl, sstr (by rw [<- hS]; simp), rfl, rfl, trivial⟩ Zu ⟨by simp only; omega, hnew⟩ (by solve | repeat first | assumption | exact Zr _ | refine Zq ?_ Zp) (by simp only; omega)
            | skip
      . obtain rfl : i = ps.length := by omega
        rw [hend, List.append_nil] at heq
        repeat' (first | (refine G.atCode ?_; first | refine G.seq ?_ | refine G.region ?_ | refine G.exit rfl ?_ | refine G.ret ?_ | (refine G.cond rfl ?_ ?_ <;> intro hc <;> (try simp only [tests, reduceCtorEq] at hc) <;> (try exact Zf))) | refine G.endOps ?_ | refine G.endBlk ?_ | (refine G.atBin ?_; first | (refine G.atAdd ?_; first | refine G.catStr rfl rfl rfl Zo ?_) | refine G.op rfl rfl ?_) | refine G.op rfl rfl ?_ | (refine G.atLen ?_; first | refine G.lenStr rfl (tyy rfl) rfl ?_))
        all_goals first | (exfalso; omega) | exact G.done2 rfl rfl rfl [] (SubH.nil _) ⟨TxR_end (hF P heq), rfl⟩ | skip
    . rw [if_neg h4] at hm2 ⊢
      simp only [List.length_cons, List.length_append, List.length_nil] at hm2
      have hE : ∀ most : Int, ¬ (((2 + a.length + (sgT k).length + (escS v).length : Nat) : Int) <= most) -> TxR (.tuple #[str [], .bool false]) most (40 :: (a ++ (sgT k ++ escS v) ++ [41])) := fun m hm => TxR_no (by simp only [List.length_cons, List.length_append, List.length_nil]; omega)
      obtain ⟨j0, hj4, hjk, hjs⟩ : ∃ j, j < 4 /\ kdS j = k /\ sgS j = sgT k := by
        rcases (show k = 3 \/ k = 5 \/ k = 6 \/ k = 8 by omega) with rfl | rfl | rfl | rfl
        . exact ⟨0, by omega, rfl, rfl⟩
        . exact ⟨1, by omega, rfl, rfl⟩
        . exact ⟨2, by omega, rfl, rfl⟩
        . exact ⟨3, by omega, rfl, rfl⟩
      have hsgl := sgT_len k
      by_cases hvm : most < v.length
      . refine Spec.enter Tryd.func23 rfl rfl ?_; intro w0
        repeat' (first | (refine G.atCode ?_; first | refine G.seq ?_ | refine G.region ?_ | refine G.block ?_ | refine G.ret ?_ | (refine G.cond rfl ?_ ?_ <;> intro hc <;> (try simp only [tests, reduceCtorEq] at hc) <;> (try exact Zf))) | refine G.endOps ?_ | (refine G.atBin ?_; first | (refine G.atEql ?_; first | refine G.op rfl rfl ?_) | refine G.op rfl rfl ?_) | refine G.op rfl rfl ?_ | (refine G.atLen ?_; first | refine G.lenStr rfl (tyy rfl) rfl ?_) | (refine G.atLoad ?_; first | refine G.loadOwn1 rfl (tyy rfl) rfl rfl Za rfl rfl ?_) | (refine G.atFld ?_; first | refine G.fieldAddr rfl (tyy rfl) rfl rfl ?_) | (refine G.atBox ?_; refine G.box rfl rfl rfl ?_; intro _))
        all_goals first | (exfalso; omega) | exact G.done2 rfl rfl rfl [] (SubH.nil _) ⟨hE _ (by omega), rfl⟩ | skip
      have hkn : ∀ i, i < 4 -> nthV kindsC i = some (.int .i64 (kdS i)) := fun i hi => by rcases four hi with rfl | rfl | rfl | rfl <;> rfl
      have hsp : ∀ i, i < 4 -> partL signsC (i * 1) 1 = some [str (sgS i)] := fun i hi => by rcases four hi with rfl | rfl | rfl | rfl <;> rfl
      have hinj : ∀ i, i < 4 -> (kdS i = k ↔ i = j0) := fun i hi => by rcases four hi with rfl | rfl | rfl | rfl <;> rcases four hj4 with rfl | rfl | rfl | rfl <;> simp [kdS] at hjk ⊢ <;> omega
      refine Spec.enter Tryd.func23 rfl rfl ?_; intro w0
      repeat' (first | (refine G.atLoad ?_; refine G.loadImmA rfl (tyy rfl) rfl rfl (hT.mono (by solve | repeat first | assumption | exact Zr _ | refine Zq ?_ Zp)).1 rfl rfl ?_) | (refine G.atCode ?_; refine G.stopLoop ?_) | (refine G.atCode ?_; first | refine G.seq ?_ | refine G.region ?_ | refine G.block ?_ | refine G.skip ?_ | (refine G.cond rfl ?_ ?_ <;> intro hc <;> (try simp only [tests, reduceCtorEq] at hc) <;> (try exact Zf))) | refine G.endOps ?_ | (refine G.atBin ?_; first | (refine G.atEql ?_; first | refine G.op rfl rfl ?_) | refine G.op rfl rfl ?_) | refine G.op rfl rfl ?_ | (refine G.atLen ?_; first | refine G.lenStr rfl (tyy rfl) rfl ?_) | (refine G.atLoad ?_; first | refine G.loadOwn1 rfl (tyy rfl) rfl rfl Za rfl rfl ?_) | (refine G.atFld ?_; first | refine G.fieldAddr rfl (tyy rfl) rfl rfl ?_) | (refine G.atBox ?_; refine G.box rfl rfl rfl ?_; intro _))
      all_goals first | (exfalso; omega) | skip
      rename_i gb _ _ _ _ _
      refine G.go ?_
      refine G.loop (σ := Nat) (fun i => [(23, .int .i64 i), (22, .agg kindsC.toArray), (6, str (if j0 < i then [40] ++ (a ++ sgS j0 ++ escS v) else [40])), (1, .int .i64 most), (2, .pointer (some ⟨gb, 0, none⟩))])
        (fun _ => [.blk gb [.int .i64 k, str a, str v, .slice A ps.length c, .slice B ks.length d] 25])
        (fun i _ => i <= 4) (fun i => 4 - i) 0 ⟨rfl, rfl, sstr (by rw [if_neg (by omega)]), rfl, rfl, trivial⟩ Zu (Nat.zero_le _) ?_
      rintro i h1 hle1 hi
      by_cases hlt : i < 4
      . have hn1 := hkn i hlt
        have hn2 := hsp i hlt
        have hn3 := hinj i hlt
        have hgl := sgS_len i
        by_cases hj : i = j0
        . subst hj
          rw [if_neg (by omega)]
          repeat' (first | (refine G.idxArr rfl rfl (tyy rfl) (tyy rfl) rfl rfl Zj hn1 rfl Zo ?_) | (show G _ (.ops .seq _ (⟨some _, .call { callee := .value (.func 35), args := _, argTypes := _ }, _, _, _, none⟩ :: _) :: _) _ _ _; refine G.call callFWritten rfl rfl (filt_written v (by omega) _) Ze ?_; rintro _ h4 H4 ⟨rfl, rfl⟩ hle4) | (refine G.atIdx ?_; refine G.idxArrP rfl rfl (tyy rfl) (tyy rfl) Zj rfl Zo ?_) | (refine G.atLoad ?_; refine G.loadImmAt1 rfl (tyy rfl) rfl rfl (hT.mono (by solve | repeat first | assumption | exact Zr _ | refine Zq ?_ Zp)).2 hn2 rfl ?_) | (refine G.atCode ?_; first | refine G.seq ?_ | refine G.region ?_ | refine G.block ?_ | refine G.skip ?_ | refine G.anyIn mixedOk ?_ | (refine G.cond rfl ?_ ?_ <;> intro hc <;> (try simp only [tests, reduceCtorEq] at hc) <;> (try exact Zf))) | refine G.endOps ?_ | refine G.endHeld ?_ | refine G.back ?_ | refine G.endBlk ?_ | (refine G.atAny ?_; first | refine G.anyAutoX slB rfl rfl Zw Zg Zd ?_ | refine G.anyOne rfl Zw Zg Zu ?_ | refine G.anyEndX Zw ?_) | (refine G.atBin ?_; first | (refine G.atAdd ?_; first | refine G.arith rfl rfl rfl rfl rfl Zi ?_ | refine G.catStr rfl rfl rfl Zo ?_) | (refine G.atEql ?_; first | refine G.op rfl rfl ?_) | refine G.op rfl rfl ?_) | refine G.op rfl rfl ?_ | (refine G.atLoad ?_; first | refine G.loadOwn1 rfl (tyy rfl) rfl rfl Za rfl rfl ?_) | (refine G.atFld ?_; first | refine G.fieldAddr rfl (tyy rfl) rfl rfl ?_))
          all_goals first
            | (exfalso; omega)
            | exact G.again (i + 1) ⟨sint (by simp), rfl, sstr (by rw [if_pos (by omega)]), rfl, rfl, trivial⟩ Zu (by omega) (by solve | repeat first | assumption | exact Zr _ | refine Zq ?_ Zp) (by omega)
            | skip
        . have hif : (if j0 < i then [40] ++ (a ++ sgS j0 ++ escS v) else [40]) = (if j0 < i + 1 then [40] ++ (a ++ sgS j0 ++ escS v) else [40]) := by
            by_cases h9 : j0 < i
            . rw [if_pos h9, if_pos (by omega)]
            . rw [if_neg h9, if_neg (by omega)]
          have hnk : ¬ kdS i = k := fun e => hj (hn3.1 e)
          repeat' (first | (refine G.idxArr rfl rfl (tyy rfl) (tyy rfl) rfl rfl Zj hn1 rfl Zo ?_) | (refine G.atCode ?_; first | refine G.seq ?_ | refine G.region ?_ | refine G.block ?_ | refine G.skip ?_ | (refine G.cond rfl ?_ ?_ <;> intro hc <;> (try simp only [tests, reduceCtorEq] at hc) <;> (try exact Zf))) | refine G.endOps ?_ | refine G.endBlk ?_ | (refine G.atBin ?_; first | (refine G.atAdd ?_; first | refine G.arith rfl rfl rfl rfl rfl Zi ?_) | (refine G.atEql ?_; first | refine G.op rfl rfl ?_) | refine G.op rfl rfl ?_) | refine G.op rfl rfl ?_ | (refine G.atLoad ?_; first | refine G.loadOwn1 rfl (tyy rfl) rfl rfl Za rfl rfl ?_) | (refine G.atFld ?_; first | refine G.fieldAddr rfl (tyy rfl) rfl rfl ?_))
          all_goals first
            | (exfalso; omega)
            | exact G.again (i + 1) ⟨sint (by simp), rfl, sstr hif, rfl, rfl, trivial⟩ Zu (by omega) (by solve | repeat first | assumption | exact Zr _ | refine Zq ?_ Zp) (by omega)
            | skip
      . obtain rfl : i = 4 := by omega
        rw [if_pos hj4, hjs]
        repeat' (first | (refine G.atCode ?_; first | refine G.seq ?_ | refine G.region ?_ | refine G.exit rfl ?_ | refine G.ret ?_ | (refine G.cond rfl ?_ ?_ <;> intro hc <;> (try simp only [tests, reduceCtorEq] at hc) <;> (try exact Zf))) | refine G.endOps ?_ | refine G.endBlk ?_ | (refine G.atBin ?_; first | (refine G.atAdd ?_; first | refine G.catStr rfl rfl rfl Zo ?_) | refine G.op rfl rfl ?_) | refine G.op rfl rfl ?_ | (refine G.atLen ?_; first | refine G.lenStr rfl (tyy rfl) rfl ?_))
        all_goals first | (exfalso; omega) | exact G.done2 rfl rfl rfl [] (SubH.nil _) ⟨TxR_end (by simp), rfl⟩ | skip
end Go.Proofs.YtcghcdnmpjhifaaDoor
