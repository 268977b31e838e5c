/- wire.asked: a filter's element. -/
import Derived.Test.YtibkffoeioidlaaDoorWrP
import Derived.Test.YtibkffoeioidlaaDoorWrJ
namespace Go.Proofs.YtibkffoeioidlaaDoor
set_option linter.all false
set_option maxRecDepth 4000
open Go.RowKit

theorem asksM_app : ∀ (a b : List Fl) (n : Nat), asksM n (a ++ b) = match asksM n a with
    | none => none
    | some m => asksM m b
  | [], b, n => by rw [List.nil_append, asksM]
  | k :: a, b, n => by
    rw [List.cons_append, asksM, asksM]
    cases askM n k with
    | none => rfl
    | some m => exact asksM_app a b m
theorem asks_stop {ks : List Fl} {i : Nat} {k : Fl} (hk : ks[i]? = some k) {n m : Nat} (h1 : asksM n (ks.take i) = some m) (h2 : askM m k = none) : asksM n ks = none := by
  have hi := (List.getElem?_eq_some_iff.1 hk).1
  have e : ks = ks.take i ++ (k :: ks.drop (i + 1)) := by
    rw [<- (List.getElem?_eq_some_iff.1 hk).2, ← List.drop_eq_getElem_cons hi, List.take_append_drop]
  rw [e, asksM_app, h1]
  simp only
  rw [asksM, h2]
theorem asks_step {ks : List Fl} {i : Nat} {k : Fl} (hk : ks[i]? = some k) {n m q : Nat} (h1 : asksM n (ks.take i) = some m) (h2 : askM m k = some q) : asksM n (ks.take (i + 1)) = some q := by
  rw [take_get hk, asksM_app, h1]
  simp only
  rw [asksM, h2]
  simp only
  rw [asksM]
mutual
theorem ask_le : ∀ (f : Fl) (n m : Nat), askM n f = some m -> m <= 1000
  | .mk k a v ps ks, n, m, h => by
    rw [askM] at h
    split at h
    . cases h
    rename_i h1
    split at h
    . have := asks_le ks (n + 1) m h
      omega
    . injection h with h; omega
theorem asks_le : ∀ (l : List Fl) (n m : Nat), asksM n l = some m -> m <= 1000 \/ m = n
  | [], n, m, h => by rw [asksM] at h; injection h with h; omega
  | k :: ks, n, m, h => by
    rw [asksM] at h
    split at h
    . cases h
    . rename_i q hq
      have a1 := ask_le k n q hq
      have a2 := asks_le ks q m h
      omega
end
def AsR (gc W : Nat) (o : Option Nat) (nd : Nd) (u : Value) (h' : Heap) (H' : List Chunk) : Prop := ∃ (t : Int) (d : Bs) (A : Option Addr) (m c n' : Nat) (b : Bool) (nd' : Nd),
  u = .tuple #[.agg #[.int .i64 t, str d, .slice A m c], .bool b] /\ H' = [.blk gc [.int .i64 n'] 3] /\ nd'.wt <= 4 * W + 10 /\ NodeC h' nd' [.int .i64 t, str d, .slice A m c] /\ ((b = true /\ o = some n' /\ nd' = nd) \/ (b = false /\ o = none))
theorem AsR.no {gc W : Nat} {o : Option Nat} {nd : Nd} {h' : Heap} {n' : Nat} (ho : o = none) : AsR gc W o nd (.tuple #[.agg #[.int .i64 0, str [], .slice none 0 0], .bool false]) h' [.blk gc [.int .i64 n'] 3] :=
  ⟨0, [], none, 0, 0, n', false, zN, rfl, rfl, by simp only [zN, Nd.wt, wts, List.length_nil]; omega, zN_C _, .inr ⟨rfl, ho⟩⟩
theorem AsR.ok {gc W : Nat} {o : Option Nat} {nd : Nd} {h' : Heap} {t : Int} {d : Bs} {A : Option Addr} {m c n' : Nat} (ho : o = some n') (hw : nd.wt <= 4 * W + 10) (hn : NodeC h' nd [.int .i64 t, str d, .slice A m c]) : AsR gc W o nd (.tuple #[.agg #[.int .i64 t, str d, .slice A m c], .bool true]) h' [.blk gc [.int .i64 n'] 3] :=
  ⟨t, d, A, m, c, n', true, nd, rfl, rfl, hw, hn, .inl ⟨rfl, ho, rfl⟩⟩
theorem AsR.ofB {gc W : Nat} {o : Option Nat} {nd nd' : Nd} {h' : Heap} {t : Int} {d : Bs} {A : Option Addr} {m c n' : Nat} (P : Bool) (ho : o = if P = true then some n' else none) (hw : nd'.wt <= 4 * W + 10) (hn : NodeC h' nd' [.int .i64 t, str d, .slice A m c]) (he : P = true -> nd' = nd) : AsR gc W o nd (.tuple #[.agg #[.int .i64 t, str d, .slice A m c], .bool P]) h' [.blk gc [.int .i64 n'] 3] := by
  cases P with
  | true => obtain rfl := he rfl; exact AsR.ok (by rw [ho, if_pos rfl]) hw hn
  | false => exact ⟨t, d, A, m, c, n', false, nd', rfl, rfl, hw, hn, .inr ⟨rfl, by rw [ho, if_neg Bool.false_ne_true]⟩⟩
def clampK (k : Int) : Int := max 0 (min k 2)
def pcsL (ps : Pcs) : List Nd := ps.map fun p => lfN (128 + clampK p.1) p.2
def pcsLC (ps : Pcs) : List (List Value) := ps.map fun p => lfC (128 + clampK p.1) p.2
theorem pcsLC_len (ps : Pcs) : (pcsLC ps).length = ps.length := by simp [pcsLC]
theorem pcsL_len (ps : Pcs) : (pcsL ps).length = ps.length := by simp [pcsL]
theorem pcsL_C (h : Heap) : ∀ ps : Pcs, KidsC h (pcsL ps) (pcsLC ps)
  | [] => by simp [pcsL, pcsLC, KidsC]
  | p :: ps => by
    have ih := pcsL_C h ps
    unfold pcsL pcsLC at *
    simp only [List.map_cons, KidsC]
    exact ⟨_, _, rfl, lf_C h _ _, ih⟩
theorem pcsL_wt : ∀ ps : Pcs, wts (pcsL ps) <= pcW ps
  | [] => by simp [pcsL, wts]
  | (k, t) :: ps => by
    have := pcsL_wt ps
    unfold pcsL at *
    simp only [List.map_cons, wts, wt_lf, pcW]; omega
theorem pcsL_ok {ps : Pcs} (h : pcsOk ps = true) : pcsL ps = pcsN ps := by
  have hk : ∀ p ∈ ps, 0 <= p.1 /\ p.1 <= 2 := by
    intro p hp
    unfold pcsOk at h
    rw [Bool.and_eq_true] at h
    exact pcs_kind _ _ h.2 p hp
  unfold pcsL pcsN
  refine List.map_congr_left fun p hp => ?_
  have := hk p hp
  rw [show clampK p.1 = p.1 by unfold clampK; omega]
theorem seq_node {h : Heap} {t : Int} {ks : List Nd} {A : Option Addr} {c : Nat} (hk : KsC h ks (.slice A ks.length c)) : NodeC h (sqN t ks) [.int .i64 t, str [], .slice A ks.length c] := by
  obtain ⟨rows, s, k⟩ := hk
  exact NodeC.mk_ s k
set_option maxRecDepth 8000 in
set_option maxHeartbeats 4000000 in
theorem wire_asked : ∀ (q : Nat) (f : Fl), f.sz <= q -> f.wt <= 100000000 -> ∀ (n : Nat), n <= 1000 -> ∀ (gc : Nat) (r : List Value) (h : Heap), FlC h f r →
    Spec Tryd.prog 72 [.agg r.toArray, .pointer (some ⟨gc, 0, none⟩)] h [.blk gc [.int .i64 n] 3] (fun u h' H' => AsR gc f.wt (askM n f) (flN f) u h' H')
  | 0, .mk _ _ _ _ _, hq, _, _, _, _, _, _, _ => by simp only [Fl.sz] at hq; omega
  | q + 1, f, hq, hw, n, hn, gc, r, h, hf => by
    have ih := wire_asked q
    obtain ⟨k, a, v, ps, ks, A, c, B, d, rowa, rfl, rfl, sp, sa, ka, la⟩ := hf.box
    have lp := pcsR_length ps
    have hpl := pcW_len ps
    have hkl := flwt_len ks
    have hwt : 1 + a.length + v.length + pcW ps + flwt ks <= 100000000 := by simpa only [Fl.wt] using hw
    clear hf
    rw [askM, flN]
    by_cases h1 : 1000 < n + 1
    . rw [if_pos (.inl h1)]
      refine Spec.enter Tryd.func72 rfl rfl ?_; intro w0
      repeat' (first | (refine G.atCode ?_; first | refine G.seq ?_ | refine G.region ?_ | refine G.ret ?_ | (refine G.cond rfl ?_ ?_ <;> intro hc <;> (try simp only [tests, reduceCtorEq] at hc) <;> (try exact Zf))) | refine G.endOps ?_ | (refine G.atBin ?_; first | (refine G.atAdd ?_; first | refine G.arith rfl rfl rfl rfl rfl Zi ?_) | refine G.op rfl rfl ?_) | refine G.op rfl rfl ?_ | (refine G.atLoad ?_; first | refine G.loadOwn1 rfl (tyy rfl) rfl rfl Za rfl rfl ?_) | (refine G.atSto ?_; refine G.storeOwn rfl rfl (tyy rfl) Za rfl rfl rfl rfl ?_) | (refine G.atAlc ?_; refine G.alloc (tyy rfl) rfl rfl ?_; intro _) | (refine G.atBox ?_; refine G.box rfl rfl rfl ?_; intro _) | (refine G.atBld ?_; refine G.build (tyy rfl) rfl rfl rfl ?_))
      all_goals first | (exfalso; omega) | exact G.done (rs := [.cell 4 90, .tmp 5]) rfl (.cellA rfl (tyy rfl) rfl rfl Za rfl (.tmp rfl .nil)) rfl [.blk gc _ 3] Zu (AsR.no rfl) | skip
    by_cases h8 : k < 0 \/ 8 < k
    . rw [if_pos (by rcases h8 with h8 | h8; exact .inr (.inl h8); exact .inr (.inr (.inl h8)))]
      refine Spec.enter Tryd.func72 rfl rfl ?_; intro w0
      repeat' (first | (refine G.atCode ?_; first | refine G.seq ?_ | refine G.region ?_ | refine G.block ?_ | refine G.skip ?_ | refine G.ret ?_ | (refine G.cond rfl ?_ ?_ <;> intro hc <;> (try simp only [tests, reduceCtorEq] at hc) <;> (try exact Zf))) | refine G.endOps ?_ | refine G.endBlk ?_ | (refine G.atBin ?_; first | (refine G.atAdd ?_; first | refine G.arith rfl rfl rfl rfl rfl Zi ?_) | (refine G.atEql ?_; first | refine G.op rfl rfl ?_) | refine G.op rfl rfl ?_) | refine G.op rfl rfl ?_ | (refine G.atLoad ?_; first | refine G.loadOwn1 rfl (tyy rfl) rfl rfl Za rfl rfl ?_) | (refine G.atFld ?_; first | refine G.fieldAddr rfl (tyy rfl) rfl rfl ?_) | (refine G.atSto ?_; refine G.storeOwn rfl rfl (tyy rfl) Za rfl rfl rfl rfl ?_) | (refine G.atAlc ?_; refine G.alloc (tyy rfl) rfl rfl ?_; intro _) | (refine G.atBox ?_; refine G.box rfl rfl rfl ?_; intro _) | (refine G.atBld ?_; refine G.build (tyy rfl) rfl rfl rfl ?_))
      all_goals first | (exfalso; omega) | exact G.done (rs := [.cell 4 90, .tmp 5]) rfl (.cellA rfl (tyy rfl) rfl rfl Za rfl (.tmp rfl .nil)) rfl [.blk gc _ 3] Zu (AsR.no rfl) | skip
    by_cases h3 : k < 3
    . have hres : (if 1000 < n + 1 \/ k < 0 \/ 8 < k \/ (k = 2 /\ ks.length ≠ 1) \/ (k = 4 /\ pcsOk ps = false) then none else if k < 3 then asksM (n + 1) ks else some (n + 1)) = if k = 2 /\ ks.length ≠ 1 then none else asksM (n + 1) ks := by
        by_cases hc : k = 2 /\ ks.length ≠ 1
        . rw [if_pos (.inr (.inr (.inr (.inl hc)))), if_pos hc]
        . rw [if_neg (by rintro (q | q | q | q | ⟨q, _⟩) <;> first | omega | exact hc q), if_pos h3, if_neg hc]
      rw [hres, if_neg (show ¬ k = 7 by omega), if_pos h3]
      clear hres
      refine Spec.enter Tryd.func72 rfl rfl ?_; intro w0
      repeat' (first | (refine G.atCode ?_; first | refine G.stopB 0 ?_) | (refine G.atCode ?_; first | refine G.seq ?_ | refine G.region ?_ | refine G.skip ?_ | (refine G.cond rfl ?_ ?_ <;> intro hc <;> (try simp only [tests, reduceCtorEq] at hc) <;> (try exact Zf))) | refine G.endOps ?_ | (refine G.atBin ?_; first | (refine G.atAdd ?_; first | refine G.arith rfl rfl rfl rfl rfl Zi ?_) | refine G.op rfl rfl ?_) | refine G.op rfl rfl ?_ | (refine G.atLoad ?_; first | refine G.loadOwn1 rfl (tyy rfl) rfl rfl Za rfl rfl ?_) | (refine G.atFld ?_; first | refine G.fieldAddr rfl (tyy rfl) rfl rfl ?_) | (refine G.atSto ?_; refine G.storeOwn rfl rfl (tyy rfl) Za rfl rfl rfl rfl ?_) | (refine G.atAlc ?_; refine G.alloc (tyy rfl) rfl rfl ?_; intro _) | (refine G.atBox ?_; refine G.box rfl rfl rfl ?_; intro _))
      all_goals first | (exfalso; omega) | skip
      rename_i g2 g4
      refine G.go ?_
      repeat' (first | (refine G.atCode ?_; refine G.stopLoop ?_) | (refine G.atCode ?_; first | refine G.seq ?_ | refine G.region ?_ | refine G.block ?_ | refine G.skip ?_ | (refine G.cond rfl ?_ ?_ <;> intro hc <;> (try simp only [tests, reduceCtorEq] at hc) <;> (try exact Zf))) | refine G.endOps ?_ | (refine G.atBin ?_; first | (refine G.atEql ?_; first | refine G.op rfl rfl ?_)) | refine G.op rfl rfl ?_ | (refine G.atLen ?_; first | refine G.lenSlice rfl (tyy rfl) rfl ?_) | (refine G.atLoad ?_; first | refine G.loadOwn1 rfl (tyy rfl) rfl rfl Za rfl rfl ?_) | (refine G.atFld ?_; first | refine G.fieldAddr rfl (tyy rfl) rfl rfl ?_))
      all_goals first | (exfalso; omega) | skip
      all_goals
        refine G.nilRow 90 3 ?_
        refine G.go ?_
        refine G.loop (σ := Nat × Nat × List (List Value) × Option Addr × Nat) (fun x => [(32, .int .i64 x.1), (31, .int .i64 ks.length), (30, .slice B ks.length d), (6, .slice x.2.2.2.1 x.2.2.1.length x.2.2.2.2), (4, .pointer (some ⟨g4, 0, none⟩)), (2, .pointer (some ⟨g2, 0, none⟩)), (1, .pointer (some ⟨gc, 0, none⟩))])
          (fun x => [.blk gc [.int .i64 x.2.1] 3, .blk g4 [.int .i64 0, str [], .slice none 0 0] 90, .blk g2 [.int .i64 k, str a, str v, .slice A ps.length c, .slice B ks.length d] 45, .row (.slice x.2.2.2.1 x.2.2.1.length x.2.2.2.2) 90 3 x.2.2.1])
          (fun x h' => x.1 <= ks.length /\ x.2.2.1.length = x.1 /\ x.2.1 <= 1000 /\ asksM (n + 1) (ks.take x.1) = some x.2.1 /\ KidsC h' (flsN (ks.take x.1)) x.2.2.1) (fun x => ks.length - x.1) ⟨0, n + 1, [], none, 0⟩ ⟨rfl, rfl, rfl, rfl, rfl, rfl, rfl, trivial⟩ Zu ⟨Nat.zero_le _, rfl, by simp only; omega, by simp only [List.take_zero]; rw [asksM], by simp only [List.take_zero, flsN, KidsC]⟩ ?_
        rintro ⟨i, m, rws, A1, c1⟩ h5 hle5 ⟨hi, hil, hm, hrd, hik⟩
        simp only at hi hil hm hrd hik
        refine G.norm (by (try dsimp only) <;> exact rfl) (by (try dsimp only) <;> exact rfl) ?_
        by_cases hlt : i < ks.length
        . obtain ⟨x, hk⟩ : ∃ x, ks[i]? = some x := ⟨ks[i], List.getElem?_eq_getElem hlt⟩
          obtain ⟨q1, e1, n1⟩ := ka.get hk
          have n1 := n1.mono' hle5
          have hfs := flsz_kid (k := k) (a := a) (v := v) (ps := ps) hk
          have hfw := flwt_kid (k := k) (a := a) (v := v) (ps := ps) hk
          have t1 : HSl h5 (.slice B ks.length d) 5 rowa := sa.mono hle5
          have hcall := ih x (by omega) (by omega) m hm gc q1 h5 n1
          obtain ⟨k9, a9, v9, A9, m9, q9, B9, p9, r9, rfl⟩ := n1.shp
          have l1 : ([.int .i64 k9, str a9, str v9, .slice A9 m9 q9, .slice B9 p9 r9] : List Value).length = 5 := rfl
          repeat' (first | (refine G.atIdx ?_; refine G.idxImm rfl rfl (tyy rfl) (tyy rfl) t1 Zj rfl (by omega) ?_; intro p1 r1 hx1 hp1; (rw [e1] at hx1); (obtain rfl := Option.some.inj hx1)) | (show G _ (.ops .seq _ (⟨some _, .call { callee := .value (.func 72), args := _, argTypes := _ }, _, _, _, none⟩ :: _) :: _) _ _ _; refine G.call callAsked rfl rfl hcall Ze ?_; rintro _ h4 H4 ⟨t9, d9, A8, m8, c8, n9, b9, nd9, rfl, rfl, hw9, hf9, ⟨rfl, ho9, rfl⟩ | ⟨rfl, ho9⟩⟩ hle4) | (refine G.atApp ?_; refine G.append1 rfl rfl (tyy rfl) (tyy rfl) rfl rfl Za Za rfl rfl rfl Zo ?_; intro _; refine G.rowForm Take.hd ?_; rintro _ _ rfl) | (refine G.atCode ?_; first | refine G.seq ?_ | refine G.region ?_ | refine G.block ?_ | refine G.skip ?_ | refine G.ret ?_ | (refine G.cond rfl ?_ ?_ <;> intro hc <;> (try simp only [tests, reduceCtorEq] at hc) <;> (try exact Zf))) | refine G.endOps ?_ | refine G.endBlk ?_ | (refine G.atBin ?_; first | (refine G.atAdd ?_; first | refine G.arith rfl rfl rfl rfl rfl Zi ?_) | refine G.op rfl rfl ?_) | refine G.op rfl rfl ?_ | (refine G.atLoad ?_; first | refine G.loadOwnA rfl (tyy rfl) rfl rfl Za rfl rfl ?_ | refine G.loadImmA rfl (tyy rfl) rfl rfl Zp Zp rfl ?_) | (refine G.atSto ?_; refine G.storeOwn rfl rfl (tyy rfl) Za rfl rfl rfl rfl ?_) | (refine G.atAlc ?_; refine G.alloc (tyy rfl) rfl rfl ?_; intro _) | (refine G.atBld ?_; refine G.build (tyy rfl) rfl rfl rfl ?_) | (refine G.atBsl ?_; refine G.buildSlice (tyy rfl) (tyy rfl) rfl rfl rfl rfl ?_; intro _))
          all_goals first | (exfalso; omega) | (exfalso; simp_all; done) | exact G.done (rs := [.cell 4 90, .tmp 5]) rfl (.cellA rfl (tyy rfl) rfl rfl Za rfl (.tmp rfl .nil)) rfl [.blk gc _ 3] Zu (AsR.no (by rw [asks_stop hk hrd ho9]; split <;> rfl)) | skip
          rename_i A' c'
          refine G.again ⟨i + 1, n9, rws ++ [[.int .i64 t9, str d9, .slice A8 m8 c8]], A', c'⟩ ⟨sint (by simp), rfl, rfl, rfl, rfl, rfl, rfl, trivial⟩ Zu ⟨by simp only; omega, by simp [hil], by have := ask_le _ _ _ ho9; simpa using this, asks_step hk hrd ho9, ?_⟩ (by solve | repeat first | assumption | exact Zr _ | refine Zq ?_ Zp) (by simp only; omega)
          simp only
          rw [take_get hk, flsN_eq, List.map_append, ← flsN_eq]
          exact (hik.mono' (by solve | repeat first | assumption | exact Zr _ | refine Zq ?_ Zp)).append (KidsC.one hf9)
        . obtain rfl : i = ks.length := by omega
          rw [List.take_length] at hrd hik
          have hln := hik.len
          have hwf := wt_fls ks
          refine G.freezeRow (v := .slice A1 rws.length c1) Za ?_
          intro h9 hle9 hs9
          rw [hln] at hs9 ⊢
          have hks : KsC h9 (flsN ks) (.slice A1 (flsN ks).length c1) := ⟨rws, hs9, hik.mono' hle9⟩
          rw [hrd]
          have hfl : (flsN ks).length = ks.length := by rw [flsN_eq, List.length_map]
          by_cases hn1 : k = 2 /\ ks.length ≠ 1
          . rw [if_pos hn1]
            repeat' (first | (refine G.atAny ?_; first | refine G.anyAutoX slB rfl rfl Zw (by solve | exact Heap.none_le _ | assumption | exact Zr _ | (repeat first | assumption | exact Zr _ | refine Zq ?_ Zp)) Zd ?_ | refine G.anyKeep slB rfl Zw (by solve | exact Heap.none_le _ | assumption | exact Zr _ | (repeat first | assumption | exact Zr _ | refine Zq ?_ Zp)) Zu ?_ | refine G.anyOne rfl Zw (by solve | exact Heap.none_le _ | assumption | exact Zr _ | (repeat first | assumption | exact Zr _ | refine Zq ?_ Zp)) Zu ?_ | refine G.anyEndX Zw ?_) | (show G _ (.ops .seq _ (⟨some _, .call { callee := .value (.func 48), args := _, argTypes := _ }, _, _, _, none⟩ :: _) :: _) _ _ _; refine G.call callSeq rfl rfl (tlv_SeqK (160 + k) (flsN ks) (by omega) _ _ (hks.mono (by solve | repeat first | assumption | exact Zr _ | refine Zq ?_ Zp))) Ze ?_; rintro _ h10 H10 ⟨⟨A10, c10, rfl, hk10⟩, rfl⟩ hle10) | (refine G.atCode ?_; first | refine G.seq ?_ | refine G.region ?_ | refine G.anyIn mixedOk ?_ | refine G.exit rfl ?_ | refine G.ret ?_ | (refine G.cond rfl ?_ ?_ <;> intro hc <;> (try simp only [tests, reduceCtorEq] at hc) <;> (try exact Zf))) | refine G.endOps ?_ | refine G.endHeld ?_ | refine G.back ?_ | (refine G.atGd ?_; first | refine G.guardYes rfl rfl ?_ | (refine G.guardS rfl rfl rfl ?_ ?_ <;> intro hc <;> (try simp only [tests, reduceCtorEq] at hc) <;> (try exact Zf))) | (refine G.atBin ?_; first | (refine G.atAdd ?_; first | refine G.arith rfl rfl rfl rfl rfl Zi ?_) | (refine G.atEql ?_; first | refine G.op rfl rfl ?_) | (refine G.atNeq ?_; first | refine G.op rfl rfl ?_) | refine G.op rfl rfl ?_) | refine G.op rfl rfl ?_ | (refine G.atLen ?_; first | refine G.lenSlice rfl (tyy rfl) rfl ?_) | (refine G.atLoad ?_; first | refine G.loadOwn1 rfl (tyy rfl) rfl rfl Za rfl rfl ?_) | (refine G.atFld ?_; first | refine G.fieldAddr rfl (tyy rfl) rfl rfl ?_) | (refine G.atSto ?_; refine G.storeOwn rfl rfl (tyy rfl) Za rfl rfl rfl rfl ?_))
            all_goals first | (exfalso; omega) | skip
            all_goals exact G.done (rs := [.cell 4 90, .tmp 5]) rfl (.cellA rfl (tyy rfl) rfl rfl Za rfl (.tmp rfl .nil)) rfl [.blk gc _ 3] Zu (AsR.ofB _ (by simp only [decide_eq_true_eq]; rw [if_neg (by omega)]) (by simp only [wt_sq, Fl.wt]; omega) (seq_node (hk10.mono (by solve | repeat first | assumption | exact Zr _ | refine Zq ?_ Zp))) (fun _ => rfl))
          . rw [if_neg hn1]
            repeat' (first | (refine G.atAny ?_; first | refine G.anyAutoX slB rfl rfl Zw (by solve | exact Heap.none_le _ | assumption | exact Zr _ | (repeat first | assumption | exact Zr _ | refine Zq ?_ Zp)) Zd ?_ | refine G.anyKeep slB rfl Zw (by solve | exact Heap.none_le _ | assumption | exact Zr _ | (repeat first | assumption | exact Zr _ | refine Zq ?_ Zp)) Zu ?_ | refine G.anyOne rfl Zw (by solve | exact Heap.none_le _ | assumption | exact Zr _ | (repeat first | assumption | exact Zr _ | refine Zq ?_ Zp)) Zu ?_ | refine G.anyEndX Zw ?_) | (show G _ (.ops .seq _ (⟨some _, .call { callee := .value (.func 48), args := _, argTypes := _ }, _, _, _, none⟩ :: _) :: _) _ _ _; refine G.call callSeq rfl rfl (tlv_SeqK (160 + k) (flsN ks) (by omega) _ _ (hks.mono (by solve | repeat first | assumption | exact Zr _ | refine Zq ?_ Zp))) Ze ?_; rintro _ h10 H10 ⟨⟨A10, c10, rfl, hk10⟩, rfl⟩ hle10) | (refine G.atCode ?_; first | refine G.seq ?_ | refine G.region ?_ | refine G.anyIn mixedOk ?_ | refine G.exit rfl ?_ | refine G.ret ?_ | (refine G.cond rfl ?_ ?_ <;> intro hc <;> (try simp only [tests, reduceCtorEq] at hc) <;> (try exact Zf))) | refine G.endOps ?_ | refine G.endHeld ?_ | refine G.back ?_ | (refine G.atGd ?_; first | refine G.guardYes rfl rfl ?_ | refine G.guardNoS rfl rfl rfl ?_ | (refine G.guardS rfl rfl rfl ?_ ?_ <;> intro hc <;> (try simp only [tests, reduceCtorEq] at hc) <;> (try exact Zf))) | (refine G.atBin ?_; first | (refine G.atAdd ?_; first | refine G.arith rfl rfl rfl rfl rfl Zi ?_) | (refine G.atEql ?_; first | refine G.op rfl rfl ?_) | (refine G.atNeq ?_; first | refine G.op rfl rfl ?_) | refine G.op rfl rfl ?_) | refine G.op rfl rfl ?_ | (refine G.atLen ?_; first | refine G.lenSlice rfl (tyy rfl) rfl ?_) | (refine G.atLoad ?_; first | refine G.loadOwn1 rfl (tyy rfl) rfl rfl Za rfl rfl ?_) | (refine G.atFld ?_; first | refine G.fieldAddr rfl (tyy rfl) rfl rfl ?_) | (refine G.atSto ?_; refine G.storeOwn rfl rfl (tyy rfl) Za rfl rfl rfl rfl ?_))
            all_goals first | (exfalso; omega) | skip
            all_goals first
              | exact G.done (rs := [.cell 4 90, .tmp 5]) rfl (.cellA rfl (tyy rfl) rfl rfl Za rfl (.tmp rfl .nil)) rfl [.blk gc _ 3] Zu (AsR.ok rfl (by simp only [wt_sq, Fl.wt]; omega) (seq_node (hk10.mono (by solve | repeat first | assumption | exact Zr _ | refine Zq ?_ Zp))))
              | exact G.done (rs := [.cell 4 90, .tmp 5]) rfl (.cellA rfl (tyy rfl) rfl rfl Za rfl (.tmp rfl .nil)) rfl [.blk gc _ 3] Zu (AsR.ofB _ (by simp only [decide_eq_true_eq]; rw [if_pos (by omega)]) (by simp only [wt_sq, Fl.wt]; omega) (seq_node (hk10.mono (by solve | repeat first | assumption | exact Zr _ | refine Zq ?_ Zp))) (fun _ => rfl))
    rw [if_neg h3]
    by_cases h7 : k = 7
    . rw [if_pos h7, if_neg (by rintro (q | q | q | q | q) <;> omega)]
      refine Spec.enter Tryd.func72 rfl rfl ?_; intro w0
      repeat' (first | (show G _ (.ops .seq _ (⟨some _, .call { callee := .value (.func 71), args := _, argTypes := _ }, _, _, _, none⟩ :: _) :: _) _ _ _; refine G.call callLeaf rfl rfl (tlv_Leaf 135 a _) Ze ?_; rintro _ h2 H2 ⟨rfl, rfl⟩ hle2) | (refine G.atCode ?_; first | refine G.seq ?_ | refine G.region ?_ | refine G.block ?_ | refine G.skip ?_ | refine G.ret ?_ | (refine G.cond rfl ?_ ?_ <;> intro hc <;> (try simp only [tests, reduceCtorEq] at hc) <;> (try exact Zf))) | refine G.endOps ?_ | (refine G.atBin ?_; first | (refine G.atAdd ?_; first | refine G.arith rfl rfl rfl rfl rfl Zi ?_) | (refine G.atEql ?_; first | refine G.op rfl rfl ?_) | refine G.op rfl rfl ?_) | refine G.op rfl rfl ?_ | (refine G.atLoad ?_; first | refine G.loadOwn1 rfl (tyy rfl) rfl rfl Za rfl rfl ?_) | (refine G.atFld ?_; first | refine G.fieldAddr rfl (tyy rfl) rfl rfl ?_) | (refine G.atSto ?_; refine G.storeOwn rfl rfl (tyy rfl) Za rfl rfl rfl rfl ?_) | (refine G.atAlc ?_; refine G.alloc (tyy rfl) rfl rfl ?_; intro _) | (refine G.atBox ?_; refine G.box rfl rfl rfl ?_; intro _))
      all_goals first | (exfalso; omega) | exact G.done (rs := [.cell 4 90, .tmp 5]) rfl (.cellA rfl (tyy rfl) rfl rfl Za rfl (.tmp rfl .nil)) rfl [.blk gc _ 3] Zu (AsR.ok rfl (by simp only [wt_lf, Fl.wt]; omega) (lf_C _ 135 a)) | skip
    rw [if_neg h7, if_neg h3]
    by_cases h4 : k = 4
    . subst h4
      rw [if_pos rfl]
      have hres : (if 1000 < n + 1 \/ (4 : Int) < 0 \/ 8 < (4 : Int) \/ ((4 : Int) = 2 /\ ks.length ≠ 1) \/ ((4 : Int) = 4 /\ pcsOk ps = false) then none else some (n + 1)) = if pcsOk ps = true then some (n + 1) else none := by
        cases hp : pcsOk ps with
        | true => rw [if_neg (by rintro (q | q | q | q | ⟨_, q⟩) <;> first | omega | cases q), if_pos rfl]
        | false => rw [if_pos (.inr (.inr (.inr (.inr ⟨rfl, rfl⟩)))), if_neg Bool.false_ne_true]
      rw [hres]
      clear hres
      have hlw := pcsL_wt ps
      have hll := pcsL_len ps
      refine Spec.enter Tryd.func72 rfl rfl ?_; intro w0
      repeat' (first | (refine G.atCode ?_; refine G.stopLoop ?_) | (refine G.atCode ?_; first | refine G.seq ?_ | refine G.region ?_ | refine G.block ?_ | refine G.skip ?_ | (refine G.cond rfl ?_ ?_ <;> intro hc <;> (try simp only [tests, reduceCtorEq] at hc) <;> (try exact Zf))) | refine G.endOps ?_ | (refine G.atBin ?_; first | (refine G.atAdd ?_; first | refine G.arith rfl rfl rfl rfl rfl Zi ?_) | (refine G.atEql ?_; first | refine G.op rfl rfl ?_) | refine G.op rfl rfl ?_) | refine G.op rfl rfl ?_ | (refine G.atLen ?_; first | refine G.lenSlice rfl (tyy rfl) rfl ?_) | (refine G.atLoad ?_; first | refine G.loadOwn1 rfl (tyy rfl) rfl rfl Za rfl rfl ?_) | (refine G.atFld ?_; first | refine G.fieldAddr rfl (tyy rfl) rfl rfl ?_) | (refine G.atSto ?_; refine G.storeOwn rfl rfl (tyy rfl) Za rfl rfl rfl rfl ?_) | (refine G.atAlc ?_; refine G.alloc (tyy rfl) rfl rfl ?_; intro _) | (refine G.atBox ?_; refine G.box rfl rfl rfl ?_; intro _))
      all_goals first | (exfalso; omega) | skip
      rename_i g2 g4 _ _ _ _ _
      refine G.nilRow 90 3 ?_
      refine G.go ?_
      refine G.loop (σ := Nat × Option Addr × Nat) (fun x => [(73, .int .i64 x.1), (72, .int .i64 ps.length), (71, .slice A ps.length c), (6, .slice x.2.1 (pcsLC (ps.take x.1)).length x.2.2), (4, .pointer (some ⟨g4, 0, none⟩)), (2, .pointer (some ⟨g2, 0, none⟩)), (1, .pointer (some ⟨gc, 0, none⟩))])
        (fun x => [.blk gc [.int .i64 (n + 1)] 3, .blk g4 [.int .i64 0, str [], .slice none 0 0] 90, .blk g2 [.int .i64 4, str a, str v, .slice A ps.length c, .slice B ks.length d] 45, .row (.slice x.2.1 (pcsLC (ps.take x.1)).length x.2.2) 90 3 (pcsLC (ps.take x.1))])
        (fun x _ => x.1 <= ps.length) (fun x => ps.length - x.1) ⟨0, none, 0⟩ ⟨rfl, rfl, rfl, rfl, rfl, rfl, rfl, trivial⟩ Zu (Nat.zero_le _) ?_
      rintro ⟨i, A1, c1⟩ h5 hle5 hi
      simp only at hi
      refine G.norm (by (try dsimp only) <;> exact rfl) (by (try dsimp only) <;> exact rfl) ?_
      by_cases hlt : i < ps.length
      . obtain ⟨⟨pk, pt⟩, hp⟩ : ∃ p, ps[i]? = some p := ⟨ps[i], List.getElem?_eq_getElem hlt⟩
        have hpg := pcsR_get hp
        have hn1 : pcsLC (ps.take (i + 1)) = pcsLC (ps.take i) ++ [lfC (128 + clampK pk) pt] := by rw [take_get hp]; simp [pcsLC]
        have hpl1 : (pcsLC (ps.take i)).length = i := by rw [pcsLC_len, List.length_take]; omega
        have l1 : ([.int .i64 pk, str pt] : List Value).length = 2 := rfl
        generalize pcsLC (ps.take i) = P at *
        repeat' (first | (refine G.atIdx ?_; refine G.idxImm rfl rfl (tyy rfl) (tyy rfl) (sp.mono (by solve | repeat first | assumption | exact Zr _ | refine Zq ?_ Zp)) Zj rfl (by omega) ?_; intro p1 r1 hx1 hp1; (rw [hpg] at hx1); (obtain rfl := Option.some.inj hx1)) | (refine G.minI rfl rfl rfl ?_) | (refine G.maxI rfl rfl rfl ?_) | (show G _ (.ops .seq _ (⟨some _, .call { callee := .value (.func 71), args := _, argTypes := _ }, _, _, _, none⟩ :: _) :: _) _ _ _; refine G.call callLeaf rfl rfl (tlv_Leaf (128 + clampK pk) pt _) Ze ?_; rintro _ h2 H2 ⟨rfl, rfl⟩ hle2) | (refine G.atApp ?_; refine G.append1 rfl rfl (tyy rfl) (tyy rfl) rfl rfl Za Za rfl rfl rfl Zo ?_; intro _; refine G.rowForm Take.hd ?_; rintro _ _ rfl) | (refine G.atCode ?_; first | refine G.seq ?_ | refine G.region ?_ | refine G.block ?_ | refine G.skip ?_ | (refine G.cond rfl ?_ ?_ <;> intro hc <;> (try simp only [tests, reduceCtorEq] at hc) <;> (try exact Zf))) | refine G.endOps ?_ | refine G.endBlk ?_ | (refine G.atBin ?_; first | (refine G.atAdd ?_; first | refine G.arith rfl rfl rfl rfl rfl Zi ?_) | refine G.op rfl rfl ?_) | refine G.op rfl rfl ?_ | (refine G.atLoad ?_; first | refine G.loadOwn1 rfl (tyy rfl) rfl rfl Za rfl rfl ?_ | refine G.loadImmA rfl (tyy rfl) rfl rfl Zp Zp rfl ?_) | (refine G.atFld ?_; first | refine G.fieldAddr rfl (tyy rfl) rfl rfl ?_) | (refine G.atSto ?_; refine G.storeOwn rfl rfl (tyy rfl) Za rfl rfl rfl rfl ?_) | (refine G.atAlc ?_; refine G.alloc (tyy rfl) rfl rfl ?_; intro _) | (refine G.atBsl ?_; refine G.buildSlice (tyy rfl) (tyy rfl) rfl rfl rfl rfl ?_; intro _))
        all_goals first | (exfalso; omega) | skip
        rename_i A' c'
        refine G.again ⟨i + 1, A', c'⟩ ?_ ?_ (by simp only; omega) (by solve | repeat first | assumption | exact Zr _ | refine Zq ?_ Zp) (by simp only; omega)
        . simp only [hn1]
          exact ⟨sint (by simp), rfl, rfl, rfl, rfl, rfl, rfl, trivial⟩
        . simp only [hn1]
          exact Zu
      . obtain rfl : i = ps.length := by omega
        rw [List.take_length]
        refine G.freezeRow (v := .slice A1 (pcsLC ps).length c1) Za ?_
        intro h9 hle9 hs9
        rw [show (pcsLC ps).length = (pcsL ps).length by rw [pcsLC_len, pcsL_len]] at hs9 ⊢
        have hks : KsC h9 (pcsL ps) (.slice A1 (pcsL ps).length c1) := ⟨_, hs9, pcsL_C _ ps⟩
        have hfc : ∀ h', Heap.le h5 h' -> FlC h' (.mk 4 [97] [] ps []) [.int .i64 4, str [97], str [], .slice A ps.length c, .slice none 0 0] := fun h' hl' => FlC.mk_ (sp.mono (Heap.le_trans hle5 hl')) (HSl.nil _ 5) (FlsC.nil _)
        repeat' (first | (refine G.atAny ?_; first | refine G.anyAutoX slB rfl rfl Zw (by solve | exact Heap.none_le _ | assumption | exact Zr _ | (repeat first | assumption | exact Zr _ | refine Zq ?_ Zp)) Zd ?_ | refine G.anyKeep slB rfl Zw (by solve | exact Heap.none_le _ | assumption | exact Zr _ | (repeat first | assumption | exact Zr _ | refine Zq ?_ Zp)) Zu ?_ | refine G.anyOne rfl Zw (by solve | exact Heap.none_le _ | assumption | exact Zr _ | (repeat first | assumption | exact Zr _ | refine Zq ?_ Zp)) Zu ?_ | refine G.anyEndX Zw ?_) | (show G _ (.ops .seq _ (⟨some _, .call { callee := .value (.func 46), args := _, argTypes := _ }, _, _, _, none⟩ :: _) :: _) _ _ _; refine G.call callTextN rfl rfl (wire_textN _ _) Ze ?_; rintro _ h2 H2 ⟨rfl, rfl⟩ hle2) | (show G _ (.ops .seq _ (⟨some _, .call { callee := .value (.func 48), args := _, argTypes := _ }, _, _, _, none⟩ :: _) :: _) _ _ _; refine G.call callSeq rfl rfl (tlv_SeqK 48 (pcsL ps) (by omega) _ _ (hks.mono (by solve | repeat first | assumption | exact Zr _ | refine Zq ?_ Zp))) Ze ?_; rintro _ h10 H10 ⟨⟨A10, c10, rfl, hk10⟩, rfl⟩ hle10) | (show G _ (.ops .seq _ (⟨some _, .call { callee := .value (.func 48), args := _, argTypes := _ }, _, _, _, none⟩ :: _) :: _) _ _ _; refine G.call callSeq rfl rfl (tlv_SeqB 164 [txtN a, sqN 48 (pcsL ps)] (by simp only [wts, wt_txt, wt_sq]; omega) _ 2 [lfC 4 a, [.int .i64 48, str [], .slice A10 (pcsL ps).length c10]] _ rfl rfl (by intro r hr; simp at hr; rcases hr with rfl | rfl <;> rfl) _ ⟨_, _, rfl, lf_C _ 4 a, _, _, rfl, seq_node (hk10.mono (by solve | repeat first | assumption | exact Zr _ | refine Zq ?_ Zp)), rfl⟩) Ze ?_; rintro _ h11 H11 ⟨⟨A11, c11, rfl, hk11⟩, rfl⟩ hle11) | (show G _ (.ops .seq _ (⟨some _, .call { callee := .value (.func 101), args := _, argTypes := _ }, _, _, _, none⟩ :: _) :: _) _ _ _; refine G.call callFCheck rfl rfl (filt_Check _ _ _ (hfc _ (by solve | repeat first | assumption | exact Zr _ | refine Zq ?_ Zp))) Ze ?_; rintro _ h7 H7 ⟨rfl, rfl⟩ hle7) | (refine G.atCode ?_; first | refine G.seq ?_ | refine G.region ?_ | refine G.anyIn mixedOk ?_ | refine G.exit rfl ?_ | refine G.ret ?_ | (refine G.cond rfl ?_ ?_ <;> intro hc <;> (try simp only [tests, reduceCtorEq] at hc) <;> (try exact Zf))) | refine G.endOps ?_ | refine G.endHeld ?_ | refine G.back ?_ | (refine G.atBin ?_; first | (refine G.atEql ?_; first | refine G.op rfl rfl ?_) | refine G.op rfl rfl ?_) | refine G.op rfl rfl ?_ | (refine G.atLoad ?_; first | refine G.loadOwn1 rfl (tyy rfl) rfl rfl Za rfl rfl ?_) | (refine G.atFld ?_; first | refine G.fieldAddr rfl (tyy rfl) rfl rfl ?_) | (refine G.atSto ?_; refine G.storeOwn rfl rfl (tyy rfl) Za rfl rfl rfl rfl ?_) | (refine G.atBld ?_; refine G.build (tyy rfl) rfl rfl rfl ?_) | (refine G.atBsl ?_; refine G.buildSlice (tyy rfl) (tyy rfl) rfl rfl rfl rfl ?_; intro _))
        all_goals first | (exfalso; omega) | skip
        all_goals exact G.done (rs := [.cell 4 90, .tmp 5]) rfl (.cellA rfl (tyy rfl) rfl rfl Za rfl (.tmp rfl .nil)) rfl [.blk gc _ 3] Zu (AsR.ofB (n' := n + 1) (decide (chkE (.mk 4 [97] [] ps []) = 0)) (by rw [chkE_pc]; cases pcsOk ps <;> rfl) (by simp only [wt_sq, wts, wt_txt, Fl.wt]; omega) (seq_node (ks := [txtN a, sqN 48 (pcsL ps)]) (hk11.mono (by solve | repeat first | assumption | exact Zr _ | refine Zq ?_ Zp))) (fun hP => by
          have hok : pcsOk ps = true := by
            rw [chkE_pc] at hP
            cases hq : pcsOk ps with
            | true => rfl
            | false => rw [hq] at hP; cases hP
          rw [<- pcsL_ok hok]))
    . rw [if_neg h4, if_neg (by rintro (q | q | q | q | q) <;> omega)]
      refine Spec.enter Tryd.func72 rfl rfl ?_; intro w0
      repeat' (first | (refine G.atAny ?_; first | refine G.anyAutoX slB rfl rfl Zw (by solve | exact Heap.none_le _ | assumption | exact Zr _ | (repeat first | assumption | exact Zr _ | refine Zq ?_ Zp)) Zd ?_ | refine G.anyKeep slB rfl Zw (by solve | exact Heap.none_le _ | assumption | exact Zr _ | (repeat first | assumption | exact Zr _ | refine Zq ?_ Zp)) Zu ?_ | refine G.anyOne rfl Zw (by solve | exact Heap.none_le _ | assumption | exact Zr _ | (repeat first | assumption | exact Zr _ | refine Zq ?_ Zp)) Zu ?_ | refine G.anyEndX Zw ?_) | (show G _ (.ops .seq _ (⟨some _, .call { callee := .value (.func 46), args := _, argTypes := _ }, _, _, _, none⟩ :: _) :: _) _ _ _; refine G.call callTextN rfl rfl (wire_textN _ _) Ze ?_; rintro _ h2 H2 ⟨rfl, rfl⟩ hle2) | (show G _ (.ops .seq _ (⟨some _, .call { callee := .value (.func 48), args := _, argTypes := _ }, _, _, _, none⟩ :: _) :: _) _ _ _; refine G.call callSeq rfl rfl (tlv_SeqB (160 + k) [txtN a, txtN v] (by simp only [wts, wt_txt]; omega) _ 2 [lfC 4 a, lfC 4 v] _ rfl rfl (by intro r hr; simp at hr; rcases hr with rfl | rfl <;> rfl) _ ⟨_, _, rfl, lf_C _ 4 a, _, _, rfl, lf_C _ 4 v, rfl⟩) Ze ?_; rintro _ h10 H10 ⟨⟨A10, c10, rfl, hk10⟩, rfl⟩ hle10) | (refine G.atCode ?_; first | refine G.seq ?_ | refine G.region ?_ | refine G.block ?_ | refine G.skip ?_ | refine G.anyIn mixedOk ?_ | refine G.ret ?_ | (refine G.cond rfl ?_ ?_ <;> intro hc <;> (try simp only [tests, reduceCtorEq] at hc) <;> (try exact Zf))) | refine G.endOps ?_ | refine G.endHeld ?_ | refine G.back ?_ | (refine G.atBin ?_; first | (refine G.atAdd ?_; first | refine G.arith rfl rfl rfl rfl rfl Zi ?_) | (refine G.atEql ?_; first | refine G.op rfl rfl ?_) | refine G.op rfl rfl ?_) | refine G.op rfl rfl ?_ | (refine G.atLoad ?_; first | refine G.loadOwn1 rfl (tyy rfl) rfl rfl Za rfl rfl ?_) | (refine G.atFld ?_; first | refine G.fieldAddr rfl (tyy rfl) rfl rfl ?_) | (refine G.atSto ?_; refine G.storeOwn rfl rfl (tyy rfl) Za rfl rfl rfl rfl ?_) | (refine G.atAlc ?_; refine G.alloc (tyy rfl) rfl rfl ?_; intro _) | (refine G.atBox ?_; refine G.box rfl rfl rfl ?_; intro _) | (refine G.atBsl ?_; refine G.buildSlice (tyy rfl) (tyy rfl) rfl rfl rfl rfl ?_; intro _))
      all_goals first | (exfalso; omega) | skip
      all_goals exact G.done (rs := [.cell 4 90, .tmp 5]) rfl (.cellA rfl (tyy rfl) rfl rfl Za rfl (.tmp rfl .nil)) rfl [.blk gc _ 3] Zu (AsR.ok rfl (by simp only [wt_sq, wts, wt_txt, Fl.wt]; omega) (seq_node (hk10.mono (by solve | repeat first | assumption | exact Zr _ | refine Zq ?_ Zp))))
end Go.Proofs.YtibkffoeioidlaaDoor
