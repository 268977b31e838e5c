/- wire: an attribute's name and values; a control. -/
import Derived.Test.YtibkffoeioidlaaDoorWrF
namespace Go.Proofs.YtibkffoeioidlaaDoor
set_option linter.all false
set_option maxRecDepth 4000
open Go.RowKit

def psW : PS -> Nat
  | none => 0
  | some l => wts l
theorem Nd.wt_eq (n : Nd) : n.wt = 1 + n.data.length + wts n.kids := by cases n; simp only [Nd.wt, Nd.data, Nd.kids]
theorem psW_cases (t : Int) (s : PS) : (nxt t s = none /\ nxN t s = zN) \/ ∃ n l, s = some (n :: l) /\ nxt t s = some l /\ nxN t s = n /\ n.tag = t := by
  match s with
  | none => exact .inl ⟨rfl, rfl⟩
  | some [] => exact .inl ⟨rfl, rfl⟩
  | some (n :: l) =>
    by_cases h : n.tag = t
    . exact .inr ⟨n, l, rfl, by rw [nxt, if_pos h], by rw [nxN, if_pos h], h⟩
    . exact .inl ⟨by rw [nxt, if_neg h], by rw [nxN, if_neg h]⟩
theorem psW_nxt (t : Int) (s : PS) : psW (nxt t s) <= psW s := by
  rcases psW_cases t s with ⟨e, _⟩ | ⟨n, l, rfl, e, _, _⟩
  . rw [e]; exact Nat.zero_le _
  . rw [e]; simp only [psW, wts]; omega
theorem psW_data (t : Int) (s : PS) : (nxN t s).data.length <= psW s := by
  rcases psW_cases t s with ⟨_, e⟩ | ⟨n, l, rfl, _, e, _⟩
  . rw [e]; exact Nat.zero_le _
  . rw [e]; have := n.wt_eq; simp only [psW, wts]; omega
theorem psW_kids (t : Int) (s : PS) : wts (nxN t s).kids <= psW s := by
  rcases psW_cases t s with ⟨_, e⟩ | ⟨n, l, rfl, _, e, _⟩
  . rw [e]; simp only [zN, Nd.kids, wts]; exact Nat.zero_le _
  . rw [e]; have := n.wt_eq; simp only [psW, wts]; omega
theorem psW_wi (t : Int) (s : PS) : psW (wiS t s) <= psW s := by
  have := psW_kids t s
  unfold wiS
  split
  . exact this
  . exact Nat.zero_le _
theorem psW_bd (s : PS) (d : Bs) (lo hi : Int) : psW (bdS s d lo hi) <= psW s := by
  unfold bdS
  split
  . exact Nat.le_refl _
  . exact Nat.zero_le _
theorem psW_nm (t lo hi : Int) (s : PS) : psW (nmS t lo hi s) <= psW s := Nat.le_trans (psW_bd _ _ _ _) (psW_nxt t s)
theorem wts_len : ∀ l : List Nd, l.length <= wts l
  | [] => Nat.zero_le _
  | n :: l => by have := wts_len l; have := n.wt_eq; simp only [List.length_cons, wts]; omega
theorem callControl : Callable Tryd.prog 63 := ⟨_, Tryd.func63, by kernel_rfl, rfl⟩
def TxI (S0 st : PS) (vs : List Bs) : Prop := vs.length <= psW S0 + 1 /\ ((st = none /\ (S0 = none \/ ∃ l, S0 = some l /\ all4 l = false)) \/ ∃ l i, S0 = some l /\ st = some (l.drop i) /\ i <= l.length /\ all4 (l.take i) = true /\ vs = datas (l.take i))
theorem all4_app (a b : List Nd) : all4 (a ++ b) = (all4 a && all4 b) := by unfold all4; exact List.all_append
theorem datas_app (a b : List Nd) : datas (a ++ b) = datas a ++ datas b := by unfold datas; exact List.map_append
theorem TxI.start (S0 : PS) : TxI S0 S0 [] := by
  refine ⟨Nat.zero_le _, ?_⟩
  cases S0 with
  | none => exact .inl ⟨rfl, .inl rfl⟩
  | some l => exact .inr ⟨l, 0, rfl, rfl, Nat.zero_le _, rfl, rfl⟩
theorem TxI.step {S0 : PS} {n : Nd} {r : List Nd} {vs : List Bs} (h : TxI S0 (some (n :: r)) vs) : TxI S0 (nxt 4 (some (n :: r))) (vs ++ [txV (some (n :: r))]) := by
  obtain ⟨hl, ⟨e, _⟩ | ⟨l, i, rfl, e, hi, ha, rfl⟩⟩ := h
  . cases e
  . have hil : i < l.length := by
      rcases Nat.lt_or_ge i l.length with q | q
      . exact q
      . rw [List.drop_eq_nil_of_le q] at e; cases e
    have hd := List.drop_eq_getElem_cons hil
    rw [hd] at e
    injection e with e
    injection e with e1 e2
    have hlen := wts_len l
    have hv : (datas (l.take i) ++ [txV (some (n :: r))]).length <= psW (some l) + 1 := by
      simp only [datas, List.length_append, List.length_map, List.length_take, List.length_cons, List.length_nil, psW]; omega
    refine ⟨hv, ?_⟩
    by_cases ht : n.tag = 4
    . refine .inr ⟨l, i + 1, rfl, ?_, by omega, ?_, ?_⟩
      . rw [nxt, if_pos ht, e2]
      . rw [take_get (List.getElem?_eq_getElem hil), all4_app, ha, ← e1]
        simp [all4, ht]
      . rw [take_get (List.getElem?_eq_getElem hil), datas_app, ← e1]
        unfold txV
        rw [nxN, if_pos ht]; rfl
    . refine .inl ⟨by rw [nxt, if_neg ht], .inr ⟨l, rfl, ?_⟩⟩
      have hm : n ∈ l := by rw [e1]; exact List.getElem_mem hil
      cases hq : all4 l with
      | false => rfl
      | true =>
        have := List.all_eq_true.1 hq n hm
        simp only [decide_eq_true_eq] at this
        exact absurd this ht
theorem TxI.fin {S0 st : PS} {vs : List Bs} (h : TxI S0 st vs) (he : st = none \/ st = some []) : (st = none /\ (S0 = none \/ ∃ l, S0 = some l /\ all4 l = false)) \/ (st = some [] /\ ∃ l, S0 = some l /\ all4 l = true /\ vs = datas l) := by
  obtain ⟨_, h | ⟨l, i, rfl, e, hi, ha, rfl⟩⟩ := h
  . exact .inl h
  . rcases he with rfl | rfl
    . cases e
    . injection e with e
      have hil : l.length <= i := by
        rcases Nat.lt_or_ge i l.length with q | q
        . rw [List.drop_eq_getElem_cons q] at e; cases e
        . exact q
      obtain rfl : i = l.length := by omega
      rw [List.take_length] at *
      exact .inr ⟨rfl, l, rfl, ha, rfl⟩
def PS.meas : PS -> Nat
  | none => 0
  | some l => l.length + 1
theorem meas_nxt (t : Int) (n : Nd) (r : List Nd) : (nxt t (some (n :: r))).meas < PS.meas (some (n :: r)) := by
  have := psW_cases t (some (n :: r))
  rcases this with ⟨e, _⟩ | ⟨n', l, e0, e, _⟩
  . rw [e]; simp [PS.meas]
  . injection e0 with e0
    injection e0 with _ e1
    rw [e, ← e1]; simp [PS.meas]
def CtR (n : Nd) (u : Value) : Prop := ∃ (c : Ctl) (b : Bool), u = .tuple #[.agg (ctlR c).toArray, .bool b] /\ ((ctO n = some c /\ b = true) \/ (ctO n = none /\ b = false))
theorem ct_fin {n : Nd} {s s1 s2 : PS} {crit : Bool} (h0 : wiS 48 (some [n]) = s) (h1 : nxt 4 s = s1) (h2 : (if myB 1 s1 = true then trS s1 else s1) = s2) (h3 : endP (myS 4 s2) = true -> (if myB 1 s1 = true then trV s1 else false) = crit) :
    (ctO n = some ⟨txV s, crit, myB 4 s2, (nxN 4 s2).data⟩ /\ endP (myS 4 s2) = true) \/ (ctO n = none /\ endP (myS 4 s2) = false) := by
  unfold ctO
  simp only
  rw [h0, h1, h2]
  cases hb : endP (myS 4 s2) with
  | true => rw [if_pos rfl, h3 hb]; exact .inl ⟨rfl, rfl⟩
  | false => rw [if_neg Bool.false_ne_true]; exact .inr ⟨rfl, rfl⟩
set_option maxHeartbeats 2000000 in
theorem wire_control (n : Nd) (r : List Value) (h : Heap) (hn : NodeC h n r) :
    Spec Tryd.prog 63 [.agg r.toArray] h [] (fun u _ H' => CtR n u /\ H' = []) := by
  obtain ⟨kv, rfl, hkv⟩ := hn.ks
  obtain ⟨A2, c2, rfl, _, _⟩ := hkv.form
  have hn0 := hkv.node
  generalize hs : wiS 48 (some [n]) = s
  generalize hs1 : nxt 4 s = s1
  have hwi := fun g v2 b2 h2 (hp2 : PtC h2 (some [n]) v2 b2) => wire_within g 48 (some [n]) v2 b2 h2 hp2
  unfold WiR at hwi
  rw [hs] at hwi
  have htx := fun g v b => wire_text g s v b
  rw [hs1] at htx
  refine Spec.enter Tryd.func63 rfl rfl ?_; intro w0
  repeat' (first | (show G _ (.ops .seq _ (⟨some _, .call { callee := .value (.func 60), args := _, argTypes := _ }, _, _, _, none⟩ :: _) :: _) _ _ _; refine G.freezeBlk (Take.tl Take.hd) ?_; intro hf1 hle1 hc1; have hsn := HSl.ofBlk1 (rows := [[.int .i64 n.tag, str n.data, .slice A2 n.kids.length c2]]) (n := 1) hc1 (by intro r hr; simp at hr; subst hr; rfl) rfl (by decide); clear hc1; refine G.call callWithin rfl rfl (hwi _ _ false _ ⟨rfl, ⟨_, hsn.mono (by solve | repeat first | assumption | exact Zr _ | refine Zq ?_ Zp), KidsC.one (NodeC.mono (by solve | repeat first | assumption | exact Zr _ | refine Zq ?_ Zp) n _ hn0)⟩⟩) Ze ?_; rintro _ h2 H2 ⟨v2, b2, q, w2, bq, rfl, hp2, rfl, hq2, hqn⟩ hle2) | (show G _ (.ops .seq _ (⟨some _, .call { callee := .value (.func 91), args := _, argTypes := _ }, _, _, _, none⟩ :: _) :: _) _ _ _; refine G.call callTextW rfl rfl (htx q _ bq _ (hq2.mono (by solve | repeat first | assumption | exact Zr _ | refine Zq ?_ Zp))) Ze ?_; rintro _ h3 H3 ⟨⟨v3, b3, rfl, hp3⟩, rfl⟩ hle3) | (refine G.atCode ?_; first | refine G.seq ?_ | refine G.region ?_) | refine G.endOps ?_ | refine G.op rfl rfl ?_ | (refine G.atLoad ?_; first | refine G.loadOwn1 rfl (tyy rfl) rfl rfl Za rfl rfl ?_ | refine G.loadOwnA rfl (tyy rfl) rfl rfl Za rfl rfl ?_) | (refine G.atFld ?_; first | refine G.fieldAddr rfl (tyy rfl) rfl rfl ?_) | (refine G.atSto ?_; refine G.storeOwn rfl rfl (tyy rfl) Za rfl rfl rfl rfl ?_) | (refine G.atAlc ?_; refine G.alloc (tyy rfl) rfl rfl ?_; intro _) | (refine G.atBox ?_; refine G.box rfl rfl rfl ?_; intro _) | (refine G.atBld ?_; refine G.build (tyy rfl) rfl rfl rfl ?_) | (refine G.atBsl ?_; refine G.buildSlice (tyy rfl) (tyy rfl) rfl rfl rfl rfl ?_; intro _))
  match s1, hs1, hp3 with
  | none, hs1, ⟨e, l, hk⟩ =>
    subst e
    match l, hk with
    | [], hk =>
      obtain ⟨A, c, rfl, _, hm⟩ := hk.form
      simp only [List.length_nil] at *
      repeat' (first | (refine G.atAny ?_; first | refine G.anyAutoX slB rfl rfl Zw (by solve | exact Heap.none_le _ | assumption | exact Zr _ | (repeat first | assumption | exact Zr _ | refine Zq ?_ Zp)) Zd ?_ | refine G.anyKeep slB rfl Zw (by solve | exact Heap.none_le _ | assumption | exact Zr _ | (repeat first | assumption | exact Zr _ | refine Zq ?_ Zp)) Zu ?_ | refine G.anyOne rfl Zw (by solve | exact Heap.none_le _ | assumption | exact Zr _ | (repeat first | assumption | exact Zr _ | refine Zq ?_ Zp)) Zu ?_ | refine G.anyEndX Zw ?_) | (show G _ (.ops .seq _ (⟨some _, .call { callee := .value (.func 95), args := _, argTypes := _ }, _, _, _, none⟩ :: _) :: _) _ _ _; refine G.call callMaybe rfl rfl (wire_maybe q 4 (none) _ _ _ (⟨rfl, [], hk.mono (by solve | repeat first | assumption | exact Zr _ | refine Zq ?_ Zp)⟩)) Ze ?_; rintro _ h5 H5 ⟨⟨v5, b5, rfl, hp5⟩, rfl⟩ hle5) | (show G _ (.ops .seq _ (⟨some _, .call { callee := .value (.func 93), args := _, argTypes := _ }, _, _, _, none⟩ :: _) :: _) _ _ _; refine G.call callEnd rfl rfl (wire_end0 q _ v5 b5 _ (hp5.mono (by solve | repeat first | assumption | exact Zr _ | refine Zq ?_ Zp))) Ze ?_; rintro _ h6 H6 ⟨rfl, rfl⟩ hle6) | (refine G.atCode ?_; first | refine G.seq ?_ | refine G.region ?_ | refine G.skip ?_ | refine G.anyIn mixedOk ?_ | refine G.ret ?_ | (refine G.cond rfl ?_ ?_ <;> intro hc <;> (try simp only [tests, reduceCtorEq] at hc) <;> (try exact Zf))) | refine G.endOps ?_ | refine G.endHeld ?_ | refine G.back ?_ | (refine G.atGd ?_; first | refine G.guardNoS rfl rfl rfl ?_) | (refine G.atBin ?_; first | refine G.op rfl rfl ?_) | refine G.op rfl rfl ?_ | (refine G.atLen ?_; first | refine G.lenSlice rfl (tyy rfl) rfl ?_) | (refine G.atLoad ?_; first | refine G.loadOwnA rfl (tyy rfl) rfl rfl Za rfl rfl ?_) | (refine G.atFld ?_; first | refine G.fieldAddr rfl (tyy rfl) rfl rfl ?_) | (refine G.atSto ?_; refine G.storeOwn rfl rfl (tyy rfl) Za rfl rfl rfl rfl ?_))
      all_goals first | (exfalso; omega) | skip
      all_goals exact G.done (rs := [.cell 2 95, .tmp 3]) rfl (.cellA rfl (tyy rfl) rfl rfl Za rfl (.tmp rfl .nil)) rfl [] (SubH.nil _) ⟨⟨⟨_, _, _, _⟩, _, rfl, ct_fin hs hs1 (s2 := none) (rfl) (fun h => by cases h)⟩, rfl⟩
    | k0 :: l, hk =>
      have hk0 := hk
      obtain ⟨A, c, rfl, hc, hm⟩ := hk.form
      obtain ⟨rows, hsl, hr⟩ := hk
      simp only [KidsC] at hr
      obtain ⟨r, rs, rfl, hn1, hrs⟩ := hr
      obtain ⟨kv1, rfl, hkv1⟩ := hn1.ks
      obtain ⟨A3, c3, rfl, _, _⟩ := hkv1.form
      have hl3 : ([.int .i64 k0.tag, str k0.data, .slice A3 k0.kids.length c3] : List Value).length = 3 := rfl
      simp only [List.length_cons] at *
      repeat' (first | (refine G.atAny ?_; first | refine G.anyAutoX slB rfl rfl Zw (by solve | exact Heap.none_le _ | assumption | exact Zr _ | (repeat first | assumption | exact Zr _ | refine Zq ?_ Zp)) Zd ?_ | refine G.anyKeep slB rfl Zw (by solve | exact Heap.none_le _ | assumption | exact Zr _ | (repeat first | assumption | exact Zr _ | refine Zq ?_ Zp)) Zu ?_ | refine G.anyOne rfl Zw (by solve | exact Heap.none_le _ | assumption | exact Zr _ | (repeat first | assumption | exact Zr _ | refine Zq ?_ Zp)) Zu ?_ | refine G.anyEndX Zw ?_) | (refine G.atIdx ?_; refine G.idxImm rfl rfl (tyy rfl) (tyy rfl) (hsl.mono (by solve | repeat first | assumption | exact Zr _ | refine Zq ?_ Zp)) Zj rfl (by simp only [List.length_cons]; omega) ?_; intro pp rr hx9 hp9; (obtain rfl := Option.some.inj hx9)) | (refine G.atLoad ?_; refine G.loadImmAt1 rfl (tyy rfl) rfl rfl Zp rfl rfl ?_) | (show G _ (.ops .seq _ (⟨some _, .call { callee := .value (.func 94), args := _, argTypes := _ }, _, _, _, none⟩ :: _) :: _) _ _ _; refine G.call callTruthP rfl rfl (wire_truthP q none _ true _ ⟨rfl, _, hk0.mono (by solve | repeat first | assumption | exact Zr _ | refine Zq ?_ Zp)⟩) Ze ?_; rintro _ h4 H4 ⟨⟨v4, b4, rfl, hp4⟩, rfl⟩ hle4) | (show G _ (.ops .seq _ (⟨some _, .call { callee := .value (.func 95), args := _, argTypes := _ }, _, _, _, none⟩ :: _) :: _) _ _ _; refine G.call callMaybe rfl rfl (wire_maybe q 4 (none) _ _ _ (by first | exact hp4.mono (by solve | repeat first | assumption | exact Zr _ | refine Zq ?_ Zp) | exact ⟨rfl, _, hk0.mono (by solve | repeat first | assumption | exact Zr _ | refine Zq ?_ Zp)⟩)) Ze ?_; rintro _ h5 H5 ⟨⟨v5, b5, rfl, hp5⟩, rfl⟩ hle5) | (show G _ (.ops .seq _ (⟨some _, .call { callee := .value (.func 93), args := _, argTypes := _ }, _, _, _, none⟩ :: _) :: _) _ _ _; refine G.call callEnd rfl rfl (wire_end0 q _ v5 b5 _ (hp5.mono (by solve | repeat first | assumption | exact Zr _ | refine Zq ?_ Zp))) Ze ?_; rintro _ h6 H6 ⟨rfl, rfl⟩ hle6) | (refine G.atCode ?_; first | refine G.seq ?_ | refine G.region ?_ | refine G.skip ?_ | refine G.anyIn mixedOk ?_ | refine G.ret ?_ | (refine G.cond rfl ?_ ?_ <;> intro hc <;> (try simp only [tests, reduceCtorEq] at hc) <;> (try exact Zf))) | refine G.endOps ?_ | refine G.endHeld ?_ | refine G.back ?_ | (refine G.atGd ?_; first | refine G.guardYes rfl rfl ?_ | (refine G.guardS rfl rfl rfl ?_ ?_ <;> intro hc <;> (try simp only [tests, reduceCtorEq] at hc) <;> (try exact Zf))) | (refine G.atBin ?_; first | (refine G.atEql ?_; first | refine G.op rfl rfl ?_) | refine G.op rfl rfl ?_) | refine G.op rfl rfl ?_ | (refine G.atLen ?_; first | refine G.lenSlice rfl (tyy rfl) rfl ?_) | (refine G.atLoad ?_; first | refine G.loadOwn1 rfl (tyy rfl) rfl rfl Za rfl rfl ?_ | refine G.loadOwnA rfl (tyy rfl) rfl rfl Za rfl rfl ?_) | (refine G.atFld ?_; first | refine G.fieldAddr rfl (tyy rfl) rfl rfl ?_ | refine G.fieldAddrP rfl (tyy rfl) rfl rfl ?_) | (refine G.atSto ?_; refine G.storeOwn rfl rfl (tyy rfl) Za rfl rfl rfl rfl ?_))
      all_goals first | (exfalso; omega) | skip
      all_goals exact G.done (rs := [.cell 2 95, .tmp 3]) rfl (.cellA rfl (tyy rfl) rfl rfl Za rfl (.tmp rfl .nil)) rfl [] (SubH.nil _) ⟨⟨⟨_, _, _, _⟩, _, rfl, ct_fin hs hs1 (s2 := none) (rfl) (fun h => by cases h)⟩, rfl⟩
  | some [], hs1, ⟨e, hk⟩ =>
    subst e
    obtain ⟨A, c, rfl, _, hm⟩ := hk.form
    simp only [List.length_nil] at *
    repeat' (first | (refine G.atAny ?_; first | refine G.anyAutoX slB rfl rfl Zw (by solve | exact Heap.none_le _ | assumption | exact Zr _ | (repeat first | assumption | exact Zr _ | refine Zq ?_ Zp)) Zd ?_ | refine G.anyKeep slB rfl Zw (by solve | exact Heap.none_le _ | assumption | exact Zr _ | (repeat first | assumption | exact Zr _ | refine Zq ?_ Zp)) Zu ?_ | refine G.anyOne rfl Zw (by solve | exact Heap.none_le _ | assumption | exact Zr _ | (repeat first | assumption | exact Zr _ | refine Zq ?_ Zp)) Zu ?_ | refine G.anyEndX Zw ?_) | (show G _ (.ops .seq _ (⟨some _, .call { callee := .value (.func 95), args := _, argTypes := _ }, _, _, _, none⟩ :: _) :: _) _ _ _; refine G.call callMaybe rfl rfl (wire_maybe q 4 (some []) _ _ _ (⟨rfl, hk.mono (by solve | repeat first | assumption | exact Zr _ | refine Zq ?_ Zp)⟩)) Ze ?_; rintro _ h5 H5 ⟨⟨v5, b5, rfl, hp5⟩, rfl⟩ hle5) | (show G _ (.ops .seq _ (⟨some _, .call { callee := .value (.func 93), args := _, argTypes := _ }, _, _, _, none⟩ :: _) :: _) _ _ _; refine G.call callEnd rfl rfl (wire_end0 q _ v5 b5 _ (hp5.mono (by solve | repeat first | assumption | exact Zr _ | refine Zq ?_ Zp))) Ze ?_; rintro _ h6 H6 ⟨rfl, rfl⟩ hle6) | (refine G.atCode ?_; first | refine G.seq ?_ | refine G.region ?_ | refine G.skip ?_ | refine G.anyIn mixedOk ?_ | refine G.ret ?_ | (refine G.cond rfl ?_ ?_ <;> intro hc <;> (try simp only [tests, reduceCtorEq] at hc) <;> (try exact Zf))) | refine G.endOps ?_ | refine G.endHeld ?_ | refine G.back ?_ | (refine G.atGd ?_; first | refine G.guardNoS rfl rfl rfl ?_) | (refine G.atBin ?_; first | refine G.op rfl rfl ?_) | refine G.op rfl rfl ?_ | (refine G.atLen ?_; first | refine G.lenSlice rfl (tyy rfl) rfl ?_) | (refine G.atLoad ?_; first | refine G.loadOwnA rfl (tyy rfl) rfl rfl Za rfl rfl ?_) | (refine G.atFld ?_; first | refine G.fieldAddr rfl (tyy rfl) rfl rfl ?_) | (refine G.atSto ?_; refine G.storeOwn rfl rfl (tyy rfl) Za rfl rfl rfl rfl ?_))
    all_goals first | (exfalso; omega) | skip
    all_goals exact G.done (rs := [.cell 2 95, .tmp 3]) rfl (.cellA rfl (tyy rfl) rfl rfl Za rfl (.tmp rfl .nil)) rfl [] (SubH.nil _) ⟨⟨⟨_, _, _, _⟩, _, rfl, ct_fin hs hs1 (s2 := some []) (rfl) (fun _ => rfl)⟩, rfl⟩
  | some (k0 :: l), hs1, ⟨e, hk⟩ =>
    subst e
    by_cases ht : k0.tag = 1
    . have e1 : nxt 1 (some (k0 :: l)) = some l := by rw [nxt, if_pos ht]
      have e3 : myB 1 (some (k0 :: l)) = true := by unfold myB; rw [e1]; rfl
      have hk0 := hk
      obtain ⟨A, c, rfl, hc, hm⟩ := hk.form
      obtain ⟨rows, hsl, hr⟩ := hk
      simp only [KidsC] at hr
      obtain ⟨r, rs, rfl, hn1, hrs⟩ := hr
      obtain ⟨kv1, rfl, hkv1⟩ := hn1.ks
      obtain ⟨A3, c3, rfl, _, _⟩ := hkv1.form
      have hl3 : ([.int .i64 k0.tag, str k0.data, .slice A3 k0.kids.length c3] : List Value).length = 3 := rfl
      simp only [List.length_cons] at *
      repeat' (first | (refine G.atAny ?_; first | refine G.anyAutoX slB rfl rfl Zw (by solve | exact Heap.none_le _ | assumption | exact Zr _ | (repeat first | assumption | exact Zr _ | refine Zq ?_ Zp)) Zd ?_ | refine G.anyKeep slB rfl Zw (by solve | exact Heap.none_le _ | assumption | exact Zr _ | (repeat first | assumption | exact Zr _ | refine Zq ?_ Zp)) Zu ?_ | refine G.anyOne rfl Zw (by solve | exact Heap.none_le _ | assumption | exact Zr _ | (repeat first | assumption | exact Zr _ | refine Zq ?_ Zp)) Zu ?_ | refine G.anyEndX Zw ?_) | (refine G.atIdx ?_; refine G.idxImm rfl rfl (tyy rfl) (tyy rfl) (hsl.mono (by solve | repeat first | assumption | exact Zr _ | refine Zq ?_ Zp)) Zj rfl (by simp only [List.length_cons]; omega) ?_; intro pp rr hx9 hp9; (obtain rfl := Option.some.inj hx9)) | (refine G.atLoad ?_; refine G.loadImmAt1 rfl (tyy rfl) rfl rfl Zp rfl rfl ?_) | (show G _ (.ops .seq _ (⟨some _, .call { callee := .value (.func 94), args := _, argTypes := _ }, _, _, _, none⟩ :: _) :: _) _ _ _; refine G.call callTruthP rfl rfl (wire_truthP q (some (k0 :: l)) _ false _ ⟨rfl, hk0.mono (by solve | repeat first | assumption | exact Zr _ | refine Zq ?_ Zp)⟩) Ze ?_; rintro _ h4 H4 ⟨⟨v4, b4, rfl, hp4⟩, rfl⟩ hle4) | (show G _ (.ops .seq _ (⟨some _, .call { callee := .value (.func 95), args := _, argTypes := _ }, _, _, _, none⟩ :: _) :: _) _ _ _; refine G.call callMaybe rfl rfl (wire_maybe q 4 (trS (some (k0 :: l))) _ _ _ (hp4.mono (by solve | repeat first | assumption | exact Zr _ | refine Zq ?_ Zp))) Ze ?_; rintro _ h5 H5 ⟨⟨v5, b5, rfl, hp5⟩, rfl⟩ hle5) | (show G _ (.ops .seq _ (⟨some _, .call { callee := .value (.func 93), args := _, argTypes := _ }, _, _, _, none⟩ :: _) :: _) _ _ _; refine G.call callEnd rfl rfl (wire_end0 q _ v5 b5 _ (hp5.mono (by solve | repeat first | assumption | exact Zr _ | refine Zq ?_ Zp))) Ze ?_; rintro _ h6 H6 ⟨rfl, rfl⟩ hle6) | (refine G.atCode ?_; first | refine G.seq ?_ | refine G.region ?_ | refine G.anyIn mixedOk ?_ | refine G.ret ?_ | (refine G.cond rfl ?_ ?_ <;> intro hc <;> (try simp only [tests, reduceCtorEq] at hc) <;> (try exact Zf))) | refine G.endOps ?_ | refine G.endHeld ?_ | refine G.back ?_ | (refine G.atGd ?_; first | refine G.guardYes rfl rfl ?_ | (refine G.guardS rfl rfl rfl ?_ ?_ <;> intro hc <;> (try simp only [tests, reduceCtorEq] at hc) <;> (try exact Zf))) | (refine G.atBin ?_; first | (refine G.atEql ?_; first | refine G.op rfl rfl ?_) | refine G.op rfl rfl ?_) | refine G.op rfl rfl ?_ | (refine G.atLen ?_; first | refine G.lenSlice rfl (tyy rfl) rfl ?_) | (refine G.atLoad ?_; first | refine G.loadOwn1 rfl (tyy rfl) rfl rfl Za rfl rfl ?_ | refine G.loadOwnA rfl (tyy rfl) rfl rfl Za rfl rfl ?_) | (refine G.atFld ?_; first | refine G.fieldAddr rfl (tyy rfl) rfl rfl ?_ | refine G.fieldAddrP rfl (tyy rfl) rfl rfl ?_) | (refine G.atSto ?_; refine G.storeOwn rfl rfl (tyy rfl) Za rfl rfl rfl rfl ?_))
      all_goals first | (exfalso; omega) | skip
      all_goals exact G.done (rs := [.cell 2 95, .tmp 3]) rfl (.cellA rfl (tyy rfl) rfl rfl Za rfl (.tmp rfl .nil)) rfl [] (SubH.nil _) ⟨⟨⟨_, trV (some (k0 :: l)), _, _⟩, _, rfl, ct_fin hs hs1 (s2 := trS (some (k0 :: l))) (by rw [e3, if_pos rfl]) (fun _ => by rw [e3, if_pos rfl])⟩, rfl⟩
    . have e1 : nxt 1 (some (k0 :: l)) = none := by rw [nxt, if_neg ht]
      have e3 : myB 1 (some (k0 :: l)) = false := by unfold myB; rw [e1]; rfl
      have hk0 := hk
      obtain ⟨A, c, rfl, hc, hm⟩ := hk.form
      obtain ⟨rows, hsl, hr⟩ := hk
      simp only [KidsC] at hr
      obtain ⟨r, rs, rfl, hn1, hrs⟩ := hr
      obtain ⟨kv1, rfl, hkv1⟩ := hn1.ks
      obtain ⟨A3, c3, rfl, _, _⟩ := hkv1.form
      have hl3 : ([.int .i64 k0.tag, str k0.data, .slice A3 k0.kids.length c3] : List Value).length = 3 := rfl
      simp only [List.length_cons] at *
      repeat' (first | (refine G.atAny ?_; first | refine G.anyAutoX slB rfl rfl Zw (by solve | exact Heap.none_le _ | assumption | exact Zr _ | (repeat first | assumption | exact Zr _ | refine Zq ?_ Zp)) Zd ?_ | refine G.anyKeep slB rfl Zw (by solve | exact Heap.none_le _ | assumption | exact Zr _ | (repeat first | assumption | exact Zr _ | refine Zq ?_ Zp)) Zu ?_ | refine G.anyOne rfl Zw (by solve | exact Heap.none_le _ | assumption | exact Zr _ | (repeat first | assumption | exact Zr _ | refine Zq ?_ Zp)) Zu ?_ | refine G.anyEndX Zw ?_) | (refine G.atIdx ?_; refine G.idxImm rfl rfl (tyy rfl) (tyy rfl) (hsl.mono (by solve | repeat first | assumption | exact Zr _ | refine Zq ?_ Zp)) Zj rfl (by simp only [List.length_cons]; omega) ?_; intro pp rr hx9 hp9; (obtain rfl := Option.some.inj hx9)) | (refine G.atLoad ?_; refine G.loadImmAt1 rfl (tyy rfl) rfl rfl Zp rfl rfl ?_) | (show G _ (.ops .seq _ (⟨some _, .call { callee := .value (.func 95), args := _, argTypes := _ }, _, _, _, none⟩ :: _) :: _) _ _ _; refine G.call callMaybe rfl rfl (wire_maybe q 4 (some (k0 :: l)) _ _ _ (⟨rfl, hk0.mono (by solve | repeat first | assumption | exact Zr _ | refine Zq ?_ Zp)⟩)) Ze ?_; rintro _ h5 H5 ⟨⟨v5, b5, rfl, hp5⟩, rfl⟩ hle5) | (show G _ (.ops .seq _ (⟨some _, .call { callee := .value (.func 93), args := _, argTypes := _ }, _, _, _, none⟩ :: _) :: _) _ _ _; refine G.call callEnd rfl rfl (wire_end0 q _ v5 b5 _ (hp5.mono (by solve | repeat first | assumption | exact Zr _ | refine Zq ?_ Zp))) Ze ?_; rintro _ h6 H6 ⟨rfl, rfl⟩ hle6) | (refine G.atCode ?_; first | refine G.seq ?_ | refine G.region ?_ | refine G.skip ?_ | refine G.anyIn mixedOk ?_ | refine G.ret ?_ | (refine G.cond rfl ?_ ?_ <;> intro hc <;> (try simp only [tests, reduceCtorEq] at hc) <;> (try exact Zf))) | refine G.endOps ?_ | refine G.endHeld ?_ | refine G.back ?_ | (refine G.atGd ?_; first | refine G.guardYes rfl rfl ?_ | (refine G.guardS rfl rfl rfl ?_ ?_ <;> intro hc <;> (try simp only [tests, reduceCtorEq] at hc) <;> (try exact Zf))) | (refine G.atBin ?_; first | (refine G.atEql ?_; first | refine G.op rfl rfl ?_) | refine G.op rfl rfl ?_) | refine G.op rfl rfl ?_ | (refine G.atLen ?_; first | refine G.lenSlice rfl (tyy rfl) rfl ?_) | (refine G.atLoad ?_; first | refine G.loadOwn1 rfl (tyy rfl) rfl rfl Za rfl rfl ?_ | refine G.loadOwnA rfl (tyy rfl) rfl rfl Za rfl rfl ?_) | (refine G.atFld ?_; first | refine G.fieldAddr rfl (tyy rfl) rfl rfl ?_ | refine G.fieldAddrP rfl (tyy rfl) rfl rfl ?_) | (refine G.atSto ?_; refine G.storeOwn rfl rfl (tyy rfl) Za rfl rfl rfl rfl ?_))
      all_goals first | (exfalso; omega) | skip
      all_goals exact G.done (rs := [.cell 2 95, .tmp 3]) rfl (.cellA rfl (tyy rfl) rfl rfl Za rfl (.tmp rfl .nil)) rfl [] (SubH.nil _) ⟨⟨⟨_, _, _, _⟩, _, rfl, ct_fin hs hs1 (s2 := some (k0 :: l)) (by rw [e3, if_neg Bool.false_ne_true]) (fun _ => by rw [e3, if_neg Bool.false_ne_true])⟩, rfl⟩
end Go.Proofs.YtibkffoeioidlaaDoor
