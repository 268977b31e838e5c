/- wire.operation: lists of attributes and of changes. -/
import Derived.Test.YtibkffoeioidlaaDoorWrK
namespace Go.Proofs.YtibkffoeioidlaaDoor
set_option linter.all false
set_option maxRecDepth 4000
open Go.RowKit

theorem wi_hd {t : Int} {n : Nd} {l : List Nd} (h : n.tag = t) : wiS t (some (n :: l)) = some n.kids /\ nxt t (some (n :: l)) = some l := by
  have e1 : nxt t (some (n :: l)) = some l := by rw [nxt, if_pos h]
  have e2 : nxN t (some (n :: l)) = n := by rw [nxN, if_pos h]
  exact ⟨by unfold wiS; rw [e1, e2, if_pos (show (some l : PS).isSome = true from rfl)], e1⟩
theorem wi_no {t : Int} {n : Nd} {l : List Nd} (h : n.tag ≠ t) : wiS t (some (n :: l)) = none /\ nxt t (some (n :: l)) = none := by
  have e1 : nxt t (some (n :: l)) = none := by rw [nxt, if_neg h]
  exact ⟨by unfold wiS; rw [e1, if_neg (by simp)], e1⟩
theorem atO_wi (n : Nd) (l : List Nd) : vlO (wiS 48 (some (n :: l))) = atO n := by
  unfold atO
  by_cases h : n.tag = 48
  . rw [(wi_hd (l := l) h).1, (wi_hd (l := []) h).1]
  . rw [(wi_no (l := l) h).1, (wi_no (l := []) h).1]
theorem atO_tag {n : Nd} {a : Atr} (h : atO n = some a) : n.tag = 48 := Classical.byContradiction fun hc => by
  unfold atO at h
  rw [(wi_no (l := []) hc).1] at h
  cases h
theorem at_fine {n : Nd} {l : List Nd} {nm : Bs} {vs : List Bs} {b : Bool} (h : (vlO (wiS 48 (some (n :: l))) = some (nm, vs) /\ b = true) \/ (vlO (wiS 48 (some (n :: l))) = none /\ b = false)) :
    (atO n = some (nm, vs) /\ b = true /\ n.tag = 48) \/ (atO n = none /\ b = false) := by
  rw [atO_wi] at h
  rcases h with ⟨h1, h2⟩ | ⟨h1, h2⟩
  . exact .inl ⟨h1, h2, atO_tag h1⟩
  . exact .inr ⟨h1, h2⟩
def attrsO (id op : Int) (n : Nd) : Option Ms := match wiS 48 (nxt 4 (some n.kids)), nxt 48 (nxt 4 (some n.kids)) with
  | some l, some [] => (match allO atO l with
    | some xs => if op = 4 \/ (xs.all fun a => decide (0 < a.2.length)) = true then some { zM with id := id, op := op, dn := txV (some n.kids), attrs := xs } else none
    | none => none)
  | _, _ => none
def qA (op : Int) (a : Atr) : Bool := decide (op = 4) || decide (0 < a.2.length)
theorem qA4 (a : Atr) : qA 4 a = true := rfl
theorem qA8 (nm : Bs) (vs : List Bs) : qA 8 (nm, vs) = decide ((vs.length : Int) > 0) := by
  unfold qA
  rw [show decide ((8 : Int) = 4) = false from rfl, Bool.false_or]
  exact decide_eq_decide.2 (by simp only; omega)
theorem qA_all {op : Int} (xs : List Atr) : (op = 4 \/ (xs.all fun a => decide (0 < a.2.length)) = true) ↔ xs.all (qA op) = true := by
  by_cases h : op = 4
  . subst h
    simp [qA]
  . simp [qA, h]
theorem attrs_fin {id op : Int} {n : Nd} {S0 S1 st : PS} {okb : Bool} {ys : List Atr} (h0 : wiS 48 (nxt 4 (some n.kids)) = S0) (h1 : nxt 48 (nxt 4 (some n.kids)) = S1) (hI : LsI atO (qA op) S0 st okb ys) (he : st = none \/ st = some []) :
    attrsO id op n = if (okb && (endP S1 && endP st)) = true then some { zM with id := id, op := op, dn := txV (some n.kids), attrs := ys } else none := by
  unfold attrsO
  rw [h0, h1]
  rcases hI.fin he with ⟨rfl, rfl, l, rfl, hl, hq⟩ | ⟨hb, hx⟩
  . match S1 with
    | none => rfl
    | some [] =>
      simp only
      rw [hl]
      simp only
      rw [if_pos ((qA_all ys).2 hq)]; rfl
    | some (a :: b) => rfl
  . have hbb : (okb && (endP S1 && endP st)) = false := by cases okb <;> simp_all
    rw [if_neg (by rw [hbb]; exact Bool.false_ne_true)]
    match S0, S1 with
    | none, _ => rfl
    | some l, none => rfl
    | some l, some (a :: b) => rfl
    | some l, some [] =>
      simp only
      cases hl : allO atO l with
      | none => rfl
      | some xs =>
        simp only
        have := hx l xs rfl hl
        rw [if_neg (by rw [qA_all, this]; exact Bool.false_ne_true)]
def mA (id op : Int) (n : Nd) (ys : List Atr) : Ms := { zM with id := id, op := op, dn := txV (some n.kids), attrs := ys }
set_option maxRecDepth 8000 in
set_option maxHeartbeats 8000000 in
theorem wire_op4 : OpSpec 4 := by
  intro gm id n hwt w hwf r h hn
  obtain ⟨kv, rfl, hkv⟩ := hn.ks
  obtain ⟨A, c, rfl, _, hm⟩ := hkv.form
  rw [show opR { zM with id := id, op := 4 } n = attrsO id 4 n from rfl]
  have hW := psW_some hwt
  have hw1 := psW_nxt 4 (some n.kids)
  have hw2 := psW_wi 48 (nxt 4 (some n.kids))
  have hT := fun g v b => wire_text g (some n.kids) v b
  have hWi := fun g v b h (hp : PtC h (nxt 4 (some n.kids)) v b) => wire_within g 48 (nxt 4 (some n.kids)) v b h hp
  unfold WiR at hWi
  generalize hS0 : wiS 48 (nxt 4 (some n.kids)) = S0 at *
  generalize hS1 : nxt 48 (nxt 4 (some n.kids)) = S1 at *
  refine Spec.enter Tryd.func62 rfl rfl ?_; intro w0
  repeat' (first | (show G _ (.ops .seq _ (⟨some _, .call { callee := .value (.func 91), args := _, argTypes := _ }, _, _, _, none⟩ :: _) :: _) _ _ _; refine G.call callTextW rfl rfl (hT _ _ false _ ⟨rfl, hkv.mono (by solve | repeat first | assumption | exact Zr _ | refine Zq ?_ Zp)⟩) Ze ?_; rintro _ h2 H2 ⟨⟨v2, b2, rfl, hp2⟩, rfl⟩ hle2) | (show G _ (.ops .seq _ (⟨some _, .call { callee := .value (.func 60), args := _, argTypes := _ }, _, _, _, none⟩ :: _) :: _) _ _ _; refine G.call callWithin rfl rfl (hWi _ _ _ _ (hp2.mono (by solve | repeat first | assumption | exact Zr _ | refine Zq ?_ Zp))) Ze ?_; rintro _ h3 H3 ⟨v3, b3, q, w3, bq, rfl, hp3, rfl, hq3, hqn⟩ hle3) | (refine G.atCode ?_; refine G.stopLoop ?_) | (refine G.atCode ?_; first | refine G.seq ?_ | refine G.region ?_ | refine G.block ?_ | refine G.skip ?_ | (refine G.cond rfl ?_ ?_ <;> intro hc <;> (try simp only [tests, reduceCtorEq] at hc) <;> (try exact Zf))) | refine G.endOps ?_ | (refine G.atBin ?_; first | (refine G.atEql ?_; first | refine G.op rfl rfl ?_)) | refine G.op rfl rfl ?_ | (refine G.atLoad ?_; first | refine G.loadOwn1 rfl (tyy rfl) rfl rfl Za rfl rfl ?_) | (refine G.atFld ?_; first | refine G.fieldAddr rfl (tyy rfl) rfl rfl ?_) | (refine G.atSto ?_; refine G.storeOwn rfl rfl (tyy rfl) Za rfl rfl rfl rfl ?_) | (refine G.atBox ?_; refine G.box rfl rfl rfl ?_; intro _) | (refine G.atBld ?_; refine G.build (tyy rfl) rfl rfl rfl ?_))
  all_goals first | (exfalso; omega) | skip
  rename_i gn gp _ _ _ _
  clear hT hWi
  refine G.nilRow 83 2 ?_
  refine G.go ?_
  refine G.loop (σ := PS × Value × Bool × Bool × List Atr × List (List Value) × Option Addr × Nat) (fun x => [(7, .bool x.2.2.2.1), (6, .pointer (some ⟨q, 0, none⟩)), (5, .pointer (some ⟨gp, 0, none⟩)), (0, .pointer (some ⟨gm, 0, none⟩))])
    (fun x => [msB gm (mA id 4 n x.2.2.2.2.1) nilV nilV nilV (.slice x.2.2.2.2.2.2.1 x.2.2.2.2.2.1.length x.2.2.2.2.2.2.2) nilV nilV, prt q x.2.1 x.2.2.1, prt gp v3 b3, .row (.slice x.2.2.2.2.2.2.1 x.2.2.2.2.2.1.length x.2.2.2.2.2.2.2) 83 2 x.2.2.2.2.2.1])
    (fun x h' => PtC h' x.1 x.2.1 x.2.2.1 /\ LsI atO (qA 4) S0 x.1 x.2.2.2.1 x.2.2.2.2.1 /\ LC AtrC h' x.2.2.2.2.1 x.2.2.2.2.2.1 /\ psW x.1 <= psW S0) (fun x => x.1.meas) ⟨S0, w3, bq, true, [], [], none, 0⟩ ⟨rfl, rfl, rfl, rfl, trivial⟩ Zu ⟨hq3, LsI.start _ _ S0, rfl, Nat.le_refl _⟩ ?_
  rintro ⟨st, vq, bd, okb, ys, rws, A, c⟩ h5 hle5 ⟨hst, hI, hL, hpw⟩
  simp only at hst hI hL hpw
  refine G.norm (by (try dsimp only) <;> exact rfl) (by (try dsimp only) <;> exact rfl) ?_
  have hll := hL.len
  have hml := hI.1
  have hms : S0.meas <= 100000001 := by
    cases S0 with
    | none => exact Nat.zero_le _
    | some l => have := wts_len l; simp only [PS.meas, psW] at *; omega
  match st, hst with
  | none, ⟨e, l, hk⟩ =>
    subst e
    obtain ⟨Aq, cq, rfl, _, hm⟩ := hk.form
    refine G.freezeRow (v := .slice A rws.length c) Za ?_
    intro h11 hle11 hs11
    have hfin := attrs_fin (id := id) (op := 4) (n := n) hS0 hS1 hI (.inl rfl)
    cases okb
    . repeat' (first | (refine G.atCode ?_; first | refine G.seq ?_ | refine G.region ?_ | refine G.exit rfl ?_ | refine G.ret ?_ | (refine G.cond rfl ?_ ?_ <;> intro hc <;> (try simp only [tests, reduceCtorEq] at hc) <;> (try exact Zf))) | refine G.endOps ?_ | (refine G.atGd ?_; first | refine G.guardYes rfl rfl ?_ | refine G.guardNoS rfl rfl rfl ?_ | (refine G.guardS rfl rfl rfl ?_ ?_ <;> intro hc <;> (try simp only [tests, reduceCtorEq] at hc) <;> (try exact Zf))) | (refine G.atBin ?_; first | refine G.op rfl rfl ?_) | refine G.op rfl rfl ?_ | (refine G.atLen ?_; first | refine G.lenSlice rfl (tyy rfl) rfl ?_) | (refine G.atLoad ?_; first | refine G.loadOwn1 rfl (tyy rfl) rfl rfl Za rfl rfl ?_) | (refine G.atFld ?_; first | refine G.fieldAddr rfl (tyy rfl) rfl rfl ?_))
      all_goals first | (exfalso; omega) | skip
      all_goals exact G.done1 rfl rfl [msB gm _ _ _ _ _ _ _] Zu (OpR.no (m' := mA id 4 n ys) (by rw [hfin]; rfl))
    . repeat' (first | (show G _ (.ops .seq _ (⟨some _, .call { callee := .value (.func 93), args := _, argTypes := _ }, _, _, _, none⟩ :: _) :: _) _ _ _; refine G.call callEnd rfl rfl (wire_end1 _ _ _ S1 none v3 _ b3 true _ (hp3.mono (by solve | repeat first | assumption | exact Zr _ | refine Zq ?_ Zp)) ⟨rfl, l, hk.mono (by solve | repeat first | assumption | exact Zr _ | refine Zq ?_ Zp)⟩) Ze ?_; rintro _ h12 H12 ⟨rfl, rfl⟩ hle12) | (refine G.atCode ?_; first | refine G.seq ?_ | refine G.region ?_ | refine G.exit rfl ?_ | refine G.ret ?_ | (refine G.cond rfl ?_ ?_ <;> intro hc <;> (try simp only [tests, reduceCtorEq] at hc) <;> (try exact Zf))) | refine G.endOps ?_ | (refine G.atGd ?_; first | refine G.guardYes rfl rfl ?_ | refine G.guardNoS rfl rfl rfl ?_ | (refine G.guardS rfl rfl rfl ?_ ?_ <;> intro hc <;> (try simp only [tests, reduceCtorEq] at hc) <;> (try exact Zf))) | (refine G.atBin ?_; first | refine G.op rfl rfl ?_) | refine G.op rfl rfl ?_ | (refine G.atLen ?_; first | refine G.lenSlice rfl (tyy rfl) rfl ?_) | (refine G.atLoad ?_; first | refine G.loadOwn1 rfl (tyy rfl) rfl rfl Za rfl rfl ?_) | (refine G.atFld ?_; first | refine G.fieldAddr rfl (tyy rfl) rfl rfl ?_) | (refine G.atBsl ?_; refine G.buildSlice (tyy rfl) (tyy rfl) rfl rfl rfl rfl ?_; intro _))
      all_goals first | (exfalso; omega) | skip
      all_goals exact G.done1 rfl rfl [msB gm _ _ _ _ _ _ _] Zu (OpR.ofB (m' := mA id 4 n ys) (endP S1 && endP none) hfin ⟨zF_C _, HSl.nil _ 1, ⟨_, hs11.mono (by solve | repeat first | assumption | exact Zr _ | refine Zq ?_ Zp), hL.mono (fun x => x.mono (by solve | repeat first | assumption | exact Zr _ | refine Zq ?_ Zp))⟩, SC.nil _ 3 _, HSl.nil _ 4⟩)
  | some [], ⟨e, hk⟩ =>
    subst e
    obtain ⟨Aq, cq, rfl, _, hm⟩ := hk.form
    refine G.freezeRow (v := .slice A rws.length c) Za ?_
    intro h11 hle11 hs11
    have hfin := attrs_fin (id := id) (op := 4) (n := n) hS0 hS1 hI (.inr rfl)
    cases okb
    . repeat' (first | (refine G.atCode ?_; first | refine G.seq ?_ | refine G.region ?_ | refine G.exit rfl ?_ | refine G.ret ?_ | (refine G.cond rfl ?_ ?_ <;> intro hc <;> (try simp only [tests, reduceCtorEq] at hc) <;> (try exact Zf))) | refine G.endOps ?_ | (refine G.atGd ?_; first | refine G.guardNoS rfl rfl rfl ?_) | (refine G.atBin ?_; first | refine G.op rfl rfl ?_) | refine G.op rfl rfl ?_ | (refine G.atLen ?_; first | refine G.lenSlice rfl (tyy rfl) rfl ?_) | (refine G.atLoad ?_; first | refine G.loadOwn1 rfl (tyy rfl) rfl rfl Za rfl rfl ?_) | (refine G.atFld ?_; first | refine G.fieldAddr rfl (tyy rfl) rfl rfl ?_))
      all_goals first | (exfalso; omega) | skip
      all_goals exact G.done1 rfl rfl [msB gm _ _ _ _ _ _ _] Zu (OpR.no (m' := mA id 4 n ys) (by rw [hfin]; rfl))
    . repeat' (first | (show G _ (.ops .seq _ (⟨some _, .call { callee := .value (.func 93), args := _, argTypes := _ }, _, _, _, none⟩ :: _) :: _) _ _ _; refine G.call callEnd rfl rfl (wire_end1 _ _ _ S1 (some []) v3 _ b3 false _ (hp3.mono (by solve | repeat first | assumption | exact Zr _ | refine Zq ?_ Zp)) ⟨rfl, hk.mono (by solve | repeat first | assumption | exact Zr _ | refine Zq ?_ Zp)⟩) Ze ?_; rintro _ h12 H12 ⟨rfl, rfl⟩ hle12) | (refine G.atCode ?_; first | refine G.seq ?_ | refine G.region ?_ | refine G.exit rfl ?_ | refine G.ret ?_ | (refine G.cond rfl ?_ ?_ <;> intro hc <;> (try simp only [tests, reduceCtorEq] at hc) <;> (try exact Zf))) | refine G.endOps ?_ | (refine G.atGd ?_; first | refine G.guardYes rfl rfl ?_ | refine G.guardNoS rfl rfl rfl ?_) | (refine G.atBin ?_; first | refine G.op rfl rfl ?_) | refine G.op rfl rfl ?_ | (refine G.atLen ?_; first | refine G.lenSlice rfl (tyy rfl) rfl ?_) | (refine G.atLoad ?_; first | refine G.loadOwn1 rfl (tyy rfl) rfl rfl Za rfl rfl ?_) | (refine G.atFld ?_; first | refine G.fieldAddr rfl (tyy rfl) rfl rfl ?_) | (refine G.atBsl ?_; refine G.buildSlice (tyy rfl) (tyy rfl) rfl rfl rfl rfl ?_; intro _))
      all_goals first | (exfalso; omega) | skip
      all_goals exact G.done1 rfl rfl [msB gm _ _ _ _ _ _ _] Zu (OpR.ofB (m' := mA id 4 n ys) (endP S1 && endP (some [])) hfin ⟨zF_C _, HSl.nil _ 1, ⟨_, hs11.mono (by solve | repeat first | assumption | exact Zr _ | refine Zq ?_ Zp), hL.mono (fun x => x.mono (by solve | repeat first | assumption | exact Zr _ | refine Zq ?_ Zp))⟩, SC.nil _ 3 _, HSl.nil _ 4⟩)
  | some (k :: r2), ⟨e, hk⟩ =>
    subst e
    have hk0 := hk
    obtain ⟨Aq, cq, rfl, _, hm⟩ := hk.form
    have hpn := psW_nxt 48 (some (k :: r2))
    have hpi := psW_wi 48 (some (k :: r2))
    have hWi2 := fun g v b h (hp : PtC h (some (k :: r2)) v b) => wire_within g 48 (some (k :: r2)) v b h hp
    unfold WiR at hWi2
    have hVl := fun g v b h (hp : PtC h (wiS 48 (some (k :: r2))) v b) => wire_values g (wiS 48 (some (k :: r2))) v b (by omega) h hp
    have hmt := meas_nxt 48 k r2
    simp only [List.length_cons] at *
    repeat' (first | (refine G.atAny ?_; first | refine G.anyAutoX slB rfl rfl Zw (by solve | exact Heap.none_le _ | assumption | exact Zr _ | (repeat first | assumption | exact Zr _ | refine Zq ?_ Zp)) Zd ?_ | refine G.anyKeep slB rfl Zw (by solve | exact Heap.none_le _ | assumption | exact Zr _ | (repeat first | assumption | exact Zr _ | refine Zq ?_ Zp)) Zu ?_ | refine G.anyOne rfl Zw (by solve | exact Heap.none_le _ | assumption | exact Zr _ | (repeat first | assumption | exact Zr _ | refine Zq ?_ Zp)) Zu ?_ | refine G.anyEndX Zw ?_) | (show G _ (.ops .seq _ (⟨some _, .call { callee := .value (.func 60), args := _, argTypes := _ }, _, _, _, none⟩ :: _) :: _) _ _ _; refine G.call callWithin rfl rfl (hWi2 q _ false _ ⟨rfl, hk0.mono (by solve | repeat first | assumption | exact Zr _ | refine Zq ?_ Zp)⟩) Ze ?_; rintro _ h7 H7 ⟨v7, b7, q7, w7, bq7, rfl, hp7, rfl, hq7, hqn7⟩ hle7) | (show G _ (.ops .seq _ (⟨some _, .call { callee := .value (.func 92), args := _, argTypes := _ }, _, _, _, none⟩ :: _) :: _) _ _ _; refine G.call callValues rfl rfl (hVl q7 _ _ _ (hq7.mono (by solve | repeat first | assumption | exact Zr _ | refine Zq ?_ Zp))) Ze ?_; rintro _ h9 H9 ⟨⟨nm, vA, vc, vs, fb, rfl, hvs, hvl, hvr⟩, rfl⟩ hle9) | (refine G.atApp ?_; refine G.append1 rfl rfl (tyy rfl) (tyy rfl) rfl rfl Za Za rfl rfl rfl Zo ?_; intro _; refine G.rowForm Take.hd ?_; rintro _ _ rfl) | (refine G.atCode ?_; first | refine G.seq ?_ | refine G.region ?_ | refine G.block ?_ | refine G.skip ?_ | refine G.anyIn mixedOk ?_ | (refine G.cond rfl ?_ ?_ <;> intro hc <;> (try simp only [tests, reduceCtorEq] at hc) <;> (try exact Zf))) | refine G.endOps ?_ | refine G.endHeld ?_ | refine G.back ?_ | refine G.endBlk ?_ | (refine G.atGd ?_; first | refine G.guardYes rfl rfl ?_ | refine G.guardNoS rfl rfl rfl ?_ | refine G.guardU rfl rfl rfl ?_ | (refine G.guardS rfl rfl rfl ?_ ?_ <;> intro hc <;> (try simp only [tests, reduceCtorEq] at hc) <;> (try exact Zf))) | (refine G.atBin ?_; first | (refine G.atEql ?_; first | refine G.op rfl rfl ?_) | refine G.op rfl rfl ?_) | refine G.op rfl rfl ?_ | (refine G.atLen ?_; first | refine G.lenSlice rfl (tyy rfl) rfl ?_) | (refine G.atLoad ?_; first | refine G.loadOwn1 rfl (tyy rfl) rfl rfl Za rfl rfl ?_ | refine G.loadOwnA rfl (tyy rfl) rfl rfl Za rfl rfl ?_) | (refine G.atFld ?_; first | refine G.fieldAddr rfl (tyy rfl) rfl rfl ?_) | (refine G.atSto ?_; refine G.storeOwn rfl rfl (tyy rfl) Za rfl rfl rfl rfl ?_) | (refine G.atAlc ?_; refine G.alloc (tyy rfl) rfl rfl ?_; intro _) | (refine G.atBsl ?_; refine G.buildSlice (tyy rfl) (tyy rfl) rfl rfl rfl rfl ?_; intro _))
    all_goals first | (exfalso; omega) | skip
    all_goals
      rename_i A' c'
      refine G.again ⟨nxt 48 (some (k :: r2)), v7, b7, okb && (fb && qA 4 (nm, vs)), ys ++ [(nm, vs)], rws ++ [[str nm, .slice vA vs.length vc]], A', c'⟩ ⟨?_, rfl, rfl, rfl, trivial⟩ Zu ⟨hp7.mono (by solve | repeat first | assumption | exact Zr _ | refine Zq ?_ Zp), hI.step (nm, vs) fb 48 (at_fine hvr), (hL.mono (fun x => x.mono (by solve | repeat first | assumption | exact Zr _ | refine Zq ?_ Zp))).append (LC.one ⟨_, rfl, hvs.mono (by solve | repeat first | assumption | exact Zr _ | refine Zq ?_ Zp)⟩), by simp only; omega⟩ (by solve | repeat first | assumption | exact Zr _ | refine Zq ?_ Zp) hmt
      first
          | (rw [‹okb = true›, ‹fb = true›, qA4]; rfl)
          | (rw [‹okb = true›, ‹fb = false›]; rfl)
          | (rw [‹okb = false›]; rfl)
set_option maxRecDepth 8000 in
set_option maxHeartbeats 8000000 in
theorem wire_op8 : OpSpec 8 := by
  intro gm id n hwt w hwf r h hn
  obtain ⟨kv, rfl, hkv⟩ := hn.ks
  obtain ⟨A, c, rfl, _, hm⟩ := hkv.form
  rw [show opR { zM with id := id, op := 8 } n = attrsO id 8 n from rfl]
  have hW := psW_some hwt
  have hw1 := psW_nxt 4 (some n.kids)
  have hw2 := psW_wi 48 (nxt 4 (some n.kids))
  have hT := fun g v b => wire_text g (some n.kids) v b
  have hWi := fun g v b h (hp : PtC h (nxt 4 (some n.kids)) v b) => wire_within g 48 (nxt 4 (some n.kids)) v b h hp
  unfold WiR at hWi
  generalize hS0 : wiS 48 (nxt 4 (some n.kids)) = S0 at *
  generalize hS1 : nxt 48 (nxt 4 (some n.kids)) = S1 at *
  refine Spec.enter Tryd.func62 rfl rfl ?_; intro w0
  repeat' (first | (show G _ (.ops .seq _ (⟨some _, .call { callee := .value (.func 91), args := _, argTypes := _ }, _, _, _, none⟩ :: _) :: _) _ _ _; refine G.call callTextW rfl rfl (hT _ _ false _ ⟨rfl, hkv.mono (by solve | repeat first | assumption | exact Zr _ | refine Zq ?_ Zp)⟩) Ze ?_; rintro _ h2 H2 ⟨⟨v2, b2, rfl, hp2⟩, rfl⟩ hle2) | (show G _ (.ops .seq _ (⟨some _, .call { callee := .value (.func 60), args := _, argTypes := _ }, _, _, _, none⟩ :: _) :: _) _ _ _; refine G.call callWithin rfl rfl (hWi _ _ _ _ (hp2.mono (by solve | repeat first | assumption | exact Zr _ | refine Zq ?_ Zp))) Ze ?_; rintro _ h3 H3 ⟨v3, b3, q, w3, bq, rfl, hp3, rfl, hq3, hqn⟩ hle3) | (refine G.atCode ?_; refine G.stopLoop ?_) | (refine G.atCode ?_; first | refine G.seq ?_ | refine G.region ?_ | refine G.block ?_ | (refine G.cond rfl ?_ ?_ <;> intro hc <;> (try simp only [tests, reduceCtorEq] at hc) <;> (try exact Zf))) | refine G.endOps ?_ | (refine G.atBin ?_; first | (refine G.atEql ?_; first | refine G.op rfl rfl ?_)) | refine G.op rfl rfl ?_ | (refine G.atLoad ?_; first | refine G.loadOwn1 rfl (tyy rfl) rfl rfl Za rfl rfl ?_) | (refine G.atFld ?_; first | refine G.fieldAddr rfl (tyy rfl) rfl rfl ?_) | (refine G.atSto ?_; refine G.storeOwn rfl rfl (tyy rfl) Za rfl rfl rfl rfl ?_) | (refine G.atBox ?_; refine G.box rfl rfl rfl ?_; intro _) | (refine G.atBld ?_; refine G.build (tyy rfl) rfl rfl rfl ?_))
  all_goals first | (exfalso; omega) | skip
  rename_i gn gp _ _ _ _
  clear hT hWi
  refine G.nilRow 83 2 ?_
  refine G.go ?_
  refine G.loop (σ := PS × Value × Bool × Bool × List Atr × List (List Value) × Option Addr × Nat) (fun x => [(7, .bool x.2.2.2.1), (6, .pointer (some ⟨q, 0, none⟩)), (5, .pointer (some ⟨gp, 0, none⟩)), (0, .pointer (some ⟨gm, 0, none⟩))])
    (fun x => [msB gm (mA id 8 n x.2.2.2.2.1) nilV nilV nilV (.slice x.2.2.2.2.2.2.1 x.2.2.2.2.2.1.length x.2.2.2.2.2.2.2) nilV nilV, prt q x.2.1 x.2.2.1, prt gp v3 b3, .row (.slice x.2.2.2.2.2.2.1 x.2.2.2.2.2.1.length x.2.2.2.2.2.2.2) 83 2 x.2.2.2.2.2.1])
    (fun x h' => PtC h' x.1 x.2.1 x.2.2.1 /\ LsI atO (qA 8) S0 x.1 x.2.2.2.1 x.2.2.2.2.1 /\ LC AtrC h' x.2.2.2.2.1 x.2.2.2.2.2.1 /\ psW x.1 <= psW S0) (fun x => x.1.meas) ⟨S0, w3, bq, true, [], [], none, 0⟩ ⟨rfl, rfl, rfl, rfl, trivial⟩ Zu ⟨hq3, LsI.start _ _ S0, rfl, Nat.le_refl _⟩ ?_
  rintro ⟨st, vq, bd, okb, ys, rws, A, c⟩ h5 hle5 ⟨hst, hI, hL, hpw⟩
  simp only at hst hI hL hpw
  refine G.norm (by (try dsimp only) <;> exact rfl) (by (try dsimp only) <;> exact rfl) ?_
  have hll := hL.len
  have hml := hI.1
  have hms : S0.meas <= 100000001 := by
    cases S0 with
    | none => exact Nat.zero_le _
    | some l => have := wts_len l; simp only [PS.meas, psW] at *; omega
  match st, hst with
  | none, ⟨e, l, hk⟩ =>
    subst e
    obtain ⟨Aq, cq, rfl, _, hm⟩ := hk.form
    refine G.freezeRow (v := .slice A rws.length c) Za ?_
    intro h11 hle11 hs11
    have hfin := attrs_fin (id := id) (op := 8) (n := n) hS0 hS1 hI (.inl rfl)
    cases okb
    . repeat' (first | (refine G.atCode ?_; first | refine G.seq ?_ | refine G.region ?_ | refine G.exit rfl ?_ | refine G.ret ?_ | (refine G.cond rfl ?_ ?_ <;> intro hc <;> (try simp only [tests, reduceCtorEq] at hc) <;> (try exact Zf))) | refine G.endOps ?_ | (refine G.atGd ?_; first | refine G.guardYes rfl rfl ?_ | refine G.guardNoS rfl rfl rfl ?_ | (refine G.guardS rfl rfl rfl ?_ ?_ <;> intro hc <;> (try simp only [tests, reduceCtorEq] at hc) <;> (try exact Zf))) | (refine G.atBin ?_; first | refine G.op rfl rfl ?_) | refine G.op rfl rfl ?_ | (refine G.atLen ?_; first | refine G.lenSlice rfl (tyy rfl) rfl ?_) | (refine G.atLoad ?_; first | refine G.loadOwn1 rfl (tyy rfl) rfl rfl Za rfl rfl ?_) | (refine G.atFld ?_; first | refine G.fieldAddr rfl (tyy rfl) rfl rfl ?_))
      all_goals first | (exfalso; omega) | skip
      all_goals exact G.done1 rfl rfl [msB gm _ _ _ _ _ _ _] Zu (OpR.no (m' := mA id 8 n ys) (by rw [hfin]; rfl))
    . repeat' (first | (show G _ (.ops .seq _ (⟨some _, .call { callee := .value (.func 93), args := _, argTypes := _ }, _, _, _, none⟩ :: _) :: _) _ _ _; refine G.call callEnd rfl rfl (wire_end1 _ _ _ S1 none v3 _ b3 true _ (hp3.mono (by solve | repeat first | assumption | exact Zr _ | refine Zq ?_ Zp)) ⟨rfl, l, hk.mono (by solve | repeat first | assumption | exact Zr _ | refine Zq ?_ Zp)⟩) Ze ?_; rintro _ h12 H12 ⟨rfl, rfl⟩ hle12) | (refine G.atCode ?_; first | refine G.seq ?_ | refine G.region ?_ | refine G.exit rfl ?_ | refine G.ret ?_ | (refine G.cond rfl ?_ ?_ <;> intro hc <;> (try simp only [tests, reduceCtorEq] at hc) <;> (try exact Zf))) | refine G.endOps ?_ | (refine G.atGd ?_; first | refine G.guardYes rfl rfl ?_ | refine G.guardNoS rfl rfl rfl ?_ | (refine G.guardS rfl rfl rfl ?_ ?_ <;> intro hc <;> (try simp only [tests, reduceCtorEq] at hc) <;> (try exact Zf))) | (refine G.atBin ?_; first | refine G.op rfl rfl ?_) | refine G.op rfl rfl ?_ | (refine G.atLen ?_; first | refine G.lenSlice rfl (tyy rfl) rfl ?_) | (refine G.atLoad ?_; first | refine G.loadOwn1 rfl (tyy rfl) rfl rfl Za rfl rfl ?_) | (refine G.atFld ?_; first | refine G.fieldAddr rfl (tyy rfl) rfl rfl ?_) | (refine G.atBsl ?_; refine G.buildSlice (tyy rfl) (tyy rfl) rfl rfl rfl rfl ?_; intro _))
      all_goals first | (exfalso; omega) | skip
      all_goals exact G.done1 rfl rfl [msB gm _ _ _ _ _ _ _] Zu (OpR.ofB (m' := mA id 8 n ys) (endP S1 && endP none) hfin ⟨zF_C _, HSl.nil _ 1, ⟨_, hs11.mono (by solve | repeat first | assumption | exact Zr _ | refine Zq ?_ Zp), hL.mono (fun x => x.mono (by solve | repeat first | assumption | exact Zr _ | refine Zq ?_ Zp))⟩, SC.nil _ 3 _, HSl.nil _ 4⟩)
  | some [], ⟨e, hk⟩ =>
    subst e
    obtain ⟨Aq, cq, rfl, _, hm⟩ := hk.form
    refine G.freezeRow (v := .slice A rws.length c) Za ?_
    intro h11 hle11 hs11
    have hfin := attrs_fin (id := id) (op := 8) (n := n) hS0 hS1 hI (.inr rfl)
    cases okb
    . repeat' (first | (refine G.atCode ?_; first | refine G.seq ?_ | refine G.region ?_ | refine G.exit rfl ?_ | refine G.ret ?_ | (refine G.cond rfl ?_ ?_ <;> intro hc <;> (try simp only [tests, reduceCtorEq] at hc) <;> (try exact Zf))) | refine G.endOps ?_ | (refine G.atGd ?_; first | refine G.guardNoS rfl rfl rfl ?_) | (refine G.atBin ?_; first | refine G.op rfl rfl ?_) | refine G.op rfl rfl ?_ | (refine G.atLen ?_; first | refine G.lenSlice rfl (tyy rfl) rfl ?_) | (refine G.atLoad ?_; first | refine G.loadOwn1 rfl (tyy rfl) rfl rfl Za rfl rfl ?_) | (refine G.atFld ?_; first | refine G.fieldAddr rfl (tyy rfl) rfl rfl ?_))
      all_goals first | (exfalso; omega) | skip
      all_goals exact G.done1 rfl rfl [msB gm _ _ _ _ _ _ _] Zu (OpR.no (m' := mA id 8 n ys) (by rw [hfin]; rfl))
    . repeat' (first | (show G _ (.ops .seq _ (⟨some _, .call { callee := .value (.func 93), args := _, argTypes := _ }, _, _, _, none⟩ :: _) :: _) _ _ _; refine G.call callEnd rfl rfl (wire_end1 _ _ _ S1 (some []) v3 _ b3 false _ (hp3.mono (by solve | repeat first | assumption | exact Zr _ | refine Zq ?_ Zp)) ⟨rfl, hk.mono (by solve | repeat first | assumption | exact Zr _ | refine Zq ?_ Zp)⟩) Ze ?_; rintro _ h12 H12 ⟨rfl, rfl⟩ hle12) | (refine G.atCode ?_; first | refine G.seq ?_ | refine G.region ?_ | refine G.exit rfl ?_ | refine G.ret ?_ | (refine G.cond rfl ?_ ?_ <;> intro hc <;> (try simp only [tests, reduceCtorEq] at hc) <;> (try exact Zf))) | refine G.endOps ?_ | (refine G.atGd ?_; first | refine G.guardYes rfl rfl ?_ | refine G.guardNoS rfl rfl rfl ?_) | (refine G.atBin ?_; first | refine G.op rfl rfl ?_) | refine G.op rfl rfl ?_ | (refine G.atLen ?_; first | refine G.lenSlice rfl (tyy rfl) rfl ?_) | (refine G.atLoad ?_; first | refine G.loadOwn1 rfl (tyy rfl) rfl rfl Za rfl rfl ?_) | (refine G.atFld ?_; first | refine G.fieldAddr rfl (tyy rfl) rfl rfl ?_) | (refine G.atBsl ?_; refine G.buildSlice (tyy rfl) (tyy rfl) rfl rfl rfl rfl ?_; intro _))
      all_goals first | (exfalso; omega) | skip
      all_goals exact G.done1 rfl rfl [msB gm _ _ _ _ _ _ _] Zu (OpR.ofB (m' := mA id 8 n ys) (endP S1 && endP (some [])) hfin ⟨zF_C _, HSl.nil _ 1, ⟨_, hs11.mono (by solve | repeat first | assumption | exact Zr _ | refine Zq ?_ Zp), hL.mono (fun x => x.mono (by solve | repeat first | assumption | exact Zr _ | refine Zq ?_ Zp))⟩, SC.nil _ 3 _, HSl.nil _ 4⟩)
  | some (k :: r2), ⟨e, hk⟩ =>
    subst e
    have hk0 := hk
    obtain ⟨Aq, cq, rfl, _, hm⟩ := hk.form
    have hpn := psW_nxt 48 (some (k :: r2))
    have hpi := psW_wi 48 (some (k :: r2))
    have hWi2 := fun g v b h (hp : PtC h (some (k :: r2)) v b) => wire_within g 48 (some (k :: r2)) v b h hp
    unfold WiR at hWi2
    have hVl := fun g v b h (hp : PtC h (wiS 48 (some (k :: r2))) v b) => wire_values g (wiS 48 (some (k :: r2))) v b (by omega) h hp
    have hmt := meas_nxt 48 k r2
    simp only [List.length_cons] at *
    repeat' (first | (refine G.atAny ?_; first | refine G.anyAutoX slB rfl rfl Zw (by solve | exact Heap.none_le _ | assumption | exact Zr _ | (repeat first | assumption | exact Zr _ | refine Zq ?_ Zp)) Zd ?_ | refine G.anyKeep slB rfl Zw (by solve | exact Heap.none_le _ | assumption | exact Zr _ | (repeat first | assumption | exact Zr _ | refine Zq ?_ Zp)) Zu ?_ | refine G.anyOne rfl Zw (by solve | exact Heap.none_le _ | assumption | exact Zr _ | (repeat first | assumption | exact Zr _ | refine Zq ?_ Zp)) Zu ?_ | refine G.anyEndX Zw ?_) | (show G _ (.ops .seq _ (⟨some _, .call { callee := .value (.func 60), args := _, argTypes := _ }, _, _, _, none⟩ :: _) :: _) _ _ _; refine G.call callWithin rfl rfl (hWi2 q _ false _ ⟨rfl, hk0.mono (by solve | repeat first | assumption | exact Zr _ | refine Zq ?_ Zp)⟩) Ze ?_; rintro _ h7 H7 ⟨v7, b7, q7, w7, bq7, rfl, hp7, rfl, hq7, hqn7⟩ hle7) | (show G _ (.ops .seq _ (⟨some _, .call { callee := .value (.func 92), args := _, argTypes := _ }, _, _, _, none⟩ :: _) :: _) _ _ _; refine G.call callValues rfl rfl (hVl q7 _ _ _ (hq7.mono (by solve | repeat first | assumption | exact Zr _ | refine Zq ?_ Zp))) Ze ?_; rintro _ h9 H9 ⟨⟨nm, vA, vc, vs, fb, rfl, hvs, hvl, hvr⟩, rfl⟩ hle9) | (refine G.atApp ?_; refine G.append1 rfl rfl (tyy rfl) (tyy rfl) rfl rfl Za Za rfl rfl rfl Zo ?_; intro _; refine G.rowForm Take.hd ?_; rintro _ _ rfl) | (refine G.atCode ?_; first | refine G.seq ?_ | refine G.region ?_ | refine G.block ?_ | refine G.skip ?_ | refine G.anyIn mixedOk ?_ | (refine G.cond rfl ?_ ?_ <;> intro hc <;> (try simp only [tests, reduceCtorEq] at hc) <;> (try exact Zf))) | refine G.endOps ?_ | refine G.endHeld ?_ | refine G.back ?_ | refine G.endBlk ?_ | (refine G.atGd ?_; first | refine G.guardYes rfl rfl ?_ | refine G.guardNoS rfl rfl rfl ?_ | refine G.guardU rfl rfl rfl ?_ | (refine G.guardS rfl rfl rfl ?_ ?_ <;> intro hc <;> (try simp only [tests, reduceCtorEq] at hc) <;> (try exact Zf))) | (refine G.atBin ?_; first | (refine G.atEql ?_; first | refine G.op rfl rfl ?_) | refine G.op rfl rfl ?_) | refine G.op rfl rfl ?_ | (refine G.atLen ?_; first | refine G.lenSlice rfl (tyy rfl) rfl ?_) | (refine G.atLoad ?_; first | refine G.loadOwn1 rfl (tyy rfl) rfl rfl Za rfl rfl ?_ | refine G.loadOwnA rfl (tyy rfl) rfl rfl Za rfl rfl ?_) | (refine G.atFld ?_; first | refine G.fieldAddr rfl (tyy rfl) rfl rfl ?_) | (refine G.atSto ?_; refine G.storeOwn rfl rfl (tyy rfl) Za rfl rfl rfl rfl ?_) | (refine G.atAlc ?_; refine G.alloc (tyy rfl) rfl rfl ?_; intro _) | (refine G.atBsl ?_; refine G.buildSlice (tyy rfl) (tyy rfl) rfl rfl rfl rfl ?_; intro _))
    all_goals first | (exfalso; omega) | skip
    all_goals
      rename_i A' c'
      refine G.again ⟨nxt 48 (some (k :: r2)), v7, b7, okb && (fb && qA 8 (nm, vs)), ys ++ [(nm, vs)], rws ++ [[str nm, .slice vA vs.length vc]], A', c'⟩ ⟨?_, rfl, rfl, rfl, trivial⟩ Zu ⟨hp7.mono (by solve | repeat first | assumption | exact Zr _ | refine Zq ?_ Zp), hI.step (nm, vs) fb 48 (at_fine hvr), (hL.mono (fun x => x.mono (by solve | repeat first | assumption | exact Zr _ | refine Zq ?_ Zp))).append (LC.one ⟨_, rfl, hvs.mono (by solve | repeat first | assumption | exact Zr _ | refine Zq ?_ Zp)⟩), by simp only; omega⟩ (by solve | repeat first | assumption | exact Zr _ | refine Zq ?_ Zp) hmt
      first
          | (rw [‹okb = true›, ‹fb = true›, qA8]; rfl)
          | (rw [‹okb = true›, ‹fb = false›]; rfl)
          | (rw [‹okb = false›]; rfl)
end Go.Proofs.YtibkffoeioidlaaDoor
