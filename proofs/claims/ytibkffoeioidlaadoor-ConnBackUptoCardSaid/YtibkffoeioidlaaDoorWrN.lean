/- wire.operation: lists of changes; all operations. -/
import Derived.Test.YtibkffoeioidlaaDoorWrL
import Derived.Test.YtibkffoeioidlaaDoorWrD
namespace Go.Proofs.YtibkffoeioidlaaDoor
set_option linter.all false
set_option maxRecDepth 4000
open Go.RowKit

theorem wi_any (n : Nd) (l : List Nd) : wiS 48 (some (n :: l)) = wiS 48 (some [n]) := by
  by_cases h : n.tag = 48
  . rw [(wi_hd (l := l) h).1, (wi_hd (l := []) h).1]
  . rw [(wi_no (l := l) h).1, (wi_no (l := []) h).1]
theorem mdO_tag {n : Nd} {a : Mdf} (h : mdO n = some a) : n.tag = 48 := Classical.byContradiction fun hc => by
  unfold mdO at h
  rw [(wi_no (l := []) hc).1] at h
  cases h
theorem md_fine {n : Nd} {l : List Nd} {X X1 : PS} {V : Int} (hX : wiS 48 (some (n :: l)) = X) (hX1 : nmS 10 0 2 X = X1) (hV : nmV 10 0 2 X = V) {nm : Bs} {vs : List Bs} {b : Bool} (h : (vlO (wiS 48 X1) = some (nm, vs) /\ b = true) \/ (vlO (wiS 48 X1) = none /\ b = false)) :
    (mdO n = some ⟨V, nm, vs⟩ /\ (b && endP (nxt 48 X1)) = true /\ n.tag = 48) \/ (mdO n = none /\ (b && endP (nxt 48 X1)) = false) := by
  rw [wi_any] at hX
  have e : mdO n = match vlO (wiS 48 X1), nxt 48 X1 with
    | some a, some [] => some ⟨V, a.1, a.2⟩
    | _, _ => none := by
    unfold mdO
    rw [hX, hX1, hV]; rfl
  rcases h with ⟨h1, rfl⟩ | ⟨h1, rfl⟩
  . rw [h1] at e
    match hs : nxt 48 X1 with
    | none => rw [hs] at e; exact .inr ⟨e, rfl⟩
    | some [] => rw [hs] at e; exact .inl ⟨e, rfl, mdO_tag e⟩
    | some (a :: b) => rw [hs] at e; exact .inr ⟨e, rfl⟩
  . rw [h1] at e
    exact .inr ⟨e, rfl⟩
def modsO (id : Int) (n : Nd) : Option Ms := match wiS 48 (nxt 4 (some n.kids)), nxt 48 (nxt 4 (some n.kids)) with
  | some l, some [] => (match allO mdO l with
    | some xs => some { zM with id := id, op := 6, dn := txV (some n.kids), mods := xs }
    | none => none)
  | _, _ => none
def qT (_ : Mdf) : Bool := true
theorem mods_fin {id : Int} {n : Nd} {S0 S1 st : PS} {okb : Bool} {ys : List Mdf} (h0 : wiS 48 (nxt 4 (some n.kids)) = S0) (h1 : nxt 48 (nxt 4 (some n.kids)) = S1) (hI : LsI mdO qT S0 st okb ys) (he : st = none \/ st = some []) :
    modsO id n = if (okb && (endP S1 && endP st)) = true then some { zM with id := id, op := 6, dn := txV (some n.kids), mods := ys } else none := by
  unfold modsO
  rw [h0, h1]
  rcases hI.fin he with ⟨rfl, rfl, l, rfl, hl, hq⟩ | ⟨hb, hx⟩
  . match S1 with
    | none => rfl
    | some [] =>
      simp only
      rw [hl]; rfl
    | some (a :: b) => rfl
  . have hbb : (okb && (endP S1 && endP st)) = false := by cases okb <;> simp_all
    rw [if_neg (by rw [hbb]; exact Bool.false_ne_true)]
    match S0, S1 with
    | none, _ => rfl
    | some l, none => rfl
    | some l, some (a :: b) => rfl
    | some l, some [] =>
      simp only
      cases hl : allO mdO l with
      | none => rfl
      | some xs =>
        have := hx l xs rfl hl
        rw [show xs.all qT = true from List.all_eq_true.2 fun _ _ => rfl] at this
        cases this
def mD (id : Int) (n : Nd) (ys : List Mdf) : Ms := { zM with id := id, op := 6, dn := txV (some n.kids), mods := ys }
set_option maxRecDepth 8000 in
set_option maxHeartbeats 8000000 in
theorem wire_op6 : OpSpec 6 := by
  intro gm id n hwt w hwf r h hn
  obtain ⟨kv, rfl, hkv⟩ := hn.ks
  obtain ⟨A, c, rfl, _, hm⟩ := hkv.form
  rw [show opR { zM with id := id, op := 6 } n = modsO id n from rfl]
  have hW := psW_some hwt
  have hw1 := psW_nxt 4 (some n.kids)
  have hw2 := psW_wi 48 (nxt 4 (some n.kids))
  have hT := fun g v b => wire_text g (some n.kids) v b
  have hWi := fun g v b h (hp : PtC h (nxt 4 (some n.kids)) v b) => wire_within g 48 (nxt 4 (some n.kids)) v b h hp
  unfold WiR at hWi
  generalize hS0 : wiS 48 (nxt 4 (some n.kids)) = S0 at *
  generalize hS1 : nxt 48 (nxt 4 (some n.kids)) = S1 at *
  refine Spec.enter Tryd.func62 rfl rfl ?_; intro w0
  repeat' (first | (show G _ (.ops .seq _ (⟨some _, .call { callee := .value (.func 91), args := _, argTypes := _ }, _, _, _, none⟩ :: _) :: _) _ _ _; refine G.call callTextW rfl rfl (hT _ _ false _ ⟨rfl, hkv.mono (by solve | repeat first | assumption | exact Zr _ | refine Zq ?_ Zp)⟩) Ze ?_; rintro _ h2 H2 ⟨⟨v2, b2, rfl, hp2⟩, rfl⟩ hle2) | (show G _ (.ops .seq _ (⟨some _, .call { callee := .value (.func 60), args := _, argTypes := _ }, _, _, _, none⟩ :: _) :: _) _ _ _; refine G.call callWithin rfl rfl (hWi _ _ _ _ (hp2.mono (by solve | repeat first | assumption | exact Zr _ | refine Zq ?_ Zp))) Ze ?_; rintro _ h3 H3 ⟨v3, b3, q, w3, bq, rfl, hp3, rfl, hq3, hqn⟩ hle3) | (refine G.atCode ?_; refine G.stopLoop ?_) | (refine G.atCode ?_; first | refine G.seq ?_ | refine G.region ?_ | refine G.block ?_ | (refine G.cond rfl ?_ ?_ <;> intro hc <;> (try simp only [tests, reduceCtorEq] at hc) <;> (try exact Zf))) | refine G.endOps ?_ | (refine G.atBin ?_; first | (refine G.atEql ?_; first | refine G.op rfl rfl ?_)) | refine G.op rfl rfl ?_ | (refine G.atLoad ?_; first | refine G.loadOwn1 rfl (tyy rfl) rfl rfl Za rfl rfl ?_) | (refine G.atFld ?_; first | refine G.fieldAddr rfl (tyy rfl) rfl rfl ?_) | (refine G.atSto ?_; refine G.storeOwn rfl rfl (tyy rfl) Za rfl rfl rfl rfl ?_) | (refine G.atBox ?_; refine G.box rfl rfl rfl ?_; intro _) | (refine G.atBld ?_; refine G.build (tyy rfl) rfl rfl rfl ?_))
  all_goals first | (exfalso; omega) | skip
  rename_i gn gp _ _ _ _ _
  clear hT hWi
  refine G.nilRow 85 3 ?_
  refine G.go ?_
  refine G.loop (σ := PS × Value × Bool × Bool × List Mdf × List (List Value) × Option Addr × Nat) (fun x => [(11, .bool x.2.2.2.1), (10, .pointer (some ⟨q, 0, none⟩)), (5, .pointer (some ⟨gp, 0, none⟩)), (0, .pointer (some ⟨gm, 0, none⟩))])
    (fun x => [msB gm (mD id n x.2.2.2.2.1) nilV nilV nilV nilV (.slice x.2.2.2.2.2.2.1 x.2.2.2.2.2.1.length x.2.2.2.2.2.2.2) nilV, prt q x.2.1 x.2.2.1, prt gp v3 b3, .row (.slice x.2.2.2.2.2.2.1 x.2.2.2.2.2.1.length x.2.2.2.2.2.2.2) 85 3 x.2.2.2.2.2.1])
    (fun x h' => PtC h' x.1 x.2.1 x.2.2.1 /\ LsI mdO qT S0 x.1 x.2.2.2.1 x.2.2.2.2.1 /\ LC MdC h' x.2.2.2.2.1 x.2.2.2.2.2.1 /\ psW x.1 <= psW S0) (fun x => x.1.meas) ⟨S0, w3, bq, true, [], [], none, 0⟩ ⟨rfl, rfl, rfl, rfl, trivial⟩ Zu ⟨hq3, LsI.start _ _ S0, rfl, Nat.le_refl _⟩ ?_
  rintro ⟨st, vq, bd, okb, ys, rws, A, c⟩ h5 hle5 ⟨hst, hI, hL, hpw⟩
  simp only at hst hI hL hpw
  refine G.norm (by (try dsimp only) <;> exact rfl) (by (try dsimp only) <;> exact rfl) ?_
  have hll := hL.len
  have hml := hI.1
  have hms : S0.meas <= 100000001 := by
    cases S0 with
    | none => exact Nat.zero_le _
    | some l => have := wts_len l; simp only [PS.meas, psW] at *; omega
  match st, hst with
  | none, ⟨e, l, hk⟩ =>
    subst e
    obtain ⟨Aq, cq, rfl, _, hm⟩ := hk.form
    refine G.freezeRow (v := .slice A rws.length c) Za ?_
    intro h11 hle11 hs11
    have hfin := mods_fin (id := id) (n := n) hS0 hS1 hI (.inl rfl)
    cases okb
    . repeat' (first | (refine G.atCode ?_; first | refine G.seq ?_ | refine G.region ?_ | refine G.exit rfl ?_ | refine G.ret ?_ | (refine G.cond rfl ?_ ?_ <;> intro hc <;> (try simp only [tests, reduceCtorEq] at hc) <;> (try exact Zf))) | refine G.endOps ?_ | (refine G.atGd ?_; first | refine G.guardYes rfl rfl ?_ | refine G.guardNoS rfl rfl rfl ?_ | (refine G.guardS rfl rfl rfl ?_ ?_ <;> intro hc <;> (try simp only [tests, reduceCtorEq] at hc) <;> (try exact Zf))) | (refine G.atBin ?_; first | refine G.op rfl rfl ?_) | refine G.op rfl rfl ?_ | (refine G.atLen ?_; first | refine G.lenSlice rfl (tyy rfl) rfl ?_) | (refine G.atLoad ?_; first | refine G.loadOwn1 rfl (tyy rfl) rfl rfl Za rfl rfl ?_) | (refine G.atFld ?_; first | refine G.fieldAddr rfl (tyy rfl) rfl rfl ?_))
      all_goals first | (exfalso; omega) | skip
      all_goals exact G.done1 rfl rfl [msB gm _ _ _ _ _ _ _] Zu (OpR.no (m' := mD id n ys) (by rw [hfin]; rfl))
    . repeat' (first | (show G _ (.ops .seq _ (⟨some _, .call { callee := .value (.func 93), args := _, argTypes := _ }, _, _, _, none⟩ :: _) :: _) _ _ _; refine G.call callEnd rfl rfl (wire_end1 _ _ _ S1 none v3 _ b3 true _ (hp3.mono (by solve | repeat first | assumption | exact Zr _ | refine Zq ?_ Zp)) ⟨rfl, l, hk.mono (by solve | repeat first | assumption | exact Zr _ | refine Zq ?_ Zp)⟩) Ze ?_; rintro _ h12 H12 ⟨rfl, rfl⟩ hle12) | (refine G.atCode ?_; first | refine G.seq ?_ | refine G.region ?_ | refine G.exit rfl ?_ | refine G.ret ?_ | (refine G.cond rfl ?_ ?_ <;> intro hc <;> (try simp only [tests, reduceCtorEq] at hc) <;> (try exact Zf))) | refine G.endOps ?_ | (refine G.atGd ?_; first | refine G.guardYes rfl rfl ?_ | refine G.guardNoS rfl rfl rfl ?_ | (refine G.guardS rfl rfl rfl ?_ ?_ <;> intro hc <;> (try simp only [tests, reduceCtorEq] at hc) <;> (try exact Zf))) | (refine G.atBin ?_; first | refine G.op rfl rfl ?_) | refine G.op rfl rfl ?_ | (refine G.atLen ?_; first | refine G.lenSlice rfl (tyy rfl) rfl ?_) | (refine G.atLoad ?_; first | refine G.loadOwn1 rfl (tyy rfl) rfl rfl Za rfl rfl ?_) | (refine G.atFld ?_; first | refine G.fieldAddr rfl (tyy rfl) rfl rfl ?_) | (refine G.atBsl ?_; refine G.buildSlice (tyy rfl) (tyy rfl) rfl rfl rfl rfl ?_; intro _))
      all_goals first | (exfalso; omega) | skip
      all_goals exact G.done1 rfl rfl [msB gm _ _ _ _ _ _ _] Zu (OpR.ofB (m' := mD id n ys) (endP S1 && endP none) hfin ⟨zF_C _, HSl.nil _ 1, SC.nil _ 2 _, ⟨_, hs11.mono (by solve | repeat first | assumption | exact Zr _ | refine Zq ?_ Zp), hL.mono (fun x => x.mono (by solve | repeat first | assumption | exact Zr _ | refine Zq ?_ Zp))⟩, HSl.nil _ 4⟩)
  | some [], ⟨e, hk⟩ =>
    subst e
    obtain ⟨Aq, cq, rfl, _, hm⟩ := hk.form
    refine G.freezeRow (v := .slice A rws.length c) Za ?_
    intro h11 hle11 hs11
    have hfin := mods_fin (id := id) (n := n) hS0 hS1 hI (.inr rfl)
    cases okb
    . repeat' (first | (refine G.atCode ?_; first | refine G.seq ?_ | refine G.region ?_ | refine G.exit rfl ?_ | refine G.ret ?_ | (refine G.cond rfl ?_ ?_ <;> intro hc <;> (try simp only [tests, reduceCtorEq] at hc) <;> (try exact Zf))) | refine G.endOps ?_ | (refine G.atGd ?_; first | refine G.guardNoS rfl rfl rfl ?_) | (refine G.atBin ?_; first | refine G.op rfl rfl ?_) | refine G.op rfl rfl ?_ | (refine G.atLen ?_; first | refine G.lenSlice rfl (tyy rfl) rfl ?_) | (refine G.atLoad ?_; first | refine G.loadOwn1 rfl (tyy rfl) rfl rfl Za rfl rfl ?_) | (refine G.atFld ?_; first | refine G.fieldAddr rfl (tyy rfl) rfl rfl ?_))
      all_goals first | (exfalso; omega) | skip
      all_goals exact G.done1 rfl rfl [msB gm _ _ _ _ _ _ _] Zu (OpR.no (m' := mD id n ys) (by rw [hfin]; rfl))
    . repeat' (first | (show G _ (.ops .seq _ (⟨some _, .call { callee := .value (.func 93), args := _, argTypes := _ }, _, _, _, none⟩ :: _) :: _) _ _ _; refine G.call callEnd rfl rfl (wire_end1 _ _ _ S1 (some []) v3 _ b3 false _ (hp3.mono (by solve | repeat first | assumption | exact Zr _ | refine Zq ?_ Zp)) ⟨rfl, hk.mono (by solve | repeat first | assumption | exact Zr _ | refine Zq ?_ Zp)⟩) Ze ?_; rintro _ h12 H12 ⟨rfl, rfl⟩ hle12) | (refine G.atCode ?_; first | refine G.seq ?_ | refine G.region ?_ | refine G.exit rfl ?_ | refine G.ret ?_ | (refine G.cond rfl ?_ ?_ <;> intro hc <;> (try simp only [tests, reduceCtorEq] at hc) <;> (try exact Zf))) | refine G.endOps ?_ | (refine G.atGd ?_; first | refine G.guardYes rfl rfl ?_ | refine G.guardNoS rfl rfl rfl ?_) | (refine G.atBin ?_; first | refine G.op rfl rfl ?_) | refine G.op rfl rfl ?_ | (refine G.atLen ?_; first | refine G.lenSlice rfl (tyy rfl) rfl ?_) | (refine G.atLoad ?_; first | refine G.loadOwn1 rfl (tyy rfl) rfl rfl Za rfl rfl ?_) | (refine G.atFld ?_; first | refine G.fieldAddr rfl (tyy rfl) rfl rfl ?_) | (refine G.atBsl ?_; refine G.buildSlice (tyy rfl) (tyy rfl) rfl rfl rfl rfl ?_; intro _))
      all_goals first | (exfalso; omega) | skip
      all_goals exact G.done1 rfl rfl [msB gm _ _ _ _ _ _ _] Zu (OpR.ofB (m' := mD id n ys) (endP S1 && endP (some [])) hfin ⟨zF_C _, HSl.nil _ 1, SC.nil _ 2 _, ⟨_, hs11.mono (by solve | repeat first | assumption | exact Zr _ | refine Zq ?_ Zp), hL.mono (fun x => x.mono (by solve | repeat first | assumption | exact Zr _ | refine Zq ?_ Zp))⟩, HSl.nil _ 4⟩)
  | some (k :: r2), ⟨e, hk⟩ =>
    subst e
    have hk0 := hk
    obtain ⟨Aq, cq, rfl, _, hm⟩ := hk.form
    have hpn := psW_nxt 48 (some (k :: r2))
    have hpi := psW_wi 48 (some (k :: r2))
    have hWi2 := fun g v b h (hp : PtC h (some (k :: r2)) v b) => wire_within g 48 (some (k :: r2)) v b h hp
    unfold WiR at hWi2
    generalize hX : wiS 48 (some (k :: r2)) = X at *
    have hpX := psW_nm 10 0 2 X
    have hpd := psW_data 10 X
    have hN := fun g v b h (hp : PtC h X v b) => wire_number g 10 0 2 Zi Zi X v b h hp (by omega)
    generalize hX1 : nmS 10 0 2 X = X1 at *
    generalize hV : nmV 10 0 2 X = V at *
    have hpY := psW_wi 48 X1
    have hWi3 := fun g v b h (hp : PtC h X1 v b) => wire_within g 48 X1 v b h hp
    unfold WiR at hWi3
    have hVl := fun g v b h (hp : PtC h (wiS 48 X1) v b) => wire_values g (wiS 48 X1) v b (by omega) h hp
    have hE := fun g v b h (hp : PtC h (nxt 48 X1) v b) => wire_end0 g (nxt 48 X1) v b h hp
    have hmt := meas_nxt 48 k r2
    simp only [List.length_cons] at *
    repeat' (first | (refine G.atAny ?_; first | refine G.anyAutoX slB rfl rfl Zw (by solve | exact Heap.none_le _ | assumption | exact Zr _ | (repeat first | assumption | exact Zr _ | refine Zq ?_ Zp)) Zd ?_ | refine G.anyKeep slB rfl Zw (by solve | exact Heap.none_le _ | assumption | exact Zr _ | (repeat first | assumption | exact Zr _ | refine Zq ?_ Zp)) Zu ?_ | refine G.anyOne rfl Zw (by solve | exact Heap.none_le _ | assumption | exact Zr _ | (repeat first | assumption | exact Zr _ | refine Zq ?_ Zp)) Zu ?_ | refine G.anyEndX Zw ?_) | (show G _ (.ops .seq _ (⟨some _, .call { callee := .value (.func 60), args := _, argTypes := _ }, _, _, _, none⟩ :: _) :: _) _ _ _; refine G.call callWithin rfl rfl (hWi2 q _ false _ ⟨rfl, hk0.mono (by solve | repeat first | assumption | exact Zr _ | refine Zq ?_ Zp)⟩) Ze ?_; rintro _ h7 H7 ⟨v7, b7, q7, w7, bq7, rfl, hp7, rfl, hq7, hqn7⟩ hle7) | (show G _ (.ops .seq _ (⟨some _, .call { callee := .value (.func 61), args := _, argTypes := _ }, _, _, _, none⟩ :: _) :: _) _ _ _; refine G.call callNumberP rfl rfl (hN q7 _ _ _ (hq7.mono (by solve | repeat first | assumption | exact Zr _ | refine Zq ?_ Zp))) Ze ?_; rintro _ h8 H8 ⟨⟨v8, b8, rfl, hp8⟩, rfl⟩ hle8) | (show G _ (.ops .seq _ (⟨some _, .call { callee := .value (.func 60), args := _, argTypes := _ }, _, _, _, none⟩ :: _) :: _) _ _ _; refine G.call callWithin rfl rfl (hWi3 q7 _ _ _ (hp8.mono (by solve | repeat first | assumption | exact Zr _ | refine Zq ?_ Zp))) Ze ?_; rintro _ h10 H10 ⟨v10, b10, q10, w10, bq10, rfl, hp10, rfl, hq10, hqn10⟩ hle10) | (show G _ (.ops .seq _ (⟨some _, .call { callee := .value (.func 92), args := _, argTypes := _ }, _, _, _, none⟩ :: _) :: _) _ _ _; refine G.call callValues rfl rfl (hVl q10 _ _ _ (hq10.mono (by solve | repeat first | assumption | exact Zr _ | refine Zq ?_ Zp))) Ze ?_; rintro _ h9 H9 ⟨⟨nm, vA, vc, vs, fb, rfl, hvs, hvl, hvr⟩, rfl⟩ hle9) | (show G _ (.ops .seq _ (⟨some _, .call { callee := .value (.func 93), args := _, argTypes := _ }, _, _, _, none⟩ :: _) :: _) _ _ _; refine G.call callEnd rfl rfl (hE q7 _ _ _ (hp10.mono (by solve | repeat first | assumption | exact Zr _ | refine Zq ?_ Zp))) Ze ?_; rintro _ h12 H12 ⟨rfl, rfl⟩ hle12) | (refine G.atApp ?_; refine G.append1 rfl rfl (tyy rfl) (tyy rfl) rfl rfl Za Za rfl rfl rfl Zo ?_; intro _; refine G.rowForm Take.hd ?_; rintro _ _ rfl) | (refine G.atCode ?_; first | refine G.seq ?_ | refine G.region ?_ | refine G.block ?_ | refine G.skip ?_ | refine G.anyIn mixedOk ?_ | (refine G.cond rfl ?_ ?_ <;> intro hc <;> (try simp only [tests, reduceCtorEq] at hc) <;> (try exact Zf))) | refine G.endOps ?_ | refine G.endHeld ?_ | refine G.back ?_ | refine G.endBlk ?_ | (refine G.atGd ?_; first | refine G.guardYes rfl rfl ?_ | refine G.guardNoS rfl rfl rfl ?_ | (refine G.guardS rfl rfl rfl ?_ ?_ <;> intro hc <;> (try simp only [tests, reduceCtorEq] at hc) <;> (try exact Zf))) | (refine G.atBin ?_; first | refine G.op rfl rfl ?_) | refine G.op rfl rfl ?_ | (refine G.atLen ?_; first | refine G.lenSlice rfl (tyy rfl) rfl ?_) | (refine G.atLoad ?_; first | refine G.loadOwn1 rfl (tyy rfl) rfl rfl Za rfl rfl ?_) | (refine G.atFld ?_; first | refine G.fieldAddr rfl (tyy rfl) rfl rfl ?_) | (refine G.atSto ?_; refine G.storeOwn rfl rfl (tyy rfl) Za rfl rfl rfl rfl ?_) | (refine G.atAlc ?_; refine G.alloc (tyy rfl) rfl rfl ?_; intro _) | (refine G.atBld ?_; refine G.build (tyy rfl) rfl rfl rfl ?_) | (refine G.atBsl ?_; refine G.buildSlice (tyy rfl) (tyy rfl) rfl rfl rfl rfl ?_; intro _))
    all_goals first | (exfalso; omega) | skip
    all_goals
      rename_i A' c'
      refine G.again ⟨nxt 48 (some (k :: r2)), v7, b7, okb && ((fb && endP (nxt 48 X1)) && qT ⟨V, nm, vs⟩), ys ++ [⟨V, nm, vs⟩], rws ++ [[.int .i64 V, str nm, .slice vA vs.length vc]], A', c'⟩ ⟨?_, rfl, rfl, rfl, trivial⟩ Zu ⟨hp7.mono (by solve | repeat first | assumption | exact Zr _ | refine Zq ?_ Zp), hI.step ⟨V, nm, vs⟩ (fb && endP (nxt 48 X1)) 48 (md_fine hX hX1 hV hvr), (hL.mono (fun x => x.mono (by solve | repeat first | assumption | exact Zr _ | refine Zq ?_ Zp))).append (LC.one ⟨_, rfl, hvs.mono (by solve | repeat first | assumption | exact Zr _ | refine Zq ?_ Zp)⟩), by simp only; omega⟩ (by solve | repeat first | assumption | exact Zr _ | refine Zq ?_ Zp) hmt
      first
        | (rw [‹okb = true›, ‹fb = true›]; show some (Value.bool _) = some (Value.bool _); simp [qT]; done)
        | (rw [‹okb = true›, ‹fb = false›]; rfl)
        | (rw [‹okb = false›]; rfl)
theorem wire_operation {op : Int} (h : tagM op ≠ 0) : OpSpec op := by
  rcases op_cases h with rfl | rfl | rfl | rfl | rfl | rfl | rfl | rfl | rfl | rfl | rfl | rfl | rfl | rfl | rfl | rfl | rfl | rfl | rfl
  . exact wire_op0
  . exact wire_opRes 1 (by omega)
  . exact wire_op2
  . exact wire_op3
  . exact wire_op4
  . exact wire_opRes 5 (by omega)
  . exact wire_op6
  . exact wire_opRes 7 (by omega)
  . exact wire_op8
  . exact wire_opRes 9 (by omega)
  . exact wire_op10
  . exact wire_opRes 11 (by omega)
  . exact wire_op12
  . exact wire_opRes 13 (by omega)
  . exact wire_op14
  . exact wire_opRes 15 (by omega)
  . exact wire_op16
  . exact wire_op23
  . exact wire_op24
end Go.Proofs.YtibkffoeioidlaaDoor
