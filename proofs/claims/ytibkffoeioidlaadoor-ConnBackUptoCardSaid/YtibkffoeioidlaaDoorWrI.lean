/- wire.bind, wire.search: what these operations' elements say. -/
import Derived.Test.YtibkffoeioidlaaDoorWrH
namespace Go.Proofs.YtibkffoeioidlaaDoor
set_option linter.all false
set_option maxRecDepth 4000
open Go.RowKit

theorem callBindW : Callable Tryd.prog 89 := ⟨_, Tryd.func89, by kernel_rfl, rfl⟩
theorem callSearchW : Callable Tryd.prog 90 := ⟨_, Tryd.func90, by kernel_rfl, rfl⟩
abbrev nilV : Value := .slice none 0 0
abbrev msB (gm : Nat) (m : Ms) (pv kv nv av mv cv : Value) : Chunk := .blk gm (msR m pv kv nv av mv cv) 51
theorem MsV.forms {h : Heap} {m : Ms} {pv kv nv av mv cv : Value} (s : MsV h m pv kv nv av mv cv) : (∃ A n c, pv = .slice A n c) /\ (∃ A n c, kv = .slice A n c) /\ (∃ A n c, nv = .slice A n c) /\ (∃ A n c, av = .slice A n c) /\ (∃ A n c, mv = .slice A n c) /\ (∃ A n c, cv = .slice A n c) := by
  obtain ⟨k, a, v, ps, ks, A, c, B, d, rows, _, e, _⟩ := s.fl.box
  injection e with _ e
  injection e with _ e
  injection e with _ e
  injection e with e1 e
  injection e with e2 e
  obtain ⟨A3, c3, e3, _⟩ := s.names.form
  obtain ⟨A4, c4, e4, _⟩ := s.attrs.form
  obtain ⟨A5, c5, e5, _⟩ := s.mods.form
  obtain ⟨A6, c6, e6, _⟩ := s.ctls.form
  exact ⟨⟨_, _, _, e1⟩, ⟨_, _, _, e2⟩, ⟨_, _, _, e3⟩, ⟨_, _, _, e4⟩, ⟨_, _, _, e5⟩, ⟨_, _, _, e6⟩⟩
def OpR (gm : Nat) (o : Option Ms) (u : Value) (h' : Heap) (H' : List Chunk) : Prop := ∃ (m' : Ms) (pv kv nv av mv : Value) (b : Bool), u = .bool b /\ H' = [msB gm m' pv kv nv av mv nilV] ∧
  ((b = true /\ o = some m' /\ MsV h' m' pv kv nv av mv nilV) \/ (b = false /\ o = none))
theorem OpR.ofB {gm : Nat} {o : Option Ms} {h' : Heap} {m' : Ms} {pv kv nv av mv : Value} (P : Bool) (ho : o = if P = true then some m' else none) (hV : MsV h' m' pv kv nv av mv nilV) : OpR gm o (.bool P) h' [msB gm m' pv kv nv av mv nilV] := by
  refine ⟨m', pv, kv, nv, av, mv, P, rfl, rfl, ?_⟩
  cases P with
  | true => exact .inl ⟨rfl, by rw [ho, if_pos rfl], hV⟩
  | false => exact .inr ⟨rfl, by rw [ho, if_neg Bool.false_ne_true]⟩
theorem OpR.no {gm : Nat} {o : Option Ms} {h' : Heap} {m' : Ms} {pv kv nv av mv : Value} (ho : o = none) : OpR gm o (.bool false) h' [msB gm m' pv kv nv av mv nilV] := ⟨m', pv, kv, nv, av, mv, false, rfl, rfl, .inr ⟨rfl, ho⟩⟩
theorem wire_maybe' {b : Bool} (g : Nat) (t : Int) (s : PS) (v : Value) (bad : Bool) (hb : myB t s = b) (h : Heap) (hp : PtC h s v bad) :
    Spec Tryd.prog 95 [.pointer (some ⟨g, 0, none⟩), .int .i64 t] h [prt g v bad] (fun u h' H' => (∃ v' bad', H' = [prt g v' bad'] /\ PtC h' (myS t s) v' bad') /\ u = .tuple #[str (nxN t s).data, .bool b]) := by
  rw [<- hb]
  exact wire_maybe g t s v bad h hp
set_option maxRecDepth 8000 in
set_option maxHeartbeats 4000000 in
theorem wire_bind (gm g : Nat) (id : Int) (p : PS) (hW : psW p <= 100000000) (v : Value) (bad : Bool) (h : Heap) (hp : PtC h p v bad) :
    Spec Tryd.prog 89 [.pointer (some ⟨gm, 0, none⟩), .pointer (some ⟨g, 0, none⟩)] h [msB gm { zM with id := id, op := 0 } nilV nilV nilV nilV nilV nilV, prt g v bad] (fun u h' H' => OpR gm (bindR { zM with id := id, op := 0 } p) u h' H') := by
  have hd := psW_data 2 p
  have hN := wire_number g 2 1 127 Zi Zi p v bad
  unfold bindR
  simp only
  generalize nmS 2 1 127 p = p1 at *
  generalize nmV 2 1 127 p = ver at *
  generalize hp2e : nxt 4 p1 = p2 at *
  have hT := fun v b => wire_text g p1 v b
  rw [hp2e] at hT
  cases hb : myB 128 p2 with
  | true =>
    rw [if_pos rfl]
    have hM := fun v b => wire_maybe' g 128 p2 v b hb
    have hS : myS 128 p2 = nxt 128 p2 := by unfold myS; rw [if_pos hb]
    rw [hS] at hM
    refine Spec.enter Tryd.func89 rfl rfl ?_; intro w0
    repeat' (first | (show G _ (.ops .seq _ (⟨some _, .call { callee := .value (.func 61), args := _, argTypes := _ }, _, _, _, none⟩ :: _) :: _) _ _ _; refine G.call callNumberP rfl rfl (hN _ (hp.mono (by solve | repeat first | assumption | exact Zr _ | refine Zq ?_ Zp)) (by omega)) Ze ?_; rintro _ h2 H2 ⟨⟨v2, b2, rfl, hp2⟩, rfl⟩ hle2) | (show G _ (.ops .seq _ (⟨some _, .call { callee := .value (.func 91), args := _, argTypes := _ }, _, _, _, none⟩ :: _) :: _) _ _ _; refine G.call callTextW rfl rfl (hT _ _ _ (hp2.mono (by solve | repeat first | assumption | exact Zr _ | refine Zq ?_ Zp))) Ze ?_; rintro _ h3 H3 ⟨⟨v3, b3, rfl, hp3⟩, rfl⟩ hle3) | (show G _ (.ops .seq _ (⟨some _, .call { callee := .value (.func 95), args := _, argTypes := _ }, _, _, _, none⟩ :: _) :: _) _ _ _; refine G.call callMaybe rfl rfl (hM _ _ _ (hp3.mono (by solve | repeat first | assumption | exact Zr _ | refine Zq ?_ Zp))) Ze ?_; rintro _ h4 H4 ⟨⟨v4, b4, rfl, hp4⟩, rfl⟩ hle4) | (show G _ (.ops .seq _ (⟨some _, .call { callee := .value (.func 93), args := _, argTypes := _ }, _, _, _, none⟩ :: _) :: _) _ _ _; refine G.call callEnd rfl rfl (wire_end0 g _ _ _ _ (hp4.mono (by solve | repeat first | assumption | exact Zr _ | refine Zq ?_ Zp))) Ze ?_; rintro _ h5 H5 ⟨rfl, rfl⟩ hle5) | (refine G.atCode ?_; first | refine G.seq ?_ | refine G.region ?_ | refine G.ret ?_ | (refine G.cond rfl ?_ ?_ <;> intro hc <;> (try simp only [tests, reduceCtorEq] at hc) <;> (try exact Zf))) | refine G.endOps ?_ | refine G.op rfl rfl ?_ | (refine G.atFld ?_; first | refine G.fieldAddr rfl (tyy rfl) rfl rfl ?_) | (refine G.atSto ?_; refine G.storeOwn rfl rfl (tyy rfl) Za rfl rfl rfl rfl ?_))
    all_goals first | (exfalso; omega) | (exfalso; simp_all; done) | skip
    all_goals exact G.done1 rfl rfl [msB gm _ _ _ _ _ _ _] Zu (OpR.ofB (m' := { zM with id := id, op := 0, ver := ver, dn := txV p1, text := (nxN 128 p2).data }) _ rfl ⟨zF_C _, HSl.nil _ 1, SC.nil _ 2 _, SC.nil _ 3 _, HSl.nil _ 4⟩)
  | false =>
    rw [if_neg Bool.false_ne_true]
    have hM := fun v b => wire_maybe' g 128 p2 v b hb
    have hS : myS 128 p2 = p2 := by unfold myS; rw [if_neg (by rw [hb]; exact Bool.false_ne_true)]
    have hnn : (nxN 128 p2).data = [] := by
      have : nxt 128 p2 = none := by
        unfold myB at hb
        cases hq : nxt 128 p2 with
        | none => rfl
        | some l => rw [hq] at hb; cases hb
      rw [nxN_of_none this]; rfl
    rw [hS, hnn] at hM
    have hWi := fun v b h (hp : PtC h p2 v b) => wire_within g 163 p2 v b h hp
    unfold WiR at hWi
    generalize wiS 163 p2 = x at *
    generalize nxt 163 p2 = p3 at *
    generalize hx1e : nxt 4 x = x1 at *
    have hT2 := fun q v b => wire_text q x v b
    rw [hx1e] at hT2
    have hM2 := fun q v b => wire_maybe q 4 x1 v b
    refine Spec.enter Tryd.func89 rfl rfl ?_; intro w0
    repeat' (first | (show G _ (.ops .seq _ (⟨some _, .call { callee := .value (.func 61), args := _, argTypes := _ }, _, _, _, none⟩ :: _) :: _) _ _ _; refine G.call callNumberP rfl rfl (hN _ (hp.mono (by solve | repeat first | assumption | exact Zr _ | refine Zq ?_ Zp)) (by omega)) Ze ?_; rintro _ h2 H2 ⟨⟨v2, b2, rfl, hp2⟩, rfl⟩ hle2) | (show G _ (.ops .seq _ (⟨some _, .call { callee := .value (.func 91), args := _, argTypes := _ }, _, _, _, none⟩ :: _) :: _) _ _ _; refine G.call callTextW rfl rfl (hT _ _ _ (hp2.mono (by solve | repeat first | assumption | exact Zr _ | refine Zq ?_ Zp))) Ze ?_; rintro _ h3 H3 ⟨⟨v3, b3, rfl, hp3⟩, rfl⟩ hle3) | (show G _ (.ops .seq _ (⟨some _, .call { callee := .value (.func 95), args := _, argTypes := _ }, _, _, _, none⟩ :: _) :: _) _ _ _; refine G.call callMaybe rfl rfl (hM _ _ _ (hp3.mono (by solve | repeat first | assumption | exact Zr _ | refine Zq ?_ Zp))) Ze ?_; rintro _ h4 H4 ⟨⟨v4, b4, rfl, hp4⟩, rfl⟩ hle4) | (show G _ (.ops .seq _ (⟨some _, .call { callee := .value (.func 60), args := _, argTypes := _ }, _, _, _, none⟩ :: _) :: _) _ _ _; refine G.call callWithin rfl rfl (hWi _ _ _ (hp4.mono (by solve | repeat first | assumption | exact Zr _ | refine Zq ?_ Zp))) Ze ?_; rintro _ h5 H5 ⟨v5, b5, q, w5, bq, rfl, hp5, rfl, hq5, hqn⟩ hle5) | (show G _ (.ops .seq _ (⟨some _, .call { callee := .value (.func 91), args := _, argTypes := _ }, _, _, _, none⟩ :: _) :: _) _ _ _; refine G.call callTextW rfl rfl (hT2 q _ _ _ (hq5.mono (by solve | repeat first | assumption | exact Zr _ | refine Zq ?_ Zp))) Ze ?_; rintro _ h6 H6 ⟨⟨v6, b6, rfl, hp6⟩, rfl⟩ hle6) | (show G _ (.ops .seq _ (⟨some _, .call { callee := .value (.func 95), args := _, argTypes := _ }, _, _, _, none⟩ :: _) :: _) _ _ _; refine G.call callMaybe rfl rfl (hM2 q _ _ _ (hp6.mono (by solve | repeat first | assumption | exact Zr _ | refine Zq ?_ Zp))) Ze ?_; rintro _ h7 H7 ⟨⟨v7, b7, rfl, hp7⟩, rfl⟩ hle7) | (show G _ (.ops .seq _ (⟨some _, .call { callee := .value (.func 93), args := _, argTypes := _ }, _, _, _, none⟩ :: _) :: _) _ _ _; refine G.call callEnd rfl rfl (wire_end1 g q _ p3 (myS 4 x1) _ _ _ _ _ (hp5.mono (by solve | repeat first | assumption | exact Zr _ | refine Zq ?_ Zp)) (hp7.mono (by solve | repeat first | assumption | exact Zr _ | refine Zq ?_ Zp))) Ze ?_; rintro _ h8 H8 ⟨rfl, rfl⟩ hle8) | (refine G.atCode ?_; first | refine G.seq ?_ | refine G.region ?_ | refine G.skip ?_ | refine G.ret ?_ | (refine G.cond rfl ?_ ?_ <;> intro hc <;> (try simp only [tests, reduceCtorEq] at hc) <;> (try exact Zf))) | refine G.endOps ?_ | refine G.op rfl rfl ?_ | (refine G.atFld ?_; first | refine G.fieldAddr rfl (tyy rfl) rfl rfl ?_) | (refine G.atSto ?_; refine G.storeOwn rfl rfl (tyy rfl) Za rfl rfl rfl rfl ?_) | (refine G.atBsl ?_; refine G.buildSlice (tyy rfl) (tyy rfl) rfl rfl rfl rfl ?_; intro _))
    all_goals first | (exfalso; omega) | (exfalso; simp_all; done) | skip
    all_goals exact G.done1 rfl rfl [msB gm _ _ _ _ _ _ _] Zu (OpR.ofB (m' := { zM with id := id, op := 0, ver := ver, dn := txV p1, sasl := true, mech := txV x, has := myB 4 x1, value := (nxN 4 x1).data }) _ (by simp only [Bool.and_eq_true]) ⟨zF_C _, HSl.nil _ 1, SC.nil _ 2 _, SC.nil _ 3 _, HSl.nil _ 4⟩)
def sP2 (p : PS) : PS := nmS 10 0 2 (nxt 4 p)
def sP3 (p : PS) : PS := nmS 10 0 3 (sP2 p)
def sP4 (p : PS) : PS := nmS 2 0 2147483647 (sP3 p)
def sP5 (p : PS) : PS := nmS 2 0 2147483647 (sP4 p)
def sM (m : Ms) (p : PS) (f : Fl) (vs : List Bs) : Ms := { m with dn := txV p, scope := nmV 10 0 2 (nxt 4 p), deref := nmV 10 0 3 (sP2 p), size := nmV 2 0 2147483647 (sP3 p), time := nmV 2 0 2147483647 (sP4 p), types := trV (sP5 p), fl := f, names := vs }
theorem search_no {m : Ms} {p : PS} (h : trS (sP5 p) = none \/ trS (sP5 p) = some []) : searchR m p = none := by
  unfold sP5 sP4 sP3 sP2 at h
  unfold searchR
  simp only
  rcases h with h | h <;> rw [h]
theorem search_no2 {m : Ms} {p : PS} {k : Nd} {r : List Nd} (h : trS (sP5 p) = some (k :: r)) (hr : rdF k 0 = none) : searchR m p = none := by
  unfold sP5 sP4 sP3 sP2 at h
  unfold searchR
  simp only
  rw [h]
  simp only
  rw [hr]
theorem search_some {m : Ms} {p : PS} {k : Nd} {r : List Nd} {f : Fl} {q : Nat} (h : trS (sP5 p) = some (k :: r)) (hr : rdF k 0 = some (f, q)) {S0 S1 st : PS} {vs : List Bs} (h0 : wiS 48 (some r) = S0) (h1 : nxt 48 (some r) = S1) (hI : TxI S0 st vs) (he : st = none \/ st = some []) :
    searchR m p = if (endP S1 && endP st) = true then some (sM m p f vs) else none := by
  unfold sP5 sP4 sP3 sP2 at h
  unfold searchR sM sP5 sP4 sP3 sP2
  simp only
  rw [h]
  simp only
  rw [hr]
  simp only
  rw [h0, h1]
  rcases hI.fin he with ⟨rfl, hn⟩ | ⟨rfl, l, rfl, ha, rfl⟩
  . rw [show endP none = false from rfl, Bool.and_false, if_neg Bool.false_ne_true]
    rcases hn with rfl | ⟨l, rfl, ha⟩
    . rfl
    . match S1 with
      | none => rfl
      | some [] => simp only; rw [ha, if_neg (by simp)]
      | some (a :: b) => rfl
  . match S1 with
    | none => rfl
    | some [] => simp only; rw [if_pos ha]; rfl
    | some (a :: b) => rfl
theorem psW_sP (p : PS) : psW (nxt 4 p) <= psW p /\ psW (sP2 p) <= psW p /\ psW (sP3 p) <= psW p /\ psW (sP4 p) <= psW p /\ psW (sP5 p) <= psW p /\ psW (trS (sP5 p)) <= psW p := by
  have h1 := psW_nxt 4 p
  have h2 := psW_nm 10 0 2 (nxt 4 p)
  have h3 := psW_nm 10 0 3 (sP2 p)
  have h4 := psW_nm 2 0 2147483647 (sP3 p)
  have h5 := psW_nm 2 0 2147483647 (sP4 p)
  have h6 := psW_tr (sP5 p)
  unfold sP5 at *
  unfold sP4 at *
  unfold sP3 at *
  unfold sP2 at *
  omega
theorem PsWf.bd {s : PS} {w : Nat} (h : PsWf s w) (d : Bs) (lo hi : Int) : PsWf (bdS s d lo hi) w := by
  intro l hl
  unfold bdS at hl
  split at hl
  . exact h l hl
  . cases hl
theorem PsWf.nm {s : PS} {w : Nat} (h : PsWf s w) (t lo hi : Int) : PsWf (nmS t lo hi s) w := (h.nxt t).bd _ _ _
theorem PsWf.tr {s : PS} {w : Nat} (h : PsWf s w) : PsWf (trS s) w := by
  intro l hl
  unfold trS at hl
  split at hl
  . exact h.nxt 1 l hl
  . cases hl
theorem PsWf.sP {p : PS} {w : Nat} (h : PsWf p w) : PsWf (trS (sP5 p)) w := (((((h.nxt 4).nm 10 0 2).nm 10 0 3).nm 2 0 2147483647).nm 2 0 2147483647).tr
theorem fl_form {h : Heap} {f : Fl} {k : Int} {a v : Bs} {pv kv : Value} (hf : FlC h f [.int .i64 k, str a, str v, pv, kv]) : f.kind = k /\ f.attr = a /\ f.value = v := by
  obtain ⟨pv', kv', rows, e, _⟩ := hf.shape
  injection e with e1 e
  injection e with e2 e
  injection e with e3 e
  injection e1 with _ e1
  exact ⟨e1.symm, (str_inj.1 e2).symm, (str_inj.1 e3).symm⟩
set_option maxRecDepth 8000 in
set_option maxHeartbeats 8000000 in
theorem wire_search (gm g : Nat) (id : Int) (p : PS) (hW : psW p <= 100000000) (w : Nat) (hwf : PsWf p w) (v : Value) (bad : Bool) (h : Heap) (hp : PtC h p v bad) :
    Spec Tryd.prog 90 [.pointer (some ⟨gm, 0, none⟩), .pointer (some ⟨g, 0, none⟩)] h [msB gm { zM with id := id, op := 3 } nilV nilV nilV nilV nilV nilV, prt g v bad] (fun u h' H' => OpR gm (searchR { zM with id := id, op := 3 } p) u h' H') := by
  obtain ⟨w1, w2, w3, w4, w5, w6⟩ := psW_sP p
  have d1 := psW_data 10 (nxt 4 p)
  have d2 := psW_data 10 (sP2 p)
  have d3 := psW_data 2 (sP3 p)
  have d4 := psW_data 2 (sP4 p)
  have hT := wire_text g p v bad
  have hN1 := fun v b => wire_number g 10 0 2 Zi Zi (nxt 4 p) v b
  have hN2 := fun v b => wire_number g 10 0 3 Zi Zi (sP2 p) v b
  have hN3 := fun v b => wire_number g 2 0 2147483647 Zi Zi (sP3 p) v b
  have hN4 := fun v b => wire_number g 2 0 2147483647 Zi Zi (sP4 p) v b
  have hTr := fun v b => wire_truthP g (sP5 p) v b
  have hwf6 := hwf.sP
  refine Spec.enter Tryd.func90 rfl rfl ?_; intro w0
  repeat' (first | (show G _ (.ops .seq _ (⟨some _, .call { callee := .value (.func 91), args := _, argTypes := _ }, _, _, _, none⟩ :: _) :: _) _ _ _; refine G.call callTextW rfl rfl (hT _ (hp.mono (by solve | repeat first | assumption | exact Zr _ | refine Zq ?_ Zp))) Ze ?_; rintro _ h2 H2 ⟨⟨v2, b2, rfl, hp2⟩, rfl⟩ hle2) | (show G _ (.ops .seq _ (⟨some _, .call { callee := .value (.func 61), args := _, argTypes := _ }, _, _, _, none⟩ :: _) :: _) _ _ _; refine G.call callNumberP rfl rfl (hN1 _ _ _ (hp2.mono (by solve | repeat first | assumption | exact Zr _ | refine Zq ?_ Zp)) (by omega)) Ze ?_; rintro _ h3 H3 ⟨⟨v3, b3, rfl, hp3⟩, rfl⟩ hle3) | (show G _ (.ops .seq _ (⟨some _, .call { callee := .value (.func 61), args := _, argTypes := _ }, _, _, _, none⟩ :: _) :: _) _ _ _; refine G.call callNumberP rfl rfl (hN2 _ _ _ (hp3.mono (by solve | repeat first | assumption | exact Zr _ | refine Zq ?_ Zp)) (by omega)) Ze ?_; rintro _ h4 H4 ⟨⟨v4, b4, rfl, hp4⟩, rfl⟩ hle4) | (show G _ (.ops .seq _ (⟨some _, .call { callee := .value (.func 61), args := _, argTypes := _ }, _, _, _, none⟩ :: _) :: _) _ _ _; refine G.call callNumberP rfl rfl (hN3 _ _ _ (hp4.mono (by solve | repeat first | assumption | exact Zr _ | refine Zq ?_ Zp)) (by omega)) Ze ?_; rintro _ h5 H5 ⟨⟨v5, b5, rfl, hp5⟩, rfl⟩ hle5) | (show G _ (.ops .seq _ (⟨some _, .call { callee := .value (.func 61), args := _, argTypes := _ }, _, _, _, none⟩ :: _) :: _) _ _ _; refine G.call callNumberP rfl rfl (hN4 _ _ _ (hp5.mono (by solve | repeat first | assumption | exact Zr _ | refine Zq ?_ Zp)) (by omega)) Ze ?_; rintro _ h6 H6 ⟨⟨v6, b6, rfl, hp6⟩, rfl⟩ hle6) | (show G _ (.ops .seq _ (⟨some _, .call { callee := .value (.func 94), args := _, argTypes := _ }, _, _, _, none⟩ :: _) :: _) _ _ _; refine G.call callTruthP rfl rfl (hTr _ _ _ (hp6.mono (by solve | repeat first | assumption | exact Zr _ | refine Zq ?_ Zp))) Ze ?_; rintro _ h7 H7 ⟨⟨v7, b7, rfl, hp7⟩, rfl⟩ hle7; refine Hold.out ?_) | (refine G.atCode ?_; first | refine G.seq ?_ | refine G.region ?_) | refine G.endOps ?_ | refine G.op rfl rfl ?_ | (refine G.atFld ?_; first | refine G.fieldAddr rfl (tyy rfl) rfl rfl ?_) | (refine G.atSto ?_; refine G.storeOwn rfl rfl (tyy rfl) Za rfl rfl rfl rfl ?_))
  all_goals first | (exfalso; omega) | skip
  refine ⟨?_⟩
  clear hT hN1 hN2 hN3 hN4 hTr
  generalize hs6 : trS (sP5 p) = s6 at *
  match s6, hs6, hp7 with
  | none, hs6, ⟨e, l, hk⟩ =>
    subst e
    obtain ⟨A, c, rfl, _, hm⟩ := hk.form
    repeat' (first | (refine G.atCode ?_; first | refine G.seq ?_ | refine G.region ?_ | refine G.ret ?_ | (refine G.cond rfl ?_ ?_ <;> intro hc <;> (try simp only [tests, reduceCtorEq] at hc) <;> (try exact Zf))) | refine G.endOps ?_ | (refine G.atGd ?_; first | refine G.guardNoS rfl rfl rfl ?_) | refine G.op rfl rfl ?_ | (refine G.atLoad ?_; first | refine G.loadOwn1 rfl (tyy rfl) rfl rfl Za rfl rfl ?_) | (refine G.atFld ?_; first | refine G.fieldAddr rfl (tyy rfl) rfl rfl ?_) | (refine G.atSto ?_; refine G.storeOwn rfl rfl (tyy rfl) Za rfl rfl rfl rfl ?_))
    all_goals first | (exfalso; omega) | exact G.done1 rfl rfl [msB gm _ _ _ _ _ _ _] Zu (OpR.no (m' := sM { zM with id := id, op := 3 } p zF []) (search_no (.inl hs6))) | skip
  | some [], hs6, ⟨e, hk⟩ =>
    subst e
    obtain ⟨A, c, rfl, _, hm⟩ := hk.form
    simp only [List.length_nil] at *
    repeat' (first | (refine G.atCode ?_; first | refine G.seq ?_ | refine G.region ?_ | refine G.ret ?_ | (refine G.cond rfl ?_ ?_ <;> intro hc <;> (try simp only [tests, reduceCtorEq] at hc) <;> (try exact Zf))) | refine G.endOps ?_ | (refine G.atGd ?_; first | refine G.guardYes rfl rfl ?_) | (refine G.atBin ?_; first | (refine G.atEql ?_; first | refine G.op rfl rfl ?_)) | refine G.op rfl rfl ?_ | (refine G.atLen ?_; first | refine G.lenSlice rfl (tyy rfl) rfl ?_) | (refine G.atLoad ?_; first | refine G.loadOwn1 rfl (tyy rfl) rfl rfl Za rfl rfl ?_) | (refine G.atFld ?_; first | refine G.fieldAddr rfl (tyy rfl) rfl rfl ?_) | (refine G.atSto ?_; refine G.storeOwn rfl rfl (tyy rfl) Za rfl rfl rfl rfl ?_))
    all_goals first | (exfalso; omega) | exact G.done1 rfl rfl [msB gm _ _ _ _ _ _ _] Zu (OpR.no (m' := sM { zM with id := id, op := 3 } p zF []) (search_no (.inr hs6))) | skip
  | some (k :: r), hs6, ⟨e, hk⟩ =>
    subst e
    obtain ⟨A, c, rfl, hc, hm⟩ := hk.form
    obtain ⟨rows, hsl, hr⟩ := hk
    have hrl := hr.len
    simp only [KidsC] at hr
    obtain ⟨rw1, rs, rfl, hn, hrs⟩ := hr
    have hn0 := hn
    obtain ⟨kv, rfl, hkv⟩ := hn.ks
    obtain ⟨A2, c2, rfl, _, _⟩ := hkv.form
    have hl3 : ([.int .i64 k.tag, str k.data, .slice A2 k.kids.length c2] : List Value).length = 3 := rfl
    have hwk : WfN k w := by have := hwf6 _ rfl; rw [WfKs] at this; exact this.1
    have hwt : k.wt <= 100000000 := by have := w6; rw [show psW (some (k :: r)) = k.wt + wts r from by simp only [psW, wts]] at this; omega
    have htl := hsl.tail 1 (by simp only [List.length_cons]; omega)
    have hF := fun gc h (hn : NodeC h k [.int .i64 k.tag, str k.data, .slice A2 k.kids.length c2]) => wire_filter k.sz k (Nat.le_refl _) w hwk hwt 0 (by omega) gc _ h hn
    have hWi := fun v b h (hp : PtC h (some r) v b) => wire_within g 48 (some r) v b h hp
    unfold WiR at hWi
    have hw7 := psW_wi 48 (some r)
    have hw8 : psW (some r) <= psW p := by have := w6; rw [show psW (some (k :: r)) = k.wt + wts r from by simp only [psW, wts]] at this; rw [show psW (some r) = wts r from rfl]; omega
    generalize hS0 : wiS 48 (some r) = S0 at *
    generalize hS1 : nxt 48 (some r) = S1 at *
    simp only [List.length_cons] at *
    repeat' (first | (refine G.atIdx ?_; refine G.idxImm rfl rfl (tyy rfl) (tyy rfl) (hsl.mono (by solve | repeat first | assumption | exact Zr _ | refine Zq ?_ Zp)) Zj rfl (by simp only [List.length_cons]; omega) ?_; intro pp rr hx9 hp9; (obtain rfl := Option.some.inj hx9)) | (show G _ (.ops .seq _ (⟨some _, .call { callee := .value (.func 107), args := _, argTypes := _ }, _, _, _, none⟩ :: _) :: _) _ _ _; refine G.call callFilterW rfl rfl (hF _ _ (NodeC.mono (by solve | repeat first | assumption | exact Zr _ | refine Zq ?_ Zp) _ _ hn0)) Ze ?_; rintro _ h8 H8 ⟨k9, a9, v9, A9, m9, c9, B9, p9, d9, n9, b9, rfl, rfl, hres⟩ hle8) | (refine G.atSlc ?_; refine G.sliceSl rfl rfl rfl (tyy rfl) (tyy rfl) rfl Zj Zj (by omega) ?_) | (show G _ (.ops .seq _ (⟨some _, .call { callee := .value (.func 60), args := _, argTypes := _ }, _, _, _, none⟩ :: _) :: _) _ _ _; refine G.call callWithin rfl rfl (hWi _ _ _ ⟨rfl, rs, htl.mono (by solve | repeat first | assumption | exact Zr _ | refine Zq ?_ Zp), hrs.mono' (by solve | repeat first | assumption | exact Zr _ | refine Zq ?_ Zp)⟩) Ze ?_; rintro _ h10 H10 ⟨v10, b10, q, w10, bq, rfl, hp10, rfl, hq10, hqn⟩ hle10) | (refine G.atCode ?_; refine G.stopLoop ?_) | (refine G.atCode ?_; first | refine G.seq ?_ | refine G.region ?_ | refine G.block ?_ | refine G.skip ?_ | (refine G.cond rfl ?_ ?_ <;> intro hc <;> (try simp only [tests, reduceCtorEq] at hc) <;> (try exact Zf))) | refine G.endOps ?_ | (refine G.atGd ?_; first | refine G.guardYes rfl rfl ?_) | (refine G.atBin ?_; first | (refine G.atEql ?_; first | refine G.op rfl rfl ?_)) | refine G.op rfl rfl ?_ | (refine G.atLen ?_; first | refine G.lenSlice rfl (tyy rfl) rfl ?_) | (refine G.atLoad ?_; first | refine G.loadOwn1 rfl (tyy rfl) rfl rfl Za rfl rfl ?_ | refine G.loadImmA rfl (tyy rfl) rfl rfl Zp Zp rfl ?_) | (refine G.atFld ?_; first | refine G.fieldAddr rfl (tyy rfl) rfl rfl ?_) | (refine G.atSto ?_; refine G.storeOwn rfl rfl (tyy rfl) Za rfl rfl rfl rfl ?_) | (refine G.atAlc ?_; refine G.alloc (tyy rfl) rfl rfl ?_; intro _))
    all_goals first | (exfalso; omega) | skip
    obtain ⟨flx, f1, f2, f3, f4⟩ : ∃ flx : Fl, flx.kind = k9 /\ flx.attr = a9 /\ flx.value = v9 /\ ((b9 = true /\ (∃ n, rdF k 0 = some (flx, n)) /\ FlC h8 flx (flR flx (.slice A9 m9 c9) (.slice B9 p9 d9))) \/ (b9 = false /\ rdF k 0 = none)) := by
      rcases hres with ⟨e1, fl, e2, e3⟩ | ⟨e1, e2⟩
      . obtain ⟨g1, g2, g3⟩ := fl_form e3
        refine ⟨fl, g1, g2, g3, .inl ⟨e1, ⟨_, e2⟩, ?_⟩⟩
        unfold flR
        rw [g1, g2, g3]
        exact e3
      . exact ⟨.mk k9 a9 v9 [] [], rfl, rfl, rfl, .inr ⟨e1, e2⟩⟩
    subst f1; subst f2; subst f3
    refine G.nilRow 9 1 ?_
    refine G.go ?_
    refine G.loop (σ := PS × Value × Bool × List Bs × Option Addr × Nat) (fun x => [(7, .pointer (some ⟨q, 0, none⟩)), (6, .bool b9), (1, .pointer (some ⟨g, 0, none⟩)), (0, .pointer (some ⟨gm, 0, none⟩))])
      (fun x => [msB gm (sM { zM with id := id, op := 3 } p flx x.2.2.2.1) (.slice A9 m9 c9) (.slice B9 p9 d9) (.slice x.2.2.2.2.1 x.2.2.2.1.length x.2.2.2.2.2) nilV nilV nilV, prt q x.2.1 x.2.2.1, prt g v10 b10, .row (.slice x.2.2.2.2.1 x.2.2.2.1.length x.2.2.2.2.2) 9 1 (strsR x.2.2.2.1)])
      (fun x h' => PtC h' x.1 x.2.1 x.2.2.1 /\ TxI S0 x.1 x.2.2.2.1) (fun x => x.1.meas) ⟨S0, w10, bq, [], none, 0⟩ ⟨rfl, rfl, rfl, rfl, trivial⟩ Zu ⟨hq10, TxI.start S0⟩ ?_
    rintro ⟨st, vq, bd, vs, A, c⟩ h5 hle5 ⟨hst, hI⟩
    simp only at hst hI
    refine G.norm (by (try dsimp only) <;> exact rfl) (by (try dsimp only) <;> exact rfl) ?_
    have hV : ∀ h', HSl h' (.slice A vs.length c) 1 (strsR vs) -> Heap.le h8 h' -> FlC h8 flx (flR flx (.slice A9 m9 c9) (.slice B9 p9 d9)) -> MsV h' (sM { zM with id := id, op := 3 } p flx vs) (.slice A9 m9 c9) (.slice B9 p9 d9) (.slice A vs.length c) nilV nilV nilV := fun h' hs hl hf => ⟨FlC.mono hl _ _ hf, hs, SC.nil _ 2 _, SC.nil _ 3 _, HSl.nil _ 4⟩
    match st, hst with
    | none, ⟨e, l, hk⟩ =>
      subst e
      obtain ⟨Aq, cq, rfl, _, hm⟩ := hk.form
      refine G.freezeRow (v := .slice A vs.length c) Za ?_
      intro h11 hle11 hs11
      rcases f4 with ⟨rfl, ⟨n1, hr1⟩, hfl⟩ | ⟨rfl, hr1⟩
      . repeat' (first | (show G _ (.ops .seq _ (⟨some _, .call { callee := .value (.func 93), args := _, argTypes := _ }, _, _, _, none⟩ :: _) :: _) _ _ _; refine G.call callEnd rfl rfl (wire_end1 g q _ S1 none v10 _ b10 true _ (hp10.mono (by solve | repeat first | assumption | exact Zr _ | refine Zq ?_ Zp)) ⟨rfl, l, hk.mono (by solve | repeat first | assumption | exact Zr _ | refine Zq ?_ Zp)⟩) Ze ?_; rintro _ h12 H12 ⟨rfl, rfl⟩ hle12) | (refine G.atCode ?_; first | refine G.seq ?_ | refine G.region ?_ | refine G.exit rfl ?_ | refine G.ret ?_ | (refine G.cond rfl ?_ ?_ <;> intro hc <;> (try simp only [tests, reduceCtorEq] at hc) <;> (try exact Zf))) | refine G.endOps ?_ | (refine G.atGd ?_; first | refine G.guardYes rfl rfl ?_ | refine G.guardNoS rfl rfl rfl ?_ | (refine G.guardS rfl rfl rfl ?_ ?_ <;> intro hc <;> (try simp only [tests, reduceCtorEq] at hc) <;> (try exact Zf))) | (refine G.atBin ?_; first | refine G.op rfl rfl ?_) | refine G.op rfl rfl ?_ | (refine G.atLen ?_; first | refine G.lenSlice rfl (tyy rfl) rfl ?_) | (refine G.atLoad ?_; first | refine G.loadOwn1 rfl (tyy rfl) rfl rfl Za rfl rfl ?_) | (refine G.atFld ?_; first | refine G.fieldAddr rfl (tyy rfl) rfl rfl ?_) | (refine G.atBsl ?_; refine G.buildSlice (tyy rfl) (tyy rfl) rfl rfl rfl rfl ?_; intro _))
        all_goals first | (exfalso; omega) | (exfalso; simp_all; done) | skip
        all_goals exact G.done1 rfl rfl [msB gm _ _ _ _ _ _ _] Zu (OpR.ofB (m' := sM { zM with id := id, op := 3 } p flx vs) (endP S1 && endP none) (search_some hs6 hr1 hS0 hS1 hI (.inl rfl)) (hV _ (hs11.mono (by solve | repeat first | assumption | exact Zr _ | refine Zq ?_ Zp)) (by solve | repeat first | assumption | exact Zr _ | refine Zq ?_ Zp) hfl))
      . repeat' (first | (refine G.atCode ?_; first | refine G.seq ?_ | refine G.region ?_ | refine G.exit rfl ?_ | refine G.ret ?_ | (refine G.cond rfl ?_ ?_ <;> intro hc <;> (try simp only [tests, reduceCtorEq] at hc) <;> (try exact Zf))) | refine G.endOps ?_ | (refine G.atGd ?_; first | refine G.guardYes rfl rfl ?_ | refine G.guardNoS rfl rfl rfl ?_ | (refine G.guardS rfl rfl rfl ?_ ?_ <;> intro hc <;> (try simp only [tests, reduceCtorEq] at hc) <;> (try exact Zf))) | (refine G.atBin ?_; first | refine G.op rfl rfl ?_) | refine G.op rfl rfl ?_ | (refine G.atLen ?_; first | refine G.lenSlice rfl (tyy rfl) rfl ?_) | (refine G.atLoad ?_; first | refine G.loadOwn1 rfl (tyy rfl) rfl rfl Za rfl rfl ?_) | (refine G.atFld ?_; first | refine G.fieldAddr rfl (tyy rfl) rfl rfl ?_))
        all_goals first | (exfalso; omega) | (exfalso; simp_all; done) | skip
        all_goals exact G.done1 rfl rfl [msB gm _ _ _ _ _ _ _] Zu (OpR.no (m' := sM { zM with id := id, op := 3 } p flx vs) (search_no2 hs6 hr1))
    | some [], ⟨e, hk⟩ =>
      subst e
      obtain ⟨Aq, cq, rfl, _, hm⟩ := hk.form
      refine G.freezeRow (v := .slice A vs.length c) Za ?_
      intro h11 hle11 hs11
      rcases f4 with ⟨rfl, ⟨n1, hr1⟩, hfl⟩ | ⟨rfl, hr1⟩
      . repeat' (first | (show G _ (.ops .seq _ (⟨some _, .call { callee := .value (.func 93), args := _, argTypes := _ }, _, _, _, none⟩ :: _) :: _) _ _ _; refine G.call callEnd rfl rfl (wire_end1 g q _ S1 (some []) v10 _ b10 false _ (hp10.mono (by solve | repeat first | assumption | exact Zr _ | refine Zq ?_ Zp)) ⟨rfl, hk.mono (by solve | repeat first | assumption | exact Zr _ | refine Zq ?_ Zp)⟩) Ze ?_; rintro _ h12 H12 ⟨rfl, rfl⟩ hle12) | (refine G.atCode ?_; first | refine G.seq ?_ | refine G.region ?_ | refine G.exit rfl ?_ | refine G.ret ?_ | (refine G.cond rfl ?_ ?_ <;> intro hc <;> (try simp only [tests, reduceCtorEq] at hc) <;> (try exact Zf))) | refine G.endOps ?_ | (refine G.atGd ?_; first | refine G.guardYes rfl rfl ?_ | refine G.guardNoS rfl rfl rfl ?_) | (refine G.atBin ?_; first | refine G.op rfl rfl ?_) | refine G.op rfl rfl ?_ | (refine G.atLen ?_; first | refine G.lenSlice rfl (tyy rfl) rfl ?_) | (refine G.atLoad ?_; first | refine G.loadOwn1 rfl (tyy rfl) rfl rfl Za rfl rfl ?_) | (refine G.atFld ?_; first | refine G.fieldAddr rfl (tyy rfl) rfl rfl ?_) | (refine G.atBsl ?_; refine G.buildSlice (tyy rfl) (tyy rfl) rfl rfl rfl rfl ?_; intro _))
        all_goals first | (exfalso; omega) | (exfalso; simp_all; done) | skip
        all_goals exact G.done1 rfl rfl [msB gm _ _ _ _ _ _ _] Zu (OpR.ofB (m' := sM { zM with id := id, op := 3 } p flx vs) (endP S1 && endP (some [])) (search_some hs6 hr1 hS0 hS1 hI (.inr rfl)) (hV _ (hs11.mono (by solve | repeat first | assumption | exact Zr _ | refine Zq ?_ Zp)) (by solve | repeat first | assumption | exact Zr _ | refine Zq ?_ Zp) hfl))
      . repeat' (first | (refine G.atCode ?_; first | refine G.seq ?_ | refine G.region ?_ | refine G.exit rfl ?_ | refine G.ret ?_ | (refine G.cond rfl ?_ ?_ <;> intro hc <;> (try simp only [tests, reduceCtorEq] at hc) <;> (try exact Zf))) | refine G.endOps ?_ | (refine G.atGd ?_; first | refine G.guardNoS rfl rfl rfl ?_) | (refine G.atBin ?_; first | refine G.op rfl rfl ?_) | refine G.op rfl rfl ?_ | (refine G.atLen ?_; first | refine G.lenSlice rfl (tyy rfl) rfl ?_) | (refine G.atLoad ?_; first | refine G.loadOwn1 rfl (tyy rfl) rfl rfl Za rfl rfl ?_) | (refine G.atFld ?_; first | refine G.fieldAddr rfl (tyy rfl) rfl rfl ?_))
        all_goals first | (exfalso; omega) | (exfalso; simp_all; done) | skip
        all_goals exact G.done1 rfl rfl [msB gm _ _ _ _ _ _ _] Zu (OpR.no (m' := sM { zM with id := id, op := 3 } p flx vs) (search_no2 hs6 hr1))
    | some (n :: r2), ⟨e, hk⟩ =>
      subst e
      have hk0 := hk
      obtain ⟨Aq, cq, rfl, _, hm⟩ := hk.form
      have hst := hI.step
      have hl := hI.1
      simp only [List.length_cons] at *
      repeat' (first | (refine G.atAny ?_; first | refine G.anyAutoX slB rfl rfl Zw (by solve | exact Heap.none_le _ | assumption | exact Zr _ | (repeat first | assumption | exact Zr _ | refine Zq ?_ Zp)) Zd ?_ | refine G.anyKeep slB rfl Zw (by solve | exact Heap.none_le _ | assumption | exact Zr _ | (repeat first | assumption | exact Zr _ | refine Zq ?_ Zp)) Zu ?_ | refine G.anyOne rfl Zw (by solve | exact Heap.none_le _ | assumption | exact Zr _ | (repeat first | assumption | exact Zr _ | refine Zq ?_ Zp)) Zu ?_ | refine G.anyEndX Zw ?_) | (show G _ (.ops .seq _ (⟨some _, .call { callee := .value (.func 91), args := _, argTypes := _ }, _, _, _, none⟩ :: _) :: _) _ _ _; refine G.call callTextW rfl rfl (wire_text q (some (n :: r2)) _ false _ ⟨rfl, hk0.mono (by solve | repeat first | assumption | exact Zr _ | refine Zq ?_ Zp)⟩) Ze ?_; rintro _ h9 H9 ⟨⟨v9, b9', rfl, hp9⟩, rfl⟩ hle9) | (refine G.atApp ?_; refine G.append1S rfl rfl (tyy rfl) (tyy rfl) rfl rfl Za Za rfl Zo ?_; intro _; refine G.rowForm Take.hd ?_; rintro _ _ rfl) | (refine G.atCode ?_; first | refine G.seq ?_ | refine G.region ?_ | refine G.block ?_ | refine G.skip ?_ | refine G.anyIn mixedOk ?_ | (refine G.cond rfl ?_ ?_ <;> intro hc <;> (try simp only [tests, reduceCtorEq] at hc) <;> (try exact Zf))) | refine G.endOps ?_ | refine G.endHeld ?_ | refine G.back ?_ | refine G.endBlk ?_ | (refine G.atGd ?_; first | refine G.guardYes rfl rfl ?_ | (refine G.guardS rfl rfl rfl ?_ ?_ <;> intro hc <;> (try simp only [tests, reduceCtorEq] at hc) <;> (try exact Zf))) | (refine G.atBin ?_; first | refine G.op rfl rfl ?_) | refine G.op rfl rfl ?_ | (refine G.atLen ?_; first | refine G.lenSlice rfl (tyy rfl) rfl ?_) | (refine G.atLoad ?_; first | refine G.loadOwn1 rfl (tyy rfl) rfl rfl Za rfl rfl ?_) | (refine G.atFld ?_; first | refine G.fieldAddr rfl (tyy rfl) rfl rfl ?_) | (refine G.atSto ?_; refine G.storeOwn rfl rfl (tyy rfl) Za rfl rfl rfl rfl ?_) | (refine G.atBsl ?_; refine G.buildSlice (tyy rfl) (tyy rfl) rfl rfl rfl rfl ?_; intro _))
      all_goals first | (exfalso; omega) | skip
      rename_i A' c'
      simp only [strsR_length]
      exact G.again ⟨nxt 4 (some (n :: r2)), v9, b9', vs ++ [txV (some (n :: r2))], A', c'⟩ ⟨rfl, rfl, rfl, rfl, trivial⟩ Zu ⟨hp9, hst⟩ (by solve | repeat first | assumption | exact Zr _ | refine Zq ?_ Zp) (meas_nxt 4 n r2)
end Go.Proofs.YtibkffoeioidlaaDoor
