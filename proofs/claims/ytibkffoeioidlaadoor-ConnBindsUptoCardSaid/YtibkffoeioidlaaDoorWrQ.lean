/- wire.bind, wire.search: what these operations' elements say. -/
import Derived.Test.YtibkffoeioidlaaDoorWrH
import Derived.Test.YtibkffoeioidlaaDoorWrD
import Derived.Test.YtibkffoeioidlaaDoorTlvW
import Derived.Test.YtibkffoeioidlaaDoorWrTie
namespace Go.Proofs.YtibkffoeioidlaaDoor
set_option linter.all false
set_option maxRecDepth 4000
open Go.RowKit

theorem callBindW : Callable Tryd.prog 89 := ⟨_, Tryd.func89, by kernel_rfl, rfl⟩
abbrev nilV : Value := .slice none 0 0
abbrev msB (gm : Nat) (m : Ms) (pv kv nv av mv cv : Value) : Chunk := .blk gm (msR m pv kv nv av mv cv) 51
theorem MsV.forms {h : Heap} {m : Ms} {pv kv nv av mv cv : Value} (s : MsV h m pv kv nv av mv cv) : (∃ A n c, pv = .slice A n c) /\ (∃ A n c, kv = .slice A n c) /\ (∃ A n c, nv = .slice A n c) /\ (∃ A n c, av = .slice A n c) /\ (∃ A n c, mv = .slice A n c) /\ (∃ A n c, cv = .slice A n c) := by
  obtain ⟨k, a, v, ps, ks, A, c, B, d, rows, _, e, _⟩ := s.fl.box
  injection e with _ e
  injection e with _ e
  injection e with _ e
  injection e with e1 e
  injection e with e2 e
  obtain ⟨A3, c3, e3, _⟩ := s.names.form
  obtain ⟨A4, c4, e4, _⟩ := s.attrs.form
  obtain ⟨A5, c5, e5, _⟩ := s.mods.form
  obtain ⟨A6, c6, e6, _⟩ := s.ctls.form
  exact ⟨⟨_, _, _, e1⟩, ⟨_, _, _, e2⟩, ⟨_, _, _, e3⟩, ⟨_, _, _, e4⟩, ⟨_, _, _, e5⟩, ⟨_, _, _, e6⟩⟩
def OpR (gm : Nat) (o : Option Ms) (u : Value) (h' : Heap) (H' : List Chunk) : Prop := ∃ (m' : Ms) (pv kv nv av mv : Value) (b : Bool), u = .bool b /\ H' = [msB gm m' pv kv nv av mv nilV] ∧
  ((b = true /\ o = some m' /\ MsV h' m' pv kv nv av mv nilV) \/ (b = false /\ o = none))
theorem OpR.ofB {gm : Nat} {o : Option Ms} {h' : Heap} {m' : Ms} {pv kv nv av mv : Value} (P : Bool) (ho : o = if P = true then some m' else none) (hV : MsV h' m' pv kv nv av mv nilV) : OpR gm o (.bool P) h' [msB gm m' pv kv nv av mv nilV] := by
  refine ⟨m', pv, kv, nv, av, mv, P, rfl, rfl, ?_⟩
  cases P with
  | true => exact .inl ⟨rfl, by rw [ho, if_pos rfl], hV⟩
  | false => exact .inr ⟨rfl, by rw [ho, if_neg Bool.false_ne_true]⟩
theorem OpR.no {gm : Nat} {o : Option Ms} {h' : Heap} {m' : Ms} {pv kv nv av mv : Value} (ho : o = none) : OpR gm o (.bool false) h' [msB gm m' pv kv nv av mv nilV] := ⟨m', pv, kv, nv, av, mv, false, rfl, rfl, .inr ⟨rfl, ho⟩⟩
theorem wire_maybe' {b : Bool} (g : Nat) (t : Int) (s : PS) (v : Value) (bad : Bool) (hb : myB t s = b) (h : Heap) (hp : PtC h s v bad) :
    Spec Tryd.prog 95 [.pointer (some ⟨g, 0, none⟩), .int .i64 t] h [prt g v bad] (fun u h' H' => (∃ v' bad', H' = [prt g v' bad'] /\ PtC h' (myS t s) v' bad') /\ u = .tuple #[str (nxN t s).data, .bool b]) := by
  rw [<- hb]
  exact wire_maybe g t s v bad h hp
set_option maxRecDepth 8000 in
set_option maxHeartbeats 4000000 in
theorem wire_bind (gm g : Nat) (id : Int) (p : PS) (hW : psW p <= 100000000) (v : Value) (bad : Bool) (h : Heap) (hp : PtC h p v bad) :
    Spec Tryd.prog 89 [.pointer (some ⟨gm, 0, none⟩), .pointer (some ⟨g, 0, none⟩)] h [msB gm { zM with id := id, op := 0 } nilV nilV nilV nilV nilV nilV, prt g v bad] (fun u h' H' => OpR gm (bindR { zM with id := id, op := 0 } p) u h' H') := by
  have hd := psW_data 2 p
  have hN := wire_number g 2 1 127 (by simp only [inR]; omega) (by simp only [inR]; omega) p v bad
  unfold bindR
  simp only
  generalize nmS 2 1 127 p = p1 at *
  generalize nmV 2 1 127 p = ver at *
  generalize hp2e : nxt 4 p1 = p2 at *
  have hT := fun v b => wire_text g p1 v b
  rw [hp2e] at hT
  cases hb : myB 128 p2 with
  | true =>
    rw [if_pos rfl]
    have hM := fun v b => wire_maybe' g 128 p2 v b hb
    have hS : myS 128 p2 = nxt 128 p2 := by unfold myS; rw [if_pos hb]
    rw [hS] at hM
    refine Spec.enter Tryd.func89 rfl rfl ?_; intro w0
    repeat' (first | (show G _ (.ops .seq _ (⟨some _, .call { callee := .value (.func 61), args := _, argTypes := _ }, _, _, _, none⟩ :: _) :: _) _ _ _; refine G.call callNumberP rfl rfl (hN _ (hp.mono (by solve | repeat first | assumption | exact Zr _ | refine Zq ?_ (by assumption))) (by omega)) (by solve | repeat first | apply Zn | apply Zh | apply Zt | apply Zc) ?_; rintro _ h2 H2 ⟨⟨v2, b2, rfl, hp2⟩, rfl⟩ hle2) | (show G _ (.ops .seq _ (⟨some _, .call { callee := .value (.func 91), args := _, argTypes := _ }, _, _, _, none⟩ :: _) :: _) _ _ _; refine G.call callTextW rfl rfl (hT _ _ _ (hp2.mono (by solve | repeat first | assumption | exact Zr _ | refine Zq ?_ (by assumption)))) (by solve | repeat first | apply Zn | apply Zh | apply Zt | apply Zc) ?_; rintro _ h3 H3 ⟨⟨v3, b3, rfl, hp3⟩, rfl⟩ hle3) | (show G _ (.ops .seq _ (⟨some _, .call { callee := .value (.func 95), args := _, argTypes := _ }, _, _, _, none⟩ :: _) :: _) _ _ _; refine G.call callMaybe rfl rfl (hM _ _ _ (hp3.mono (by solve | repeat first | assumption | exact Zr _ | refine Zq ?_ (by assumption)))) (by solve | repeat first | apply Zn | apply Zh | apply Zt | apply Zc) ?_; rintro _ h4 H4 ⟨⟨v4, b4, rfl, hp4⟩, rfl⟩ hle4) | (show G _ (.ops .seq _ (⟨some _, .call { callee := .value (.func 93), args := _, argTypes := _ }, _, _, _, none⟩ :: _) :: _) _ _ _; refine G.call callEnd rfl rfl (wire_end0 g _ _ _ _ (hp4.mono (by solve | repeat first | assumption | exact Zr _ | refine Zq ?_ (by assumption)))) (by solve | repeat first | apply Zn | apply Zh | apply Zt | apply Zc) ?_; rintro _ h5 H5 ⟨rfl, rfl⟩ hle5) | (refine G.atCode ?_; first | refine G.seq ?_ | refine G.region ?_ | refine G.ret ?_ | (refine G.cond rfl ?_ ?_ <;> intro hc <;> (try simp only [tests, reduceCtorEq] at hc) <;> (try (exfalso; first | omega | exact Zx hc | exact Zy hc | exact Zb hc | exact hc | exact hc trivial)))) | refine G.endOps ?_ | refine G.op rfl rfl ?_ | (refine G.atFld ?_; first | refine G.fieldAddr rfl (tyy rfl) rfl rfl ?_) | (refine G.atSto ?_; refine G.storeOwn rfl rfl (tyy rfl) (by solve | repeat first | apply Zh | apply Zt) rfl rfl rfl rfl ?_))
    all_goals first | (exfalso; omega) | (exfalso; simp_all; done) | skip
    all_goals exact G.done1 rfl rfl [msB gm _ _ _ _ _ _ _] (by solve | repeat first | apply Zm | apply Zh | apply Zt | apply Zk) (OpR.ofB (m' := { zM with id := id, op := 0, ver := ver, dn := txV p1, text := (nxN 128 p2).data }) _ rfl ⟨zF_C _, HSl.nil _ 1, SC.nil _ 2 _, SC.nil _ 3 _, HSl.nil _ 4⟩)
  | false =>
    rw [if_neg Bool.false_ne_true]
    have hM := fun v b => wire_maybe' g 128 p2 v b hb
    have hS : myS 128 p2 = p2 := by unfold myS; rw [if_neg (by rw [hb]; exact Bool.false_ne_true)]
    have hnn : (nxN 128 p2).data = [] := by
      have : nxt 128 p2 = none := by
        unfold myB at hb
        cases hq : nxt 128 p2 with
        | none => rfl
        | some l => rw [hq] at hb; cases hb
      rw [nxN_of_none this]; rfl
    rw [hS, hnn] at hM
    have hWi := fun v b h (hp : PtC h p2 v b) => wire_within g 163 p2 v b h hp
    unfold WiR at hWi
    generalize wiS 163 p2 = x at *
    generalize nxt 163 p2 = p3 at *
    generalize hx1e : nxt 4 x = x1 at *
    have hT2 := fun q v b => wire_text q x v b
    rw [hx1e] at hT2
    have hM2 := fun q v b => wire_maybe q 4 x1 v b
    refine Spec.enter Tryd.func89 rfl rfl ?_; intro w0
    repeat' (first | (show G _ (.ops .seq _ (⟨some _, .call { callee := .value (.func 61), args := _, argTypes := _ }, _, _, _, none⟩ :: _) :: _) _ _ _; refine G.call callNumberP rfl rfl (hN _ (hp.mono (by solve | repeat first | assumption | exact Zr _ | refine Zq ?_ (by assumption))) (by omega)) (by solve | repeat first | apply Zn | apply Zh | apply Zt | apply Zc) ?_; rintro _ h2 H2 ⟨⟨v2, b2, rfl, hp2⟩, rfl⟩ hle2) | (show G _ (.ops .seq _ (⟨some _, .call { callee := .value (.func 91), args := _, argTypes := _ }, _, _, _, none⟩ :: _) :: _) _ _ _; refine G.call callTextW rfl rfl (hT _ _ _ (hp2.mono (by solve | repeat first | assumption | exact Zr _ | refine Zq ?_ (by assumption)))) (by solve | repeat first | apply Zn | apply Zh | apply Zt | apply Zc) ?_; rintro _ h3 H3 ⟨⟨v3, b3, rfl, hp3⟩, rfl⟩ hle3) | (show G _ (.ops .seq _ (⟨some _, .call { callee := .value (.func 95), args := _, argTypes := _ }, _, _, _, none⟩ :: _) :: _) _ _ _; refine G.call callMaybe rfl rfl (hM _ _ _ (hp3.mono (by solve | repeat first | assumption | exact Zr _ | refine Zq ?_ (by assumption)))) (by solve | repeat first | apply Zn | apply Zh | apply Zt | apply Zc) ?_; rintro _ h4 H4 ⟨⟨v4, b4, rfl, hp4⟩, rfl⟩ hle4) | (show G _ (.ops .seq _ (⟨some _, .call { callee := .value (.func 60), args := _, argTypes := _ }, _, _, _, none⟩ :: _) :: _) _ _ _; refine G.call callWithin rfl rfl (hWi _ _ _ (hp4.mono (by solve | repeat first | assumption | exact Zr _ | refine Zq ?_ (by assumption)))) (by solve | repeat first | apply Zn | apply Zh | apply Zt | apply Zc) ?_; rintro _ h5 H5 ⟨v5, b5, q, w5, bq, rfl, hp5, rfl, hq5, hqn⟩ hle5) | (show G _ (.ops .seq _ (⟨some _, .call { callee := .value (.func 91), args := _, argTypes := _ }, _, _, _, none⟩ :: _) :: _) _ _ _; refine G.call callTextW rfl rfl (hT2 q _ _ _ (hq5.mono (by solve | repeat first | assumption | exact Zr _ | refine Zq ?_ (by assumption)))) (by solve | repeat first | apply Zn | apply Zh | apply Zt | apply Zc) ?_; rintro _ h6 H6 ⟨⟨v6, b6, rfl, hp6⟩, rfl⟩ hle6) | (show G _ (.ops .seq _ (⟨some _, .call { callee := .value (.func 95), args := _, argTypes := _ }, _, _, _, none⟩ :: _) :: _) _ _ _; refine G.call callMaybe rfl rfl (hM2 q _ _ _ (hp6.mono (by solve | repeat first | assumption | exact Zr _ | refine Zq ?_ (by assumption)))) (by solve | repeat first | apply Zn | apply Zh | apply Zt | apply Zc) ?_; rintro _ h7 H7 ⟨⟨v7, b7, rfl, hp7⟩, rfl⟩ hle7) | (show G _ (.ops .seq _ (⟨some _, .call { callee := .value (.func 93), args := _, argTypes := _ }, _, _, _, none⟩ :: _) :: _) _ _ _; refine G.call callEnd rfl rfl (wire_end1 g q _ p3 (myS 4 x1) _ _ _ _ _ (hp5.mono (by solve | repeat first | assumption | exact Zr _ | refine Zq ?_ (by assumption))) (hp7.mono (by solve | repeat first | assumption | exact Zr _ | refine Zq ?_ (by assumption)))) (by solve | repeat first | apply Zn | apply Zh | apply Zt | apply Zc) ?_; rintro _ h8 H8 ⟨rfl, rfl⟩ hle8) | (refine G.atCode ?_; first | refine G.seq ?_ | refine G.region ?_ | refine G.skip ?_ | refine G.ret ?_ | (refine G.cond rfl ?_ ?_ <;> intro hc <;> (try simp only [tests, reduceCtorEq] at hc) <;> (try (exfalso; first | omega | exact Zx hc | exact Zy hc | exact Zb hc | exact hc | exact hc trivial)))) | refine G.endOps ?_ | refine G.op rfl rfl ?_ | (refine G.atFld ?_; first | refine G.fieldAddr rfl (tyy rfl) rfl rfl ?_) | (refine G.atSto ?_; refine G.storeOwn rfl rfl (tyy rfl) (by solve | repeat first | apply Zh | apply Zt) rfl rfl rfl rfl ?_) | (refine G.atBsl ?_; refine G.buildSlice (tyy rfl) (tyy rfl) rfl rfl rfl rfl ?_; intro _))
    all_goals first | (exfalso; omega) | (exfalso; simp_all; done) | skip
    all_goals exact G.done1 rfl rfl [msB gm _ _ _ _ _ _ _] (by solve | repeat first | apply Zm | apply Zh | apply Zt | apply Zk) (OpR.ofB (m' := { zM with id := id, op := 0, ver := ver, dn := txV p1, sasl := true, mech := txV x, has := myB 4 x1, value := (nxN 4 x1).data }) _ (by simp only [Bool.and_eq_true]) ⟨zF_C _, HSl.nil _ 1, SC.nil _ 2 _, SC.nil _ 3 _, HSl.nil _ 4⟩)
theorem PsWf.bd {s : PS} {w : Nat} (h : PsWf s w) (d : Bs) (lo hi : Int) : PsWf (bdS s d lo hi) w := by
  intro l hl
  unfold bdS at hl
  split at hl
  . exact h l hl
  . cases hl
theorem PsWf.nm {s : PS} {w : Nat} (h : PsWf s w) (t lo hi : Int) : PsWf (nmS t lo hi s) w := (h.nxt t).bd _ _ _
end Go.Proofs.YtibkffoeioidlaaDoor
namespace Go.Proofs.YtibkffoeioidlaaDoor
set_option linter.all false
set_option maxRecDepth 4000
open Go.RowKit

structure RdOk (id op : Int) (n : Nd) (m : Ms) : Prop where
  hid : m.id = id
  hop : m.op = op
  hctls : m.ctls = []
  hok : okM m = true
  hbare : bareM m = m
  hfl : op = 3 -> WfN (flN m.fl) 62
theorem who_put {a : Nd} (h : (putM 1 a).2 = 0) : who (putM 1 a).1 = (a, 0) := by
  have e := par_put h []
  rw [List.append_nil] at e
  unfold who
  rw [e]
  simp
theorem write_ok {m : Ms} (h : (writeM m).2 = 0) : inM m.id 0 2147483647 = true /\ tagM m.op ≠ 0 /\ okM m = true /\ (putM 1 (nodeM m)).2 = 0 /\ (writeM m).1 = (putM 1 (nodeM m)).1 := by
  unfold writeM at h ⊢
  split at h
  . cases h
  rename_i h1
  rw [if_neg h1]
  split at h
  . cases h
  rename_i h2
  rw [if_neg h2]
  split at h
  . cases h
  rename_i h3
  rw [if_neg h3]
  exact ⟨by simpa using h1, h2, by simpa using h3, h, rfl⟩
theorem write_read {m : Ms} (h : (writeM m).2 = 0) : readM (writeM m).1 = .ok (bareM m) := by
  obtain ⟨h1, h2, h3, h4, h5⟩ := write_ok h
  rw [h5]
  unfold readM
  rw [who_put h4]
  rw [if_pos rfl]
  exact rd_node h1 h2 h3
end Go.Proofs.YtibkffoeioidlaaDoor
namespace Go.Proofs.YtibkffoeioidlaaDoor
set_option linter.all false
set_option maxRecDepth 4000
open Go.RowKit

def lfC (t : Int) (d : Bs) : List Value := [.int .i64 t, str d, .slice none 0 0]
theorem lf_C (h : Heap) (t : Int) (d : Bs) : NodeC h (lfN t d) (lfC t d) := NodeC.mk_ (HSl.nil h 3) (by simp only [KidsC])
def txtsC (l : List Bs) : List (List Value) := l.map (lfC 4)
theorem txtsC_len (l : List Bs) : (txtsC l).length = l.length := by simp [txtsC]
theorem txts_C (h : Heap) : ∀ l : List Bs, KidsC h (txtsN l) (txtsC l)
  | [] => by simp [txtsN, txtsC, KidsC]
  | a :: l => by
    have ih := txts_C h l
    unfold txtsN txtsC at *
    simp only [List.map_cons, KidsC]
    exact ⟨_, _, rfl, lf_C h 4 a, ih⟩
end Go.Proofs.YtibkffoeioidlaaDoor
namespace Go.Proofs.YtibkffoeioidlaaDoor
set_option linter.all false
set_option maxRecDepth 4000
open Go.RowKit

def AsR (gc W : Nat) (o : Option Nat) (nd : Nd) (u : Value) (h' : Heap) (H' : List Chunk) : Prop := ∃ (t : Int) (d : Bs) (A : Option Addr) (m c n' : Nat) (b : Bool) (nd' : Nd),
  u = .tuple #[.agg #[.int .i64 t, str d, .slice A m c], .bool b] /\ H' = [.blk gc [.int .i64 n'] 3] /\ nd'.wt <= 4 * W + 10 /\ NodeC h' nd' [.int .i64 t, str d, .slice A m c] /\ ((b = true /\ o = some n' /\ nd' = nd) \/ (b = false /\ o = none))
theorem AsR.no {gc W : Nat} {o : Option Nat} {nd : Nd} {h' : Heap} {n' : Nat} (ho : o = none) : AsR gc W o nd (.tuple #[.agg #[.int .i64 0, str [], .slice none 0 0], .bool false]) h' [.blk gc [.int .i64 n'] 3] :=
  ⟨0, [], none, 0, 0, n', false, zN, rfl, rfl, by simp only [zN, Nd.wt, wts, List.length_nil]; omega, zN_C _, .inr ⟨rfl, ho⟩⟩
theorem AsR.ok {gc W : Nat} {o : Option Nat} {nd : Nd} {h' : Heap} {t : Int} {d : Bs} {A : Option Addr} {m c n' : Nat} (ho : o = some n') (hw : nd.wt <= 4 * W + 10) (hn : NodeC h' nd [.int .i64 t, str d, .slice A m c]) : AsR gc W o nd (.tuple #[.agg #[.int .i64 t, str d, .slice A m c], .bool true]) h' [.blk gc [.int .i64 n'] 3] :=
  ⟨t, d, A, m, c, n', true, nd, rfl, rfl, hw, hn, .inl ⟨rfl, ho, rfl⟩⟩
theorem AsR.ofB {gc W : Nat} {o : Option Nat} {nd nd' : Nd} {h' : Heap} {t : Int} {d : Bs} {A : Option Addr} {m c n' : Nat} (P : Bool) (ho : o = if P = true then some n' else none) (hw : nd'.wt <= 4 * W + 10) (hn : NodeC h' nd' [.int .i64 t, str d, .slice A m c]) (he : P = true -> nd' = nd) : AsR gc W o nd (.tuple #[.agg #[.int .i64 t, str d, .slice A m c], .bool P]) h' [.blk gc [.int .i64 n'] 3] := by
  cases P with
  | true => obtain rfl := he rfl; exact AsR.ok (by rw [ho, if_pos rfl]) hw hn
  | false => exact ⟨t, d, A, m, c, n', false, nd', rfl, rfl, hw, hn, .inr ⟨rfl, by rw [ho, if_neg Bool.false_ne_true]⟩⟩
end Go.Proofs.YtibkffoeioidlaaDoor
