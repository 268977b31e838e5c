/- wire.operation: what an operation's element says. -/
import Derived.Test.YtibkffoeioidlaaDoorWrI
namespace Go.Proofs.YtibkffoeioidlaaDoor
set_option linter.all false
set_option maxRecDepth 4000
open Go.RowKit

def LsI {α : Type} (f : Nd -> Option α) (q : α -> Bool) (S0 st : PS) (okb : Bool) (ys : List α) : Prop :=
  ys.length + st.meas <= S0.meas /\ ((okb = true /\ ∃ l i, S0 = some l /\ st = some (l.drop i) /\ i <= l.length /\ allO f (l.take i) = some ys /\ ys.all q = true) ∨
    ((okb = false \/ st = none) /\ ∀ l xs, S0 = some l -> allO f l = some xs -> xs.all q = false))
theorem allO_get {α : Type} {f : Nd -> Option α} : ∀ {l : List Nd} {xs : List α}, allO f l = some xs -> ∀ n ∈ l, ∃ x ∈ xs, f n = some x
  | [], _, _, n, hn => by simp at hn
  | k :: l, xs, h, n, hn => by
    rw [allO] at h
    split at h
    . rename_i a ys h1 h2
      injection h with h
      subst h
      rcases List.mem_cons.1 hn with rfl | hn
      . exact ⟨a, List.mem_cons_self .., h1⟩
      . obtain ⟨x, hx, e⟩ := allO_get h2 n hn
        exact ⟨x, List.mem_cons_of_mem _ hx, e⟩
    . cases h
theorem allO_snoc {α : Type} {f : Nd -> Option α} : ∀ {l : List Nd} {xs : List α} {n : Nd} {a : α}, allO f l = some xs -> f n = some a -> allO f (l ++ [n]) = some (xs ++ [a])
  | [], xs, n, a, h, hn => by
    rw [allO] at h
    injection h with h
    subst h
    rw [List.nil_append, allO, hn]; rfl
  | k :: l, xs, n, a, h, hn => by
    rw [allO] at h
    split at h
    . rename_i b ys h1 h2
      injection h with h
      subst h
      rw [List.cons_append, allO, h1, allO_snoc h2 hn]; rfl
    . cases h
theorem LsI.start {α : Type} (f : Nd -> Option α) (q : α -> Bool) (S0 : PS) : LsI f q S0 S0 true [] := by
  refine ⟨by simp, ?_⟩
  cases S0 with
  | none => exact .inr ⟨.inr rfl, fun l xs e => by cases e⟩
  | some l => exact .inl ⟨rfl, l, 0, rfl, rfl, Nat.zero_le _, rfl, rfl⟩
theorem LsI.step {α : Type} {f : Nd -> Option α} {q : α -> Bool} {S0 : PS} {n : Nd} {r : List Nd} {okb : Bool} {ys : List α} (h : LsI f q S0 (some (n :: r)) okb ys) (a : α) (fine : Bool) (t : Int)
    (hf : (f n = some a /\ fine = true /\ n.tag = t) \/ (f n = none /\ fine = false)) : LsI f q S0 (nxt t (some (n :: r))) (okb && (fine && q a)) (ys ++ [a]) := by
  obtain ⟨hm, h⟩ := h
  have hm2 := meas_nxt t n r
  refine ⟨by simp only [List.length_append, List.length_cons, List.length_nil]; omega, ?_⟩
  rcases h with ⟨rfl, l, i, rfl, e, hi, ha, hq⟩ | ⟨h1, h2⟩
  . injection e with e
    have hil : i < l.length := by
      rcases Nat.lt_or_ge i l.length with q | q
      . exact q
      . rw [List.drop_eq_nil_of_le q] at e; cases e
    rw [List.drop_eq_getElem_cons hil] at e
    injection e with e1 e2
    have hmem : n ∈ l := by rw [e1]; exact List.getElem_mem hil
    rcases hf with ⟨hf, rfl, ht⟩ | ⟨hf, rfl⟩
    . cases hqa : q a with
      | true =>
        refine .inl ⟨rfl, l, i + 1, rfl, by rw [nxt, if_pos ht, e2], by omega, ?_, ?_⟩
        . rw [take_get (List.getElem?_eq_getElem hil), ← e1]
          exact allO_snoc ha hf
        . rw [List.all_append, hq]; simp [hqa]
      | false =>
        refine .inr ⟨.inl rfl, fun l' xs el ex => ?_⟩
        injection el with el
        subst el
        obtain ⟨x, hx, ex2⟩ := allO_get ex n hmem
        rw [hf] at ex2
        injection ex2 with ex2
        subst ex2
        exact List.all_eq_false.2 ⟨a, hx, by rw [hqa]; simp⟩
    . refine .inr ⟨.inl rfl, fun l' xs el ex => ?_⟩
      injection el with el
      subst el
      obtain ⟨x, hx, ex2⟩ := allO_get ex n hmem
      rw [hf] at ex2
      cases ex2
  . have h1' : okb = false := by
      rcases h1 with h1 | h1
      . exact h1
      . cases h1
    subst h1'
    exact .inr ⟨.inl rfl, h2⟩
theorem LsI.fin {α : Type} {f : Nd -> Option α} {q : α -> Bool} {S0 st : PS} {okb : Bool} {ys : List α} (h : LsI f q S0 st okb ys) (he : st = none \/ st = some []) :
    (okb = true /\ st = some [] /\ ∃ l, S0 = some l /\ allO f l = some ys /\ ys.all q = true) \/ ((okb && endP st) = false /\ ∀ l xs, S0 = some l -> allO f l = some xs -> xs.all q = false) := by
  obtain ⟨_, ⟨rfl, l, i, rfl, e, hi, ha, hq⟩ | ⟨h1, h2⟩⟩ := h
  . rcases he with rfl | rfl
    . cases e
    . injection e with e
      have hil : l.length <= i := by
        rcases Nat.lt_or_ge i l.length with q | q
        . rw [List.drop_eq_getElem_cons q] at e; cases e
        . exact q
      obtain rfl : i = l.length := by omega
      rw [List.take_length] at ha
      exact .inl ⟨rfl, rfl, l, rfl, ha, hq⟩
  . refine .inr ⟨?_, h2⟩
    rcases h1 with rfl | rfl
    . rfl
    . rw [show endP none = false from rfl, Bool.and_false]
theorem callOperation : Callable Tryd.prog 62 := ⟨_, Tryd.func62, by kernel_rfl, rfl⟩
abbrev OpSpec (op : Int) : Prop := ∀ (gm : Nat) (id : Int) (n : Nd) (_ : n.wt <= 100000000) (w : Nat) (_ : WfN n w) (r : List Value) (h : Heap) (_ : NodeC h n r),
    Spec Tryd.prog 62 [.pointer (some ⟨gm, 0, none⟩), .agg r.toArray] h [msB gm { zM with id := id, op := op } nilV nilV nilV nilV nilV nilV] (fun u h' H' => OpR gm (opR { zM with id := id, op := op } n) u h' H')
theorem zV {m : Ms} {h : Heap} (e1 : m.fl = zF) (e2 : m.names = []) (e3 : m.attrs = []) (e4 : m.mods = []) (e5 : m.ctls = []) : MsV h m nilV nilV nilV nilV nilV nilV :=
  ⟨by rw [e1]; exact zF_C _, by rw [e2]; exact HSl.nil _ 1, by rw [e3]; exact SC.nil _ 2 _, by rw [e4]; exact SC.nil _ 3 _, by rw [e5]; exact HSl.nil _ 4⟩
theorem psW_some {n : Nd} {b : Nat} (h : n.wt <= b) : psW (some n.kids) <= b := by have := n.wt_eq; simp only [psW]; omega
set_option maxRecDepth 8000 in
set_option maxHeartbeats 4000000 in
theorem wire_op0 : OpSpec 0 := by
  intro gm id n hwt w hwf r h hn
  obtain ⟨kv, rfl, hkv⟩ := hn.ks
  obtain ⟨A, c, rfl, _, hm⟩ := hkv.form
  have hB := fun g v b h hp => wire_bind gm g id (some n.kids) (psW_some hwt) v b h hp
  refine Spec.enter Tryd.func62 rfl rfl ?_; intro w0
  repeat' (first | (show G _ (.ops .seq _ (⟨some _, .call { callee := .value (.func 89), args := _, argTypes := _ }, _, _, _, none⟩ :: _) :: _) _ _ _; refine G.call callBindW rfl rfl (hB _ _ false _ ⟨rfl, hkv.mono (by solve | repeat first | assumption | exact Zr _ | refine Zq ?_ Zp)⟩) Ze ?_; rintro _ h2 H2 ⟨m', pv, kv', nv, av, mv, b, rfl, rfl, hres⟩ hle2) | (refine G.atCode ?_; first | refine G.seq ?_ | refine G.region ?_ | refine G.block ?_ | refine G.ret ?_ | (refine G.cond rfl ?_ ?_ <;> intro hc <;> (try simp only [tests, reduceCtorEq] at hc) <;> (try exact Zf))) | refine G.endOps ?_ | (refine G.atBin ?_; first | (refine G.atEql ?_; first | refine G.op rfl rfl ?_)) | refine G.op rfl rfl ?_ | (refine G.atLoad ?_; first | refine G.loadOwn1 rfl (tyy rfl) rfl rfl Za rfl rfl ?_) | (refine G.atFld ?_; first | refine G.fieldAddr rfl (tyy rfl) rfl rfl ?_) | (refine G.atBox ?_; refine G.box rfl rfl rfl ?_; intro _) | (refine G.atBld ?_; refine G.build (tyy rfl) rfl rfl rfl ?_))
  all_goals first | (exfalso; omega) | skip
  all_goals exact G.done1 rfl rfl [msB gm _ _ _ _ _ _ _] Zu ⟨m', pv, kv', nv, av, mv, b, rfl, rfl, hres⟩
set_option maxRecDepth 8000 in
set_option maxHeartbeats 4000000 in
theorem wire_op2 : OpSpec 2 := by
  intro gm id n hwt w hwf r h hn
  obtain ⟨kv, rfl, hkv⟩ := hn.ks
  obtain ⟨A, c, rfl, _, hm⟩ := hkv.form
  refine Spec.enter Tryd.func62 rfl rfl ?_; intro w0
  repeat' (first | (refine G.atCode ?_; first | refine G.seq ?_ | refine G.region ?_ | refine G.block ?_ | refine G.ret ?_ | (refine G.cond rfl ?_ ?_ <;> intro hc <;> (try simp only [tests, reduceCtorEq] at hc) <;> (try exact Zf))) | refine G.endOps ?_ | (refine G.atBin ?_; first | (refine G.atEql ?_; first | refine G.op rfl rfl ?_ | refine G.eqStr0 rfl rfl rfl ?_)) | refine G.op rfl rfl ?_ | (refine G.atLoad ?_; first | refine G.loadOwn1 rfl (tyy rfl) rfl rfl Za rfl rfl ?_) | (refine G.atFld ?_; first | refine G.fieldAddr rfl (tyy rfl) rfl rfl ?_) | (refine G.atBox ?_; refine G.box rfl rfl rfl ?_; intro _) | (refine G.atBld ?_; refine G.build (tyy rfl) rfl rfl rfl ?_))
  all_goals first | (exfalso; omega) | skip
  all_goals exact G.done1 rfl rfl [msB gm _ _ _ _ _ _ _] Zu (OpR.ofB (m' := { zM with id := id, op := 2 }) _ (by rw [show opR { zM with id := id, op := 2 } n = if n.data = [] then some { zM with id := id, op := 2 } else none from rfl]; simp only [decide_eq_true_eq, List.length_eq_zero_iff]) (zV rfl rfl rfl rfl rfl))
set_option maxRecDepth 8000 in
set_option maxHeartbeats 4000000 in
theorem wire_op3 : OpSpec 3 := by
  intro gm id n hwt w hwf r h hn
  obtain ⟨kv, rfl, hkv⟩ := hn.ks
  obtain ⟨A, c, rfl, _, hm⟩ := hkv.form
  have hB := fun g v b h hp => wire_search gm g id (some n.kids) (psW_some hwt) (w - 1) (fun l hl => by injection hl with hl; subst hl; exact hwf.kids) v b h hp
  refine Spec.enter Tryd.func62 rfl rfl ?_; intro w0
  repeat' (first | (show G _ (.ops .seq _ (⟨some _, .call { callee := .value (.func 90), args := _, argTypes := _ }, _, _, _, none⟩ :: _) :: _) _ _ _; refine G.call callSearchW rfl rfl (hB _ _ false _ ⟨rfl, hkv.mono (by solve | repeat first | assumption | exact Zr _ | refine Zq ?_ Zp)⟩) Ze ?_; rintro _ h2 H2 ⟨m', pv, kv', nv, av, mv, b, rfl, rfl, hres⟩ hle2) | (refine G.atCode ?_; first | refine G.seq ?_ | refine G.region ?_ | refine G.block ?_ | refine G.ret ?_ | (refine G.cond rfl ?_ ?_ <;> intro hc <;> (try simp only [tests, reduceCtorEq] at hc) <;> (try exact Zf))) | refine G.endOps ?_ | (refine G.atBin ?_; first | (refine G.atEql ?_; first | refine G.op rfl rfl ?_)) | refine G.op rfl rfl ?_ | (refine G.atLoad ?_; first | refine G.loadOwn1 rfl (tyy rfl) rfl rfl Za rfl rfl ?_) | (refine G.atFld ?_; first | refine G.fieldAddr rfl (tyy rfl) rfl rfl ?_) | (refine G.atBox ?_; refine G.box rfl rfl rfl ?_; intro _) | (refine G.atBld ?_; refine G.build (tyy rfl) rfl rfl rfl ?_))
  all_goals first | (exfalso; omega) | skip
  all_goals exact G.done1 rfl rfl [msB gm _ _ _ _ _ _ _] Zu ⟨m', pv, kv', nv, av, mv, b, rfl, rfl, hres⟩
set_option maxRecDepth 8000 in
set_option maxHeartbeats 4000000 in
theorem wire_op10 : OpSpec 10 := by
  intro gm id n hwt w hwf r h hn
  obtain ⟨kv, rfl, hkv⟩ := hn.ks
  obtain ⟨A, c, rfl, _, hm⟩ := hkv.form
  refine Spec.enter Tryd.func62 rfl rfl ?_; intro w0
  repeat' (first | (refine G.atCode ?_; first | refine G.seq ?_ | refine G.region ?_ | refine G.block ?_ | refine G.ret ?_ | (refine G.cond rfl ?_ ?_ <;> intro hc <;> (try simp only [tests, reduceCtorEq] at hc) <;> (try exact Zf))) | refine G.endOps ?_ | (refine G.atBin ?_; first | (refine G.atEql ?_; first | refine G.op rfl rfl ?_)) | refine G.op rfl rfl ?_ | (refine G.atLoad ?_; first | refine G.loadOwn1 rfl (tyy rfl) rfl rfl Za rfl rfl ?_) | (refine G.atFld ?_; first | refine G.fieldAddr rfl (tyy rfl) rfl rfl ?_) | (refine G.atSto ?_; refine G.storeOwn rfl rfl (tyy rfl) Za rfl rfl rfl rfl ?_) | (refine G.atBox ?_; refine G.box rfl rfl rfl ?_; intro _) | (refine G.atBld ?_; refine G.build (tyy rfl) rfl rfl rfl ?_))
  all_goals first | (exfalso; omega) | skip
  all_goals exact G.done1 rfl rfl [msB gm _ _ _ _ _ _ _] Zu (OpR.ofB (m' := { zM with id := id, op := 10, dn := n.data }) true rfl (zV rfl rfl rfl rfl rfl))
set_option maxRecDepth 8000 in
set_option maxHeartbeats 4000000 in
theorem wire_op12 : OpSpec 12 := by
  intro gm id n hwt w hwf r h hn
  obtain ⟨kv, rfl, hkv⟩ := hn.ks
  obtain ⟨A, c, rfl, _, hm⟩ := hkv.form
  have e : opR { zM with id := id, op := 12 } n = if endP (myS 128 (trS (nxt 4 (nxt 4 (some n.kids))))) = true then some { zM with id := id, op := 12, dn := txV (some n.kids), rdn := txV (nxt 4 (some n.kids)), delOld := trV (nxt 4 (nxt 4 (some n.kids))), hasSup := myB 128 (trS (nxt 4 (nxt 4 (some n.kids)))), sup := (nxN 128 (trS (nxt 4 (nxt 4 (some n.kids))))).data } else none := rfl
  rw [e]
  clear e
  have hT := fun g v b => wire_text g (some n.kids) v b
  have hT2 := fun g v b => wire_text g (nxt 4 (some n.kids)) v b
  have hT3 := fun g v b => wire_truthP g (nxt 4 (nxt 4 (some n.kids))) v b
  have hM := fun g v b => wire_maybe g 128 (trS (nxt 4 (nxt 4 (some n.kids)))) v b
  refine Spec.enter Tryd.func62 rfl rfl ?_; intro w0
  repeat' (first | (show G _ (.ops .seq _ (⟨some _, .call { callee := .value (.func 91), args := _, argTypes := _ }, _, _, _, none⟩ :: _) :: _) _ _ _; refine G.call callTextW rfl rfl (hT _ _ false _ ⟨rfl, hkv.mono (by solve | repeat first | assumption | exact Zr _ | refine Zq ?_ Zp)⟩) Ze ?_; rintro _ h2 H2 ⟨⟨v2, b2, rfl, hp2⟩, rfl⟩ hle2) | (show G _ (.ops .seq _ (⟨some _, .call { callee := .value (.func 91), args := _, argTypes := _ }, _, _, _, none⟩ :: _) :: _) _ _ _; refine G.call callTextW rfl rfl (hT2 _ _ _ _ (hp2.mono (by solve | repeat first | assumption | exact Zr _ | refine Zq ?_ Zp))) Ze ?_; rintro _ h3 H3 ⟨⟨v3, b3, rfl, hp3⟩, rfl⟩ hle3) | (show G _ (.ops .seq _ (⟨some _, .call { callee := .value (.func 94), args := _, argTypes := _ }, _, _, _, none⟩ :: _) :: _) _ _ _; refine G.call callTruthP rfl rfl (hT3 _ _ _ _ (hp3.mono (by solve | repeat first | assumption | exact Zr _ | refine Zq ?_ Zp))) Ze ?_; rintro _ h4 H4 ⟨⟨v4, b4, rfl, hp4⟩, rfl⟩ hle4) | (show G _ (.ops .seq _ (⟨some _, .call { callee := .value (.func 95), args := _, argTypes := _ }, _, _, _, none⟩ :: _) :: _) _ _ _; refine G.call callMaybe rfl rfl (hM _ _ _ _ (hp4.mono (by solve | repeat first | assumption | exact Zr _ | refine Zq ?_ Zp))) Ze ?_; rintro _ h5 H5 ⟨⟨v5, b5, rfl, hp5⟩, rfl⟩ hle5) | (show G _ (.ops .seq _ (⟨some _, .call { callee := .value (.func 93), args := _, argTypes := _ }, _, _, _, none⟩ :: _) :: _) _ _ _; refine G.call callEnd rfl rfl (wire_end0 _ _ _ _ _ (hp5.mono (by solve | repeat first | assumption | exact Zr _ | refine Zq ?_ Zp))) Ze ?_; rintro _ h6 H6 ⟨rfl, rfl⟩ hle6) | (refine G.atCode ?_; first | refine G.seq ?_ | refine G.region ?_ | refine G.block ?_ | refine G.ret ?_ | (refine G.cond rfl ?_ ?_ <;> intro hc <;> (try simp only [tests, reduceCtorEq] at hc) <;> (try exact Zf))) | refine G.endOps ?_ | refine G.endBlk ?_ | (refine G.atBin ?_; first | (refine G.atEql ?_; first | refine G.op rfl rfl ?_)) | refine G.op rfl rfl ?_ | (refine G.atLoad ?_; first | refine G.loadOwn1 rfl (tyy rfl) rfl rfl Za rfl rfl ?_) | (refine G.atFld ?_; first | refine G.fieldAddr rfl (tyy rfl) rfl rfl ?_) | (refine G.atSto ?_; refine G.storeOwn rfl rfl (tyy rfl) Za rfl rfl rfl rfl ?_) | (refine G.atBox ?_; refine G.box rfl rfl rfl ?_; intro _) | (refine G.atBld ?_; refine G.build (tyy rfl) rfl rfl rfl ?_))
  all_goals first | (exfalso; omega) | skip
  all_goals exact G.done1 rfl rfl [msB gm _ _ _ _ _ _ _] Zu (OpR.ofB (m' := { zM with id := id, op := 12, dn := txV (some n.kids), rdn := txV (nxt 4 (some n.kids)), delOld := trV (nxt 4 (nxt 4 (some n.kids))), hasSup := myB 128 (trS (nxt 4 (nxt 4 (some n.kids)))), sup := (nxN 128 (trS (nxt 4 (nxt 4 (some n.kids))))).data }) _ rfl (zV rfl rfl rfl rfl rfl))
set_option maxRecDepth 8000 in
set_option maxHeartbeats 4000000 in
theorem wire_op14 : OpSpec 14 := by
  intro gm id n hwt w hwf r h hn
  obtain ⟨kv, rfl, hkv⟩ := hn.ks
  obtain ⟨A, c, rfl, _, hm⟩ := hkv.form
  have e : opR { zM with id := id, op := 14 } n = if endP (nxt 48 (nxt 4 (some n.kids))) = true /\ endP (nxt 4 (nxt 4 (wiS 48 (nxt 4 (some n.kids))))) = true then some { zM with id := id, op := 14, dn := txV (some n.kids), attr := txV (wiS 48 (nxt 4 (some n.kids))), text := txV (nxt 4 (wiS 48 (nxt 4 (some n.kids)))) } else none := rfl
  rw [e]
  clear e
  have hT := fun g v b => wire_text g (some n.kids) v b
  have hWi := fun g v b h (hp : PtC h (nxt 4 (some n.kids)) v b) => wire_within g 48 (nxt 4 (some n.kids)) v b h hp
  unfold WiR at hWi
  have hT2 := fun g v b => wire_text g (wiS 48 (nxt 4 (some n.kids))) v b
  have hT3 := fun g v b => wire_text g (nxt 4 (wiS 48 (nxt 4 (some n.kids)))) v b
  refine Spec.enter Tryd.func62 rfl rfl ?_; intro w0
  repeat' (first | (show G _ (.ops .seq _ (⟨some _, .call { callee := .value (.func 91), args := _, argTypes := _ }, _, _, _, none⟩ :: _) :: _) _ _ _; refine G.call callTextW rfl rfl (hT _ _ false _ ⟨rfl, hkv.mono (by solve | repeat first | assumption | exact Zr _ | refine Zq ?_ Zp)⟩) Ze ?_; rintro _ h2 H2 ⟨⟨v2, b2, rfl, hp2⟩, rfl⟩ hle2) | (show G _ (.ops .seq _ (⟨some _, .call { callee := .value (.func 60), args := _, argTypes := _ }, _, _, _, none⟩ :: _) :: _) _ _ _; refine G.call callWithin rfl rfl (hWi _ _ _ _ (hp2.mono (by solve | repeat first | assumption | exact Zr _ | refine Zq ?_ Zp))) Ze ?_; rintro _ h3 H3 ⟨v3, b3, q, w3, bq, rfl, hp3, rfl, hq3, hqn⟩ hle3) | (show G _ (.ops .seq _ (⟨some _, .call { callee := .value (.func 91), args := _, argTypes := _ }, _, _, _, none⟩ :: _) :: _) _ _ _; refine G.call callTextW rfl rfl (hT2 _ _ _ _ (hq3.mono (by solve | repeat first | assumption | exact Zr _ | refine Zq ?_ Zp))) Ze ?_; rintro _ h4 H4 ⟨⟨v4, b4, rfl, hp4⟩, rfl⟩ hle4) | (show G _ (.ops .seq _ (⟨some _, .call { callee := .value (.func 91), args := _, argTypes := _ }, _, _, _, none⟩ :: _) :: _) _ _ _; refine G.call callTextW rfl rfl (hT3 _ _ _ _ (hp4.mono (by solve | repeat first | assumption | exact Zr _ | refine Zq ?_ Zp))) Ze ?_; rintro _ h5 H5 ⟨⟨v5, b5, rfl, hp5⟩, rfl⟩ hle5) | (show G _ (.ops .seq _ (⟨some _, .call { callee := .value (.func 93), args := _, argTypes := _ }, _, _, _, none⟩ :: _) :: _) _ _ _; refine G.call callEnd rfl rfl (wire_end1 _ _ _ (nxt 48 (nxt 4 (some n.kids))) (nxt 4 (nxt 4 (wiS 48 (nxt 4 (some n.kids))))) _ _ _ _ _ (hp3.mono (by solve | repeat first | assumption | exact Zr _ | refine Zq ?_ Zp)) (hp5.mono (by solve | repeat first | assumption | exact Zr _ | refine Zq ?_ Zp))) Ze ?_; rintro _ h6 H6 ⟨rfl, rfl⟩ hle6) | (refine G.atCode ?_; first | refine G.seq ?_ | refine G.region ?_ | refine G.block ?_ | refine G.ret ?_ | (refine G.cond rfl ?_ ?_ <;> intro hc <;> (try simp only [tests, reduceCtorEq] at hc) <;> (try exact Zf))) | refine G.endOps ?_ | (refine G.atBin ?_; first | (refine G.atEql ?_; first | refine G.op rfl rfl ?_)) | refine G.op rfl rfl ?_ | (refine G.atLoad ?_; first | refine G.loadOwn1 rfl (tyy rfl) rfl rfl Za rfl rfl ?_) | (refine G.atFld ?_; first | refine G.fieldAddr rfl (tyy rfl) rfl rfl ?_) | (refine G.atSto ?_; refine G.storeOwn rfl rfl (tyy rfl) Za rfl rfl rfl rfl ?_) | (refine G.atBox ?_; refine G.box rfl rfl rfl ?_; intro _) | (refine G.atBld ?_; refine G.build (tyy rfl) rfl rfl rfl ?_) | (refine G.atBsl ?_; refine G.buildSlice (tyy rfl) (tyy rfl) rfl rfl rfl rfl ?_; intro _))
  all_goals first | (exfalso; omega) | skip
  all_goals exact G.done1 rfl rfl [msB gm _ _ _ _ _ _ _] Zu (OpR.ofB (m' := { zM with id := id, op := 14, dn := txV (some n.kids), attr := txV (wiS 48 (nxt 4 (some n.kids))), text := txV (nxt 4 (wiS 48 (nxt 4 (some n.kids)))) }) _ (by simp only [Bool.and_eq_true]) (zV rfl rfl rfl rfl rfl))
set_option maxRecDepth 8000 in
set_option maxHeartbeats 4000000 in
theorem wire_op16 : OpSpec 16 := by
  intro gm id n hwt w hwf r h hn
  obtain ⟨kv, rfl, hkv⟩ := hn.ks
  obtain ⟨A, c, rfl, _, hm⟩ := hkv.form
  have hnl : n.data.length <= 100000000 := by have := n.wt_eq; omega
  have e : opR { zM with id := id, op := 16 } n = if endP (bdS (some n.kids) n.data 0 2147483647) = true then some { zM with id := id, op := 16, target := bdV (some n.kids) n.data 0 2147483647 } else none := rfl
  rw [e]
  clear e
  have hB := fun g v b => wire_bounded g n.data 0 2147483647 (by omega) Zi Zi (some n.kids) v b
  refine Spec.enter Tryd.func62 rfl rfl ?_; intro w0
  repeat' (first | (show G _ (.ops .seq _ (⟨some _, .call { callee := .value (.func 88), args := _, argTypes := _ }, _, _, _, none⟩ :: _) :: _) _ _ _; refine G.call callBounded rfl rfl (hB _ _ false _ ⟨rfl, hkv.mono (by solve | repeat first | assumption | exact Zr _ | refine Zq ?_ Zp)⟩) Ze ?_; rintro _ h2 H2 ⟨⟨v2, b2, rfl, hp2⟩, rfl⟩ hle2) | (show G _ (.ops .seq _ (⟨some _, .call { callee := .value (.func 93), args := _, argTypes := _ }, _, _, _, none⟩ :: _) :: _) _ _ _; refine G.call callEnd rfl rfl (wire_end0 _ _ _ _ _ (hp2.mono (by solve | repeat first | assumption | exact Zr _ | refine Zq ?_ Zp))) Ze ?_; rintro _ h6 H6 ⟨rfl, rfl⟩ hle6) | (refine G.atCode ?_; first | refine G.seq ?_ | refine G.region ?_ | refine G.block ?_ | refine G.ret ?_ | (refine G.cond rfl ?_ ?_ <;> intro hc <;> (try simp only [tests, reduceCtorEq] at hc) <;> (try exact Zf))) | refine G.endOps ?_ | refine G.endBlk ?_ | (refine G.atBin ?_; first | (refine G.atEql ?_; first | refine G.op rfl rfl ?_)) | refine G.op rfl rfl ?_ | (refine G.atLoad ?_; first | refine G.loadOwn1 rfl (tyy rfl) rfl rfl Za rfl rfl ?_) | (refine G.atFld ?_; first | refine G.fieldAddr rfl (tyy rfl) rfl rfl ?_) | (refine G.atSto ?_; refine G.storeOwn rfl rfl (tyy rfl) Za rfl rfl rfl rfl ?_) | (refine G.atBox ?_; refine G.box rfl rfl rfl ?_; intro _) | (refine G.atBld ?_; refine G.build (tyy rfl) rfl rfl rfl ?_))
  all_goals first | (exfalso; omega) | skip
  all_goals exact G.done1 rfl rfl [msB gm _ _ _ _ _ _ _] Zu (OpR.ofB (m' := { zM with id := id, op := 16, target := bdV (some n.kids) n.data 0 2147483647 }) _ rfl (zV rfl rfl rfl rfl rfl))
set_option maxRecDepth 8000 in
set_option maxHeartbeats 4000000 in
theorem wire_op23 : OpSpec 23 := by
  intro gm id n hwt w hwf r h hn
  obtain ⟨kv, rfl, hkv⟩ := hn.ks
  obtain ⟨A, c, rfl, _, hm⟩ := hkv.form
  have e : opR { zM with id := id, op := 23 } n = if endP (myS 129 (nxt 128 (some n.kids))) = true then some { zM with id := id, op := 23, oid := (nxN 128 (some n.kids)).data, has := myB 129 (nxt 128 (some n.kids)), value := (nxN 129 (nxt 128 (some n.kids))).data } else none := rfl
  rw [e]
  clear e
  have hN := fun g v b h hp => wire_next g 128 (some n.kids) v b h hp
  have hM := fun g v b => wire_maybe g 129 (nxt 128 (some n.kids)) v b
  refine Spec.enter Tryd.func62 rfl rfl ?_; intro w0
  repeat' (first | (refine G.fieldV rfl (tyy rfl) rfl (tyy rfl) rfl rfl rfl rfl ?_) | (show G _ (.ops .seq _ (⟨some _, .call { callee := .value (.func 87), args := _, argTypes := _ }, _, _, _, none⟩ :: _) :: _) _ _ _; refine G.call callNextW rfl rfl (hN _ _ false _ ⟨rfl, hkv.mono (by solve | repeat first | assumption | exact Zr _ | refine Zq ?_ Zp)⟩) Ze ?_; rintro _ h2 H2 ⟨v2, b2, kA, kc, rfl, hp2, rfl, hk2⟩ hle2) | (show G _ (.ops .seq _ (⟨some _, .call { callee := .value (.func 95), args := _, argTypes := _ }, _, _, _, none⟩ :: _) :: _) _ _ _; refine G.call callMaybe rfl rfl (hM _ _ _ _ (hp2.mono (by solve | repeat first | assumption | exact Zr _ | refine Zq ?_ Zp))) Ze ?_; rintro _ h5 H5 ⟨⟨v5, b5, rfl, hp5⟩, rfl⟩ hle5) | (show G _ (.ops .seq _ (⟨some _, .call { callee := .value (.func 93), args := _, argTypes := _ }, _, _, _, none⟩ :: _) :: _) _ _ _; refine G.call callEnd rfl rfl (wire_end0 _ _ _ _ _ (hp5.mono (by solve | repeat first | assumption | exact Zr _ | refine Zq ?_ Zp))) Ze ?_; rintro _ h6 H6 ⟨rfl, rfl⟩ hle6) | (refine G.atCode ?_; first | refine G.seq ?_ | refine G.region ?_ | refine G.block ?_ | refine G.ret ?_ | (refine G.cond rfl ?_ ?_ <;> intro hc <;> (try simp only [tests, reduceCtorEq] at hc) <;> (try exact Zf))) | refine G.endOps ?_ | refine G.endBlk ?_ | (refine G.atBin ?_; first | (refine G.atEql ?_; first | refine G.op rfl rfl ?_)) | refine G.op rfl rfl ?_ | (refine G.atLoad ?_; first | refine G.loadOwn1 rfl (tyy rfl) rfl rfl Za rfl rfl ?_) | (refine G.atFld ?_; first | refine G.fieldAddr rfl (tyy rfl) rfl rfl ?_) | (refine G.atSto ?_; refine G.storeOwn rfl rfl (tyy rfl) Za rfl rfl rfl rfl ?_) | (refine G.atBox ?_; refine G.box rfl rfl rfl ?_; intro _) | (refine G.atBld ?_; refine G.build (tyy rfl) rfl rfl rfl ?_))
  all_goals first | (exfalso; omega) | skip
  all_goals exact G.done1 rfl rfl [msB gm _ _ _ _ _ _ _] Zu (OpR.ofB (m' := { zM with id := id, op := 23, oid := (nxN 128 (some n.kids)).data, has := myB 129 (nxt 128 (some n.kids)), value := (nxN 129 (nxt 128 (some n.kids))).data }) _ rfl (zV rfl rfl rfl rfl rfl))
set_option maxRecDepth 8000 in
set_option maxHeartbeats 4000000 in
theorem wire_op24 : OpSpec 24 := by
  intro gm id n hwt w hwf r h hn
  obtain ⟨kv, rfl, hkv⟩ := hn.ks
  obtain ⟨A, c, rfl, _, hm⟩ := hkv.form
  have hd := psW_data 10 (some n.kids)
  have hW := psW_some hwt
  have e : opR { zM with id := id, op := 24 } n = if endP (myS 139 (myS 138 (nxt 4 (nxt 4 (nmS 10 0 2147483647 (some n.kids)))))) = true then some { zM with id := id, op := 24, code := nmV 10 0 2147483647 (some n.kids), matched := txV (nmS 10 0 2147483647 (some n.kids)), text := txV (nxt 4 (nmS 10 0 2147483647 (some n.kids))), oid := (nxN 138 (nxt 4 (nxt 4 (nmS 10 0 2147483647 (some n.kids))))).data, has := myB 139 (myS 138 (nxt 4 (nxt 4 (nmS 10 0 2147483647 (some n.kids))))), value := (nxN 139 (myS 138 (nxt 4 (nxt 4 (nmS 10 0 2147483647 (some n.kids)))))).data } else none := rfl
  rw [e]
  clear e
  have hN := fun g v b => wire_number g 10 0 2147483647 Zi Zi (some n.kids) v b
  have hT := fun g v b => wire_text g (nmS 10 0 2147483647 (some n.kids)) v b
  have hT2 := fun g v b => wire_text g (nxt 4 (nmS 10 0 2147483647 (some n.kids))) v b
  have hM := fun g v b => wire_maybe g 138 (nxt 4 (nxt 4 (nmS 10 0 2147483647 (some n.kids)))) v b
  have hM2 := fun g v b => wire_maybe g 139 (myS 138 (nxt 4 (nxt 4 (nmS 10 0 2147483647 (some n.kids))))) v b
  refine Spec.enter Tryd.func62 rfl rfl ?_; intro w0
  repeat' (first | (show G _ (.ops .seq _ (⟨some _, .call { callee := .value (.func 61), args := _, argTypes := _ }, _, _, _, none⟩ :: _) :: _) _ _ _; refine G.call callNumberP rfl rfl (hN _ _ false _ ⟨rfl, hkv.mono (by solve | repeat first | assumption | exact Zr _ | refine Zq ?_ Zp)⟩ (by omega)) Ze ?_; rintro _ h2 H2 ⟨⟨v2, b2, rfl, hp2⟩, rfl⟩ hle2) | (show G _ (.ops .seq _ (⟨some _, .call { callee := .value (.func 91), args := _, argTypes := _ }, _, _, _, none⟩ :: _) :: _) _ _ _; refine G.call callTextW rfl rfl (hT _ _ _ _ (hp2.mono (by solve | repeat first | assumption | exact Zr _ | refine Zq ?_ Zp))) Ze ?_; rintro _ h3 H3 ⟨⟨v3, b3, rfl, hp3⟩, rfl⟩ hle3) | (show G _ (.ops .seq _ (⟨some _, .call { callee := .value (.func 91), args := _, argTypes := _ }, _, _, _, none⟩ :: _) :: _) _ _ _; refine G.call callTextW rfl rfl (hT2 _ _ _ _ (hp3.mono (by solve | repeat first | assumption | exact Zr _ | refine Zq ?_ Zp))) Ze ?_; rintro _ h4 H4 ⟨⟨v4, b4, rfl, hp4⟩, rfl⟩ hle4) | (show G _ (.ops .seq _ (⟨some _, .call { callee := .value (.func 95), args := _, argTypes := _ }, _, _, _, none⟩ :: _) :: _) _ _ _; refine G.call callMaybe rfl rfl (hM _ _ _ _ (hp4.mono (by solve | repeat first | assumption | exact Zr _ | refine Zq ?_ Zp))) Ze ?_; rintro _ h5 H5 ⟨⟨v5, b5, rfl, hp5⟩, rfl⟩ hle5) | (show G _ (.ops .seq _ (⟨some _, .call { callee := .value (.func 95), args := _, argTypes := _ }, _, _, _, none⟩ :: _) :: _) _ _ _; refine G.call callMaybe rfl rfl (hM2 _ _ _ _ (hp5.mono (by solve | repeat first | assumption | exact Zr _ | refine Zq ?_ Zp))) Ze ?_; rintro _ h7 H7 ⟨⟨v7, b7, rfl, hp7⟩, rfl⟩ hle7) | (show G _ (.ops .seq _ (⟨some _, .call { callee := .value (.func 93), args := _, argTypes := _ }, _, _, _, none⟩ :: _) :: _) _ _ _; refine G.call callEnd rfl rfl (wire_end0 _ _ _ _ _ (hp7.mono (by solve | repeat first | assumption | exact Zr _ | refine Zq ?_ Zp))) Ze ?_; rintro _ h6 H6 ⟨rfl, rfl⟩ hle6) | (refine G.atCode ?_; first | refine G.seq ?_ | refine G.region ?_ | refine G.block ?_ | refine G.ret ?_ | (refine G.cond rfl ?_ ?_ <;> intro hc <;> (try simp only [tests, reduceCtorEq] at hc) <;> (try exact Zf))) | refine G.endOps ?_ | refine G.endBlk ?_ | (refine G.atBin ?_; first | (refine G.atEql ?_; first | refine G.op rfl rfl ?_)) | refine G.op rfl rfl ?_ | (refine G.atLoad ?_; first | refine G.loadOwn1 rfl (tyy rfl) rfl rfl Za rfl rfl ?_) | (refine G.atFld ?_; first | refine G.fieldAddr rfl (tyy rfl) rfl rfl ?_) | (refine G.atSto ?_; refine G.storeOwn rfl rfl (tyy rfl) Za rfl rfl rfl rfl ?_) | (refine G.atBox ?_; refine G.box rfl rfl rfl ?_; intro _) | (refine G.atBld ?_; refine G.build (tyy rfl) rfl rfl rfl ?_))
  all_goals first | (exfalso; omega) | skip
  all_goals exact G.done1 rfl rfl [msB gm _ _ _ _ _ _ _] Zu (OpR.ofB (m' := { zM with id := id, op := 24, code := nmV 10 0 2147483647 (some n.kids), matched := txV (nmS 10 0 2147483647 (some n.kids)), text := txV (nxt 4 (nmS 10 0 2147483647 (some n.kids))), oid := (nxN 138 (nxt 4 (nxt 4 (nmS 10 0 2147483647 (some n.kids))))).data, has := myB 139 (myS 138 (nxt 4 (nxt 4 (nmS 10 0 2147483647 (some n.kids))))), value := (nxN 139 (myS 138 (nxt 4 (nxt 4 (nmS 10 0 2147483647 (some n.kids)))))).data }) _ rfl (zV rfl rfl rfl rfl rfl))
set_option maxRecDepth 8000 in
set_option maxHeartbeats 4000000 in
theorem wire_opRes (op : Int) (hop : op = 1 \/ op = 5 \/ op = 7 \/ op = 9 \/ op = 11 \/ op = 13 \/ op = 15) : OpSpec op := by
  intro gm id n hwt w hwf r h hn
  obtain ⟨kv, rfl, hkv⟩ := hn.ks
  obtain ⟨A, c, rfl, _, hm⟩ := hkv.form
  have hd := psW_data 10 (some n.kids)
  have hW := psW_some hwt
  have e : opR { zM with id := id, op := op } n = if endP (nxt 4 (nxt 4 (nmS 10 0 2147483647 (some n.kids)))) = true then some { zM with id := id, op := op, code := nmV 10 0 2147483647 (some n.kids), matched := txV (nmS 10 0 2147483647 (some n.kids)), text := txV (nxt 4 (nmS 10 0 2147483647 (some n.kids))) } else none := by
    rcases hop with rfl | rfl | rfl | rfl | rfl | rfl | rfl <;> rfl
  rw [e]
  clear e
  have hN := fun g v b => wire_number g 10 0 2147483647 Zi Zi (some n.kids) v b
  have hT := fun g v b => wire_text g (nmS 10 0 2147483647 (some n.kids)) v b
  have hT2 := fun g v b => wire_text g (nxt 4 (nmS 10 0 2147483647 (some n.kids))) v b
  refine Spec.enter Tryd.func62 rfl rfl ?_; intro w0
  repeat' (first | (show G _ (.ops .seq _ (⟨some _, .call { callee := .value (.func 61), args := _, argTypes := _ }, _, _, _, none⟩ :: _) :: _) _ _ _; refine G.call callNumberP rfl rfl (hN _ _ false _ ⟨rfl, hkv.mono (by solve | repeat first | assumption | exact Zr _ | refine Zq ?_ Zp)⟩ (by omega)) Ze ?_; rintro _ h2 H2 ⟨⟨v2, b2, rfl, hp2⟩, rfl⟩ hle2) | (show G _ (.ops .seq _ (⟨some _, .call { callee := .value (.func 91), args := _, argTypes := _ }, _, _, _, none⟩ :: _) :: _) _ _ _; refine G.call callTextW rfl rfl (hT _ _ _ _ (hp2.mono (by solve | repeat first | assumption | exact Zr _ | refine Zq ?_ Zp))) Ze ?_; rintro _ h3 H3 ⟨⟨v3, b3, rfl, hp3⟩, rfl⟩ hle3) | (show G _ (.ops .seq _ (⟨some _, .call { callee := .value (.func 91), args := _, argTypes := _ }, _, _, _, none⟩ :: _) :: _) _ _ _; refine G.call callTextW rfl rfl (hT2 _ _ _ _ (hp3.mono (by solve | repeat first | assumption | exact Zr _ | refine Zq ?_ Zp))) Ze ?_; rintro _ h4 H4 ⟨⟨v4, b4, rfl, hp4⟩, rfl⟩ hle4) | (show G _ (.ops .seq _ (⟨some _, .call { callee := .value (.func 93), args := _, argTypes := _ }, _, _, _, none⟩ :: _) :: _) _ _ _; refine G.call callEnd rfl rfl (wire_end0 _ _ _ _ _ (hp4.mono (by solve | repeat first | assumption | exact Zr _ | refine Zq ?_ Zp))) Ze ?_; rintro _ h6 H6 ⟨rfl, rfl⟩ hle6) | (refine G.atCode ?_; first | refine G.seq ?_ | refine G.region ?_ | refine G.block ?_ | refine G.skip ?_ | refine G.ret ?_ | (refine G.cond rfl ?_ ?_ <;> intro hc <;> (try simp only [tests, reduceCtorEq] at hc) <;> (try exact Zf))) | refine G.endOps ?_ | refine G.endBlk ?_ | (refine G.atBin ?_; first | (refine G.atEql ?_; first | refine G.op rfl rfl ?_)) | refine G.op rfl rfl ?_ | (refine G.atLoad ?_; first | refine G.loadOwn1 rfl (tyy rfl) rfl rfl Za rfl rfl ?_) | (refine G.atFld ?_; first | refine G.fieldAddr rfl (tyy rfl) rfl rfl ?_) | (refine G.atSto ?_; refine G.storeOwn rfl rfl (tyy rfl) Za rfl rfl rfl rfl ?_) | (refine G.atBox ?_; refine G.box rfl rfl rfl ?_; intro _) | (refine G.atBld ?_; refine G.build (tyy rfl) rfl rfl rfl ?_))
  all_goals first | (exfalso; omega) | skip
  all_goals exact G.done1 rfl rfl [msB gm _ _ _ _ _ _ _] Zu (OpR.ofB (m' := { zM with id := id, op := op, code := nmV 10 0 2147483647 (some n.kids), matched := txV (nmS 10 0 2147483647 (some n.kids)), text := txV (nxt 4 (nmS 10 0 2147483647 (some n.kids))) }) _ rfl (zV rfl rfl rfl rfl rfl))
end Go.Proofs.YtibkffoeioidlaaDoor
