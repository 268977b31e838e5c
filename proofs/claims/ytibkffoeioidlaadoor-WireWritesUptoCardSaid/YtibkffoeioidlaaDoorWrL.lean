/- wire.filter: an element as a filter. -/
import Derived.Test.YtibkffoeioidlaaDoorWrG
import Derived.Test.YtibkffoeioidlaaDoorWrJ
import Derived.Test.YtibkffoeioidlaaDoorFlK
namespace Go.Proofs.YtibkffoeioidlaaDoor
set_option linter.all false
set_option maxRecDepth 4000
open Go.RowKit

theorem chkE_pc (ps : Pcs) : chkE (.mk 4 [97] [] ps []) = if pcsOk ps = true then 0 else 4 := by
  unfold chkE
  rw [chkM, if_neg (by omega), if_neg (by omega), if_neg (by omega), if_neg (by omega), if_neg (by decide)]
  cases pcsOk ps
  . rw [if_pos ⟨rfl, rfl⟩, if_neg (by simp)]
  . rw [if_neg (by simp), if_pos rfl]
def RfR (gc : Nat) (o : Option (Fl × Nat)) (u : Value) (h' : Heap) (H' : List Chunk) : Prop := ∃ (k : Int) (a v : Bs) (A : Option Addr) (m1 c : Nat) (B : Option Addr) (m2 d n' : Nat) (b : Bool),
  u = .tuple #[.agg #[.int .i64 k, str a, str v, .slice A m1 c, .slice B m2 d], .bool b] /\ H' = [.blk gc [.int .i64 n'] 3] ∧
  ((b = true /\ ∃ fl, o = some (fl, n') /\ FlC h' fl [.int .i64 k, str a, str v, .slice A m1 c, .slice B m2 d]) \/ (b = false /\ o = none))
theorem RfR.ok {gc : Nat} {o : Option (Fl × Nat)} {h' : Heap} {k : Int} {a v : Bs} {A : Option Addr} {m1 c : Nat} {B : Option Addr} {m2 d n' : Nat} {fl : Fl} (ho : o = some (fl, n')) (hf : FlC h' fl [.int .i64 k, str a, str v, .slice A m1 c, .slice B m2 d]) :
    RfR gc o (.tuple #[.agg #[.int .i64 k, str a, str v, .slice A m1 c, .slice B m2 d], .bool true]) h' [.blk gc [.int .i64 n'] 3] := ⟨k, a, v, A, m1, c, B, m2, d, n', true, rfl, rfl, .inl ⟨rfl, fl, ho, hf⟩⟩
theorem RfR.no {gc : Nat} {o : Option (Fl × Nat)} {h' : Heap} {k : Int} {a v : Bs} {A : Option Addr} {m1 c : Nat} {B : Option Addr} {m2 d n' : Nat} (ho : o = none) :
    RfR gc o (.tuple #[.agg #[.int .i64 k, str a, str v, .slice A m1 c, .slice B m2 d], .bool false]) h' [.blk gc [.int .i64 n'] 3] := ⟨k, a, v, A, m1, c, B, m2, d, n', false, rfl, rfl, .inr ⟨rfl, ho⟩⟩
theorem RfR.ofB {gc : Nat} {o : Option (Fl × Nat)} {h' : Heap} {k : Int} {a v : Bs} {A : Option Addr} {m1 c : Nat} {B : Option Addr} {m2 d n' : Nat} {fl : Fl} (P : Bool) (ho : o = if P = true then some (fl, n') else none) (hf : FlC h' fl [.int .i64 k, str a, str v, .slice A m1 c, .slice B m2 d]) :
    RfR gc o (.tuple #[.agg #[.int .i64 k, str a, str v, .slice A m1 c, .slice B m2 d], .bool P]) h' [.blk gc [.int .i64 n'] 3] := by
  cases P with
  | true => exact RfR.ok (by rw [ho, if_pos rfl]) hf
  | false => exact RfR.no (by rw [ho, if_neg Bool.false_ne_true])
def PsWf (s : PS) (w : Nat) : Prop := ∀ l, s = some l -> WfKs l w
theorem PsWf.nxt {s : PS} {w : Nat} (h : PsWf s w) (t : Int) : PsWf (nxt t s) w := by
  intro l hl
  rcases psW_cases t s with ⟨e, _⟩ | ⟨n, l', e0, e, _⟩
  . rw [e] at hl; cases hl
  . rw [e] at hl
    injection hl with hl
    subst hl
    have := h _ e0
    rw [WfKs] at this
    exact this.2
theorem PsWf.nxN {s : PS} {w : Nat} (h : PsWf s w) (t : Int) (hn : Go.Proofs.YtibkffoeioidlaaDoor.nxt t s ≠ none) : WfN (nxN t s) w := by
  rcases psW_cases t s with ⟨e, _⟩ | ⟨n, l', e0, e, e1, _⟩
  . exact absurd e hn
  . rw [e1]
    have := h _ e0
    rw [WfKs] at this
    exact this.1
theorem wi_some {t : Int} {s : PS} {l : List Nd} (h : wiS t s = some l) : l = (nxN t s).kids /\ nxt t s ≠ none := by
  unfold wiS at h
  split at h
  . rename_i hc
    injection h with h
    exact ⟨h.symm, fun e => by rw [e] at hc; cases hc⟩
  . cases h
theorem WfN.kids : ∀ {n : Nd} {w : Nat}, WfN n w -> WfKs n.kids (w - 1)
  | .mk t d ks, w, h => by rw [WfN] at h; exact h.2.2.2.2.2.2
theorem WfN.tag : ∀ {n : Nd} {w : Nat}, WfN n w -> 0 <= n.tag /\ n.tag <= 255
  | .mk t d ks, w, h => by rw [WfN] at h; exact ⟨h.2.1, h.2.2.1⟩
theorem PsWf.wi {s : PS} {w : Nat} (h : PsWf s w) (t : Int) : PsWf (wiS t s) (w - 1) := by
  intro l hl
  obtain ⟨rfl, hn⟩ := wi_some hl
  exact (h.nxN t hn).kids
end Go.Proofs.YtibkffoeioidlaaDoor
namespace Go.Proofs.YtibkffoeioidlaaDoor
set_option linter.all false
set_option maxRecDepth 4000
open Go.RowKit

abbrev nilV : Value := .slice none 0 0
abbrev msB (gm : Nat) (m : Ms) (pv kv nv av mv cv : Value) : Chunk := .blk gm (msR m pv kv nv av mv cv) 51
theorem MsV.forms {h : Heap} {m : Ms} {pv kv nv av mv cv : Value} (s : MsV h m pv kv nv av mv cv) : (∃ A n c, pv = .slice A n c) /\ (∃ A n c, kv = .slice A n c) /\ (∃ A n c, nv = .slice A n c) /\ (∃ A n c, av = .slice A n c) /\ (∃ A n c, mv = .slice A n c) /\ (∃ A n c, cv = .slice A n c) := by
  obtain ⟨k, a, v, ps, ks, A, c, B, d, rows, _, e, _⟩ := s.fl.box
  injection e with _ e
  injection e with _ e
  injection e with _ e
  injection e with e1 e
  injection e with e2 e
  obtain ⟨A3, c3, e3, _⟩ := s.names.form
  obtain ⟨A4, c4, e4, _⟩ := s.attrs.form
  obtain ⟨A5, c5, e5, _⟩ := s.mods.form
  obtain ⟨A6, c6, e6, _⟩ := s.ctls.form
  exact ⟨⟨_, _, _, e1⟩, ⟨_, _, _, e2⟩, ⟨_, _, _, e3⟩, ⟨_, _, _, e4⟩, ⟨_, _, _, e5⟩, ⟨_, _, _, e6⟩⟩
def OpR (gm : Nat) (o : Option Ms) (u : Value) (h' : Heap) (H' : List Chunk) : Prop := ∃ (m' : Ms) (pv kv nv av mv : Value) (b : Bool), u = .bool b /\ H' = [msB gm m' pv kv nv av mv nilV] ∧
  ((b = true /\ o = some m' /\ MsV h' m' pv kv nv av mv nilV) \/ (b = false /\ o = none))
theorem OpR.ofB {gm : Nat} {o : Option Ms} {h' : Heap} {m' : Ms} {pv kv nv av mv : Value} (P : Bool) (ho : o = if P = true then some m' else none) (hV : MsV h' m' pv kv nv av mv nilV) : OpR gm o (.bool P) h' [msB gm m' pv kv nv av mv nilV] := by
  refine ⟨m', pv, kv, nv, av, mv, P, rfl, rfl, ?_⟩
  cases P with
  | true => exact .inl ⟨rfl, by rw [ho, if_pos rfl], hV⟩
  | false => exact .inr ⟨rfl, by rw [ho, if_neg Bool.false_ne_true]⟩
theorem OpR.no {gm : Nat} {o : Option Ms} {h' : Heap} {m' : Ms} {pv kv nv av mv : Value} (ho : o = none) : OpR gm o (.bool false) h' [msB gm m' pv kv nv av mv nilV] := ⟨m', pv, kv, nv, av, mv, false, rfl, rfl, .inr ⟨rfl, ho⟩⟩
theorem PsWf.bd {s : PS} {w : Nat} (h : PsWf s w) (d : Bs) (lo hi : Int) : PsWf (bdS s d lo hi) w := by
  intro l hl
  unfold bdS at hl
  split at hl
  . exact h l hl
  . cases hl
theorem PsWf.nm {s : PS} {w : Nat} (h : PsWf s w) (t lo hi : Int) : PsWf (nmS t lo hi s) w := (h.nxt t).bd _ _ _
end Go.Proofs.YtibkffoeioidlaaDoor
namespace Go.Proofs.YtibkffoeioidlaaDoor
set_option linter.all false
set_option maxRecDepth 4000
open Go.RowKit

def LsI {α : Type} (f : Nd -> Option α) (q : α -> Bool) (S0 st : PS) (okb : Bool) (ys : List α) : Prop :=
  ys.length + st.meas <= S0.meas /\ ((okb = true /\ ∃ l i, S0 = some l /\ st = some (l.drop i) /\ i <= l.length /\ allO f (l.take i) = some ys /\ ys.all q = true) ∨
    ((okb = false \/ st = none) /\ ∀ l xs, S0 = some l -> allO f l = some xs -> xs.all q = false))
theorem allO_get {α : Type} {f : Nd -> Option α} : ∀ {l : List Nd} {xs : List α}, allO f l = some xs -> ∀ n ∈ l, ∃ x ∈ xs, f n = some x
  | [], _, _, n, hn => by simp at hn
  | k :: l, xs, h, n, hn => by
    rw [allO] at h
    split at h
    . rename_i a ys h1 h2
      injection h with h
      subst h
      rcases List.mem_cons.1 hn with rfl | hn
      . exact ⟨a, List.mem_cons_self .., h1⟩
      . obtain ⟨x, hx, e⟩ := allO_get h2 n hn
        exact ⟨x, List.mem_cons_of_mem _ hx, e⟩
    . cases h
theorem allO_snoc {α : Type} {f : Nd -> Option α} : ∀ {l : List Nd} {xs : List α} {n : Nd} {a : α}, allO f l = some xs -> f n = some a -> allO f (l ++ [n]) = some (xs ++ [a])
  | [], xs, n, a, h, hn => by
    rw [allO] at h
    injection h with h
    subst h
    rw [List.nil_append, allO, hn]; rfl
  | k :: l, xs, n, a, h, hn => by
    rw [allO] at h
    split at h
    . rename_i b ys h1 h2
      injection h with h
      subst h
      rw [List.cons_append, allO, h1, allO_snoc h2 hn]; rfl
    . cases h
theorem LsI.start {α : Type} (f : Nd -> Option α) (q : α -> Bool) (S0 : PS) : LsI f q S0 S0 true [] := by
  refine ⟨by simp, ?_⟩
  cases S0 with
  | none => exact .inr ⟨.inr rfl, fun l xs e => by cases e⟩
  | some l => exact .inl ⟨rfl, l, 0, rfl, rfl, Nat.zero_le _, rfl, rfl⟩
theorem LsI.step {α : Type} {f : Nd -> Option α} {q : α -> Bool} {S0 : PS} {n : Nd} {r : List Nd} {okb : Bool} {ys : List α} (h : LsI f q S0 (some (n :: r)) okb ys) (a : α) (fine : Bool) (t : Int)
    (hf : (f n = some a /\ fine = true /\ n.tag = t) \/ (f n = none /\ fine = false)) : LsI f q S0 (nxt t (some (n :: r))) (okb && (fine && q a)) (ys ++ [a]) := by
  obtain ⟨hm, h⟩ := h
  have hm2 := meas_nxt t n r
  refine ⟨by simp only [List.length_append, List.length_cons, List.length_nil]; omega, ?_⟩
  rcases h with ⟨rfl, l, i, rfl, e, hi, ha, hq⟩ | ⟨h1, h2⟩
  . injection e with e
    have hil : i < l.length := by
      rcases Nat.lt_or_ge i l.length with q | q
      . exact q
      . rw [List.drop_eq_nil_of_le q] at e; cases e
    rw [List.drop_eq_getElem_cons hil] at e
    injection e with e1 e2
    have hmem : n ∈ l := by rw [e1]; exact List.getElem_mem hil
    rcases hf with ⟨hf, rfl, ht⟩ | ⟨hf, rfl⟩
    . cases hqa : q a with
      | true =>
        refine .inl ⟨rfl, l, i + 1, rfl, by rw [nxt, if_pos ht, e2], by omega, ?_, ?_⟩
        . rw [take_get (List.getElem?_eq_getElem hil), ← e1]
          exact allO_snoc ha hf
        . rw [List.all_append, hq]; simp [hqa]
      | false =>
        refine .inr ⟨.inl rfl, fun l' xs el ex => ?_⟩
        injection el with el
        subst el
        obtain ⟨x, hx, ex2⟩ := allO_get ex n hmem
        rw [hf] at ex2
        injection ex2 with ex2
        subst ex2
        exact List.all_eq_false.2 ⟨a, hx, by rw [hqa]; simp⟩
    . refine .inr ⟨.inl rfl, fun l' xs el ex => ?_⟩
      injection el with el
      subst el
      obtain ⟨x, hx, ex2⟩ := allO_get ex n hmem
      rw [hf] at ex2
      cases ex2
  . have h1' : okb = false := by
      rcases h1 with h1 | h1
      . exact h1
      . cases h1
    subst h1'
    exact .inr ⟨.inl rfl, h2⟩
theorem LsI.fin {α : Type} {f : Nd -> Option α} {q : α -> Bool} {S0 st : PS} {okb : Bool} {ys : List α} (h : LsI f q S0 st okb ys) (he : st = none \/ st = some []) :
    (okb = true /\ st = some [] /\ ∃ l, S0 = some l /\ allO f l = some ys /\ ys.all q = true) \/ ((okb && endP st) = false /\ ∀ l xs, S0 = some l -> allO f l = some xs -> xs.all q = false) := by
  obtain ⟨_, ⟨rfl, l, i, rfl, e, hi, ha, hq⟩ | ⟨h1, h2⟩⟩ := h
  . rcases he with rfl | rfl
    . cases e
    . injection e with e
      have hil : l.length <= i := by
        rcases Nat.lt_or_ge i l.length with q | q
        . rw [List.drop_eq_getElem_cons q] at e; cases e
        . exact q
      obtain rfl : i = l.length := by omega
      rw [List.take_length] at ha
      exact .inl ⟨rfl, rfl, l, rfl, ha, hq⟩
  . refine .inr ⟨?_, h2⟩
    rcases h1 with rfl | rfl
    . rfl
    . rw [show endP none = false from rfl, Bool.and_false]
theorem callOperation : Callable Tryd.prog 62 := ⟨_, Tryd.func62, by kernel_rfl, rfl⟩
abbrev OpSpec (op : Int) : Prop := ∀ (gm : Nat) (id : Int) (n : Nd) (_ : n.wt <= 100000000) (w : Nat) (_ : WfN n w) (r : List Value) (h : Heap) (_ : NodeC h n r),
    Spec Tryd.prog 62 [.pointer (some ⟨gm, 0, none⟩), .agg r.toArray] h [msB gm { zM with id := id, op := op } nilV nilV nilV nilV nilV nilV] (fun u h' H' => OpR gm (opR { zM with id := id, op := op } n) u h' H')
theorem zV {m : Ms} {h : Heap} (e1 : m.fl = zF) (e2 : m.names = []) (e3 : m.attrs = []) (e4 : m.mods = []) (e5 : m.ctls = []) : MsV h m nilV nilV nilV nilV nilV nilV :=
  ⟨by rw [e1]; exact zF_C _, by rw [e2]; exact HSl.nil _ 1, by rw [e3]; exact SC.nil _ 2 _, by rw [e4]; exact SC.nil _ 3 _, by rw [e5]; exact HSl.nil _ 4⟩
set_option maxRecDepth 8000 in
set_option maxHeartbeats 4000000 in
theorem wire_op2 : OpSpec 2 := by
  intro gm id n hwt w hwf r h hn
  obtain ⟨kv, rfl, hkv⟩ := hn.ks
  obtain ⟨A, c, rfl, _, hm⟩ := hkv.form
  refine Spec.enter Tryd.func62 rfl rfl ?_; intro w0
  repeat' (first | (refine G.atCode ?_; first | refine G.seq ?_ | refine G.region ?_ | refine G.block ?_ | refine G.ret ?_ | (refine G.cond rfl ?_ ?_ <;> intro hc <;> (try simp only [tests, reduceCtorEq] at hc) <;> (try exact Zf))) | refine G.endOps ?_ | (refine G.atBin ?_; first | (refine G.atEql ?_; first | refine G.op rfl rfl ?_ | refine G.eqStr0 rfl rfl rfl ?_)) | refine G.op rfl rfl ?_ | (refine G.atLoad ?_; first | refine G.loadOwn1 rfl (tyy rfl) rfl rfl Za rfl rfl ?_) | (refine G.atFld ?_; first | refine G.fieldAddr rfl (tyy rfl) rfl rfl ?_) | (refine G.atBox ?_; refine G.box rfl rfl rfl ?_; intro _) | (refine G.atBld ?_; refine G.build (tyy rfl) rfl rfl rfl ?_))
  all_goals first | (exfalso; omega) | skip
  all_goals exact G.done1 rfl rfl [msB gm _ _ _ _ _ _ _] Zu (OpR.ofB (m' := { zM with id := id, op := 2 }) _ (by rw [show opR { zM with id := id, op := 2 } n = if n.data = [] then some { zM with id := id, op := 2 } else none from rfl]; simp only [decide_eq_true_eq, List.length_eq_zero_iff]) (zV rfl rfl rfl rfl rfl))
end Go.Proofs.YtibkffoeioidlaaDoor
namespace Go.Proofs.YtibkffoeioidlaaDoor
set_option linter.all false
set_option maxRecDepth 4000
open Go.RowKit

def qA (op : Int) (a : Atr) : Bool := decide (op = 4) || decide (0 < a.2.length)
theorem qA8 (nm : Bs) (vs : List Bs) : qA 8 (nm, vs) = decide ((vs.length : Int) > 0) := by
  unfold qA
  rw [show decide ((8 : Int) = 4) = false from rfl, Bool.false_or]
  exact decide_eq_decide.2 (by simp only; omega)
def mA (id op : Int) (n : Nd) (ys : List Atr) : Ms := { zM with id := id, op := op, dn := txV (some n.kids), attrs := ys }
end Go.Proofs.YtibkffoeioidlaaDoor
