/- slices.Sort of texts, strings.Join with a text between, as contracts of the light walk; rows that are only read, cut short. -/
import Derived.Test.YtibkffoeioidlaaDoorAcJ
import Derived.Test.YtibkffoeioidlaaDoorLtP
import Derived.Test.YtibkffoeioidlaaDoorTy
import Derived.Test.YtibkffoeioidlaaDoorLtA
import Derived.Test.YtibkffoeioidlaaDoorProg
import Derived.Ground.NamesProg
import Derived.Shelf.Sort.Plain
import Derived.Shelf.Strings.OnBuilder
import Derived.Shelf.Slices.In.SortNone
import Derived.Test.YtibkffoeioidlaaDoorWrTie
import Derived.Test.YtibkffoeioidlaaDoorWrX
import Derived.Test.YtibkffoeioidlaaDoorWrB
import Derived.Test.YtibkffoeioidlaaDoorFeed
import Derived.Test.YtibkffoeioidlaaDoorWrS
import Derived.Test.YtibkffoeioidlaaDoorTlvT
import Derived.Test.YtibkffoeioidlaaDoorWrL
import Derived.Test.YtibkffoeioidlaaDoorWrO
import Derived.Test.YtibkffoeioidlaaDoorAllM
namespace Go.Proofs.YtibkffoeioidlaaDoor
set_option linter.all false
set_option maxRecDepth 4000
open Go.RowKit

theorem St.grow {c : Ctx} {h : Heap} {H : List Chunk} {w w' : World} (s : St c h H w) {os : Array Obj} (hh : w'.heap = w.heap ++ os) (ho : w'.os = w.os) (ht : w'.tape = w.tape) (hp : w'.output = w.output) : St c h H w' := by
  have hk : ∀ b, b < w.heap.size → w'.heap[b]? = w.heap[b]? := fun b hb => by rw [hh, Array.getElem?_append_left hb]
  refine ⟨ho.trans s.os, ht.trans s.tape, hp.trans s.output, by rw [hh, Array.size_append]; have := s.size; omega, fun b hb hK => ?_, s.mono, fun b o hb => ?_, fun x hx => ?_, s.nodup, s.sep, s.ksub, s.isub⟩
  · rw [hk b (Nat.lt_of_lt_of_le hb s.size)]; exact s.fr b hb hK
  · rw [hk b (lt_of_get (s.imm b o hb))]; exact s.imm b o hb
  · exact Chunk.holds_congr (fun g hg => hk g (Chunk.holds_lt (s.own x hx) g hg)) (s.own x hx)
theorem St.below {h : Heap} {H : List Chunk} {w w' : World} (s : StI h H w) (b : Below w.heap.size w w') : St ⟨w, keys H, h⟩ h H w' := by
  have hk : ∀ x ∈ H, ∀ g, x.key = some g → w'.heap[g]? = w.heap[g]? := fun x hx g hg => b.block g (Chunk.holds_lt (s.own x hx) g hg)
  exact ⟨b.os, b.tape, b.output, b.size, fun q hq _ => b.block q hq, Heap.le_refl h, fun q o ho => by
      have h1 := s.imm q o ho
      rw [b.block q (lt_of_get h1)]; exact h1, fun x hx => Chunk.holds_congr (hk x hx) (s.own x hx), s.nodup, s.sep, fun g hg => .inl hg, fun q o ho => .inl ⟨o, ho⟩⟩
end Go.Proofs.YtibkffoeioidlaaDoor
namespace Go.Proofs.YtibkffoeioidlaaDoor
set_option linter.all false
set_option maxRecDepth 4000
open Go.RowKit
theorem G.blkRow {E : Env} {ks : List It} {f : Fr} {h : Heap} {H Hr : List Chunk} {g n : Nat} {cs : List Value} {e : TypeId} (sz : Nat) (rows : List (List Value)) (t : Take (.blk g cs e) H Hr) (hr : rows.flatten = cs) (hw : Rowed sz rows) (hn : n = rows.length) (hm : n ≤ maxLen)
    (next : G E ks f h (.row (.slice (some ⟨g, 0, none⟩) n n) e sz rows :: Hr)) : G E ks f h H :=
  ⟨fun ac w hac hw' => next.run ac w hac (hw'.swapRow t hr hw hn hm)⟩
end Go.Proofs.YtibkffoeioidlaaDoor
namespace Go.Proofs.YtibkffoeioidlaaDoor
set_option linter.all false
set_option maxRecDepth 4000
open Go.RowKit

def MsU (h : Heap) (m : Ms) (u : Value) : Prop := ∃ pv kv nv av mv cv, u = .agg (msR m pv kv nv av mv cv).toArray ∧ MsV h m pv kv nv av mv cv
theorem MsU.mk_ {h : Heap} {m : Ms} {pv kv nv av mv cv : Value} (hV : MsV h m pv kv nv av mv cv) : MsU h m (.agg (msR m pv kv nv av mv cv).toArray) := ⟨pv, kv, nv, av, mv, cv, rfl, hV⟩
end Go.Proofs.YtibkffoeioidlaaDoor
namespace Go.Proofs.YtibkffoeioidlaaDoor
set_option linter.all false
set_option maxRecDepth 4000
open Go.RowKit

def Msg (w : List UInt8) : Prop := 0 < w.length ∧ ∀ t, cutM (w ++ t) = ((w.length : Int), 0)
theorem flatten_cons (w : List UInt8) (ws : List (List UInt8)) : (w :: ws).flatten = w ++ ws.flatten := rfl
end Go.Proofs.YtibkffoeioidlaaDoor
namespace Go.Proofs.YtibkffoeioidlaaDoor
set_option linter.all false
set_option maxRecDepth 4000
open Go.RowKit

theorem RdR.ok_inv {m : Ms} {u : Value} {h' : Heap} (h : RdR (.ok m) u h') : ∃ pv kv nv av mv cv, u = .tuple #[.agg (msR m pv kv nv av mv cv).toArray, .int .i64 0] ∧ MsV h' m pv kv nv av mv cv := by
  obtain ⟨m', pv, kv, nv, av, mv, cv, e, rfl, hV, ⟨rfl, h⟩ | ⟨_, h, _⟩⟩ := h
  · injection h with h
    subst h
    exact ⟨_, _, _, _, _, _, rfl, hV⟩
  · cases h
theorem RdR.err_inv {x : Int} {u : Value} {h' : Heap} (h : RdR (.error x) u h') : x ≠ 0 ∧ ∃ pv kv nv av mv cv, u = .tuple #[.agg (msR zM pv kv nv av mv cv).toArray, .int .i64 x] ∧ MsV h' zM pv kv nv av mv cv := by
  obtain ⟨m', pv, kv, nv, av, mv, cv, e, rfl, hV, ⟨rfl, h⟩ | ⟨he, h, rfl⟩⟩ := h
  · cases h
  · injection h with h
    subst h
    exact ⟨he, _, _, _, _, _, _, rfl, hV⟩
def awN : Ms := { zM with id := 1, op := 0, ver := 3 }
theorem aw2 : writeM awN = ([48, 12, 2, 1, 1, 96, 7, 2, 1, 3, 4, 0, 128, 0], 0) := by kernel_rfl
theorem awN_I : MsI awN := by
  constructor <;> first | (simp only [inR, awN, zM]; omega) | (intro x hx; cases hx)
end Go.Proofs.YtibkffoeioidlaaDoor
namespace Go.Proofs.YtibkffoeioidlaaDoor
set_option linter.all false
set_option maxRecDepth 4000
open Go.RowKit

theorem callCnNew : Callable Tryd.prog 14 := ⟨_, Tryd.func14, by kernel_rfl, rfl⟩
theorem callCnClosed : Callable Tryd.prog 17 := ⟨_, Tryd.func17, by kernel_rfl, rfl⟩
theorem callCnFeed : Callable Tryd.prog 15 := ⟨_, Tryd.func15, by kernel_rfl, rfl⟩
theorem callRequest : Callable Tryd.prog 35 := ⟨_, Tryd.func35, by kernel_rfl, rfl⟩
def reqM (op : Int) : Bool := decide (op = 0 ∨ op = 2 ∨ op = 3 ∨ op = 6 ∨ op = 8 ∨ op = 10 ∨ op = 12 ∨ op = 14 ∨ op = 16 ∨ op = 23)
structure Cn where
  out : List Ms
  bad : Bool
  closed : Bool
  rest : Bs
  err : Int
def cnOne (s : Bs) : Except Bool Ms := match readM s with
  | .error _ => .error true
  | .ok m => if m.id = 0 ∨ reqM m.op = false then .error true else if m.op = 2 then .error false else .ok m
def connM : Nat → Bs → Cn
  | 0, s => ⟨[], false, false, s, 0⟩
  | f + 1, s =>
    if (cutM s).2 ≠ 0 then ⟨[], true, true, [], (cutM s).2⟩ else
    if (cutM s).1 = 0 then ⟨[], false, false, s, 0⟩ else
    match cnOne (s.take (cutM s).1.toNat) with
    | .error b => ⟨[], b, true, s.drop (cutM s).1.toNat, 0⟩
    | .ok m => { connM f (s.drop (cutM s).1.toNat) with out := m :: (connM f (s.drop (cutM s).1.toNat)).out }
def connS (s : Bs) : Cn := connM (s.length + 1) s
theorem connM_fuel : ∀ (f g : Nat) (s : Bs), s.length < f → s.length < g → connM f s = connM g s
  | 0, _, s, hf, _ => by omega
  | f + 1, 0, s, _, hg => by omega
  | f + 1, g + 1, s, hf, hg => by
    have hr := cutM_range s
    rw [connM, connM]
    by_cases h1 : (cutM s).2 ≠ 0
    · rw [if_pos h1, if_pos h1]
    · rw [if_neg h1, if_neg h1]
      by_cases h2 : (cutM s).1 = 0
      · rw [if_pos h2, if_pos h2]
      · rw [if_neg h2, if_neg h2]
        rw [connM_fuel f g (s.drop (cutM s).1.toNat) (by rw [List.length_drop]; omega) (by rw [List.length_drop]; omega)]
theorem connS_err {s : Bs} (h : (cutM s).2 ≠ 0) : connS s = ⟨[], true, true, [], (cutM s).2⟩ := by
  unfold connS
  rw [connM, if_pos h]
theorem connS_none {s : Bs} (h : (cutM s).2 = 0) (h0 : (cutM s).1 = 0) : connS s = ⟨[], false, false, s, 0⟩ := by
  unfold connS
  rw [connM, if_neg (by omega), if_pos h0]
theorem connS_stop {s : Bs} (h : (cutM s).2 = 0) (h0 : (cutM s).1 ≠ 0) {b : Bool} (ho : cnOne (s.take (cutM s).1.toNat) = .error b) : connS s = ⟨[], b, true, s.drop (cutM s).1.toNat, 0⟩ := by
  unfold connS
  rw [connM, if_neg (by omega), if_neg h0, ho]
theorem connS_msg {s : Bs} (h : (cutM s).2 = 0) (h0 : (cutM s).1 ≠ 0) {m : Ms} (ho : cnOne (s.take (cutM s).1.toNat) = .ok m) : connS s = { connS (s.drop (cutM s).1.toNat) with out := m :: (connS (s.drop (cutM s).1.toNat)).out } := by
  have hr := cutM_range s
  have hf : connM s.length (s.drop (cutM s).1.toNat) = connS (s.drop (cutM s).1.toNat) := connM_fuel _ _ _ (by rw [List.length_drop]; omega) (by omega)
  rw [← hf]
  conv => lhs; unfold connS
  rw [connM, if_neg (by omega), if_neg h0, ho]
-- WALKS
abbrev CnH (gc gb : Nat) (wv : Value) (s : Bs) (e : Int) (closed : Bool) : List Chunk := [.blk gc [wv, .pointer (some ⟨gb, 0, none⟩), .bool closed] 79, .blk gb [str s, .int .i64 e] 125]
theorem conn_New (h : Heap) : Spec Tryd.prog 14 [] h [] (fun u _ H' => ∃ gc gb, u = .pointer (some ⟨gc, 0, none⟩) ∧ H' = CnH gc gb (.slice none 0 0) [] 0 false) := by
  refine Spec.enter Tryd.func14 rfl rfl ?_; intro w0
  repeat' (first | (show G _ (.ops .seq _ (⟨some _, .call { callee := .value (.func 29), args := _, argTypes := _ }, _, _, _, none⟩ :: _) :: _) _ _ _; refine G.call callNew rfl rfl (feed_New _) (by solve | (repeat (first | apply Takes.nil | apply Take.hd | apply Take.tl | apply Takes.cons))) ?_; rintro _ h1 H1 ⟨g, rfl, rfl⟩ hle) | (refine G.atCode ?_; first | refine G.seq ?_ | refine G.region ?_ | refine G.ret ?_) | refine G.endOps ?_ | refine G.op rfl rfl ?_ | (refine G.atBox ?_; refine G.box rfl rfl rfl ?_; intro _) | (refine G.atBld ?_; refine G.build (tyy rfl) rfl rfl rfl ?_))
  all_goals exact G.done1 rfl rfl _ (by solve | (apply Takes.sub; (repeat (first | apply Takes.nil | apply Take.hd | apply Take.tl | apply Takes.cons)))) ⟨_, _, rfl, rfl⟩
theorem conn_Closed (gc : Nat) (wv pv : Value) (b : Bool) (h : Heap) : Spec Tryd.prog 17 [.pointer (some ⟨gc, 0, none⟩)] h [.blk gc [wv, pv, .bool b] 79] (fun u _ H' => u = .bool b ∧ H' = [.blk gc [wv, pv, .bool b] 79]) := by
  refine Spec.enter Tryd.func17 rfl rfl ?_; intro w0
  repeat' (first | (refine G.atCode ?_; first | refine G.seq ?_ | refine G.region ?_ | refine G.ret ?_) | refine G.endOps ?_ | (refine G.atGd ?_; first | refine G.guardYes rfl rfl ?_) | (refine G.atBin ?_; first | (refine G.atEql ?_; first | refine G.eqPtr rfl rfl (tyy rfl) rfl ?_)) | refine G.op rfl rfl ?_ | (refine G.atLoad ?_; first | refine G.loadOwn1 rfl (tyy rfl) rfl rfl (by solve | (repeat (first | apply Take.hd | apply Take.tl))) rfl rfl ?_) | (refine G.atFld ?_; first | refine G.fieldAddr rfl (tyy rfl) rfl rfl ?_))
  all_goals first | (exfalso; simp_all; done) | exact G.done1 rfl rfl _ (by solve | (apply Takes.sub; (repeat (first | apply Takes.nil | apply Take.hd | apply Take.tl | apply Takes.cons)))) ⟨rfl, rfl⟩
theorem conn_Request (op : Int) (h : Heap) : Spec Tryd.prog 35 [.int .i64 op] h [] (fun u _ H' => u = .bool (reqM op) ∧ H' = []) := by
  refine Spec.enter Tryd.func35 rfl rfl ?_; intro w0
  repeat' (first | (refine G.atCode ?_; first | refine G.seq ?_ | refine G.region ?_ | refine G.block ?_ | refine G.skip ?_ | refine G.ret ?_ | (refine G.cond rfl ?_ ?_ <;> intro hc <;> (try simp only [tests, reduceCtorEq] at hc) <;> (try (exfalso; first | omega | exact absurd hc (by with_reducible assumption) | exact absurd (by with_reducible assumption) hc | exact Bool.noConfusion hc | exact hc | exact hc trivial | fail)))) | refine G.endOps ?_ | refine G.endBlk ?_ | (refine G.atBin ?_; first | (refine G.atEql ?_; first | refine G.op rfl rfl ?_)) | refine G.op rfl rfl ?_)
  all_goals first | (exfalso; omega) | exact G.done1 rfl rfl [] (SubH.nil _) ⟨congrArg Value.bool (decide_eq_true (by omega)).symm, rfl⟩ | exact G.done1 rfl rfl [] (SubH.nil _) ⟨congrArg Value.bool (decide_eq_false (by omega)).symm, rfl⟩
end Go.Proofs.YtibkffoeioidlaaDoor
namespace Go.Proofs.YtibkffoeioidlaaDoor
set_option linter.all false
set_option maxRecDepth 4000
open Go.RowKit

theorem cut_take {s t : Bs} {n : Int} (h : cutM s = (n, 0)) (hn : 0 < n) : (s ++ t).take n.toNat = s.take n.toNat ∧ (s ++ t).drop n.toNat = s.drop n.toNat ++ t := by
  have hr := cutM_range s
  rw [h] at hr
  have hl : n.toNat ≤ s.length := by have := hr.2.1; simp only at this; omega
  exact ⟨List.take_append_of_le_length hl, List.drop_append_of_le_length hl⟩
theorem connS_app : ∀ (n : Nat) (s t : Bs), s.length ≤ n →
    ((connS s).closed = true → (connS (s ++ t)).out = (connS s).out ∧ (connS (s ++ t)).bad = (connS s).bad ∧ (connS (s ++ t)).closed = true) ∧
    ((connS s).closed = false → connS (s ++ t) = { connS ((connS s).rest ++ t) with out := (connS s).out ++ (connS ((connS s).rest ++ t)).out } ∧ (connS s).bad = false ∧ (connS s).err = 0 ∧ (connS s).rest.length ≤ s.length)
  | n, s, t, hn => by
    have hr := cutM_range s
    by_cases he : (cutM s).2 ≠ 0
    · have e1 := connS_err he
      have e2 := cutM_app_err (s := s) (t := t) (n := (cutM s).1) (e := (cutM s).2) rfl he
      have e3 := connS_err (s := s ++ t) (by rw [e2]; exact he)
      rw [e1, e3]
      exact ⟨fun _ => ⟨rfl, rfl, rfl⟩, fun h => by cases h⟩
    have he0 : (cutM s).2 = 0 := by omega
    by_cases h0 : (cutM s).1 = 0
    · rw [connS_none he0 h0]
      refine ⟨fun h => (Bool.false_ne_true h).elim, fun _ => ⟨?_, rfl, rfl, Nat.le_refl _⟩⟩
      simp only [List.nil_append]
    have hn0 : 0 < (cutM s).1 := by omega
    have hcm : cutM s = ((cutM s).1, 0) := by rw [← he0]
    have ha := cutM_app_msg (s := s) (t := t) hcm hn0
    obtain ⟨ht, hd⟩ := cut_take (t := t) hcm hn0
    have hdl : (s.drop (cutM s).1.toNat).length < s.length := by rw [List.length_drop]; omega
    cases ho : cnOne (s.take (cutM s).1.toNat) with
    | error b =>
      have e3 := connS_stop (s := s ++ t) (b := b) (by rw [ha]) (by rw [ha]; exact h0) (by rw [ha]; simp only; rw [ht, ho])
      rw [connS_stop he0 h0 ho, e3]
      exact ⟨fun _ => ⟨rfl, rfl, rfl⟩, fun h => by cases h⟩
    | ok m =>
      have e3 := connS_msg (s := s ++ t) (m := m) (by rw [ha]) (by rw [ha]; exact h0) (by rw [ha]; simp only; rw [ht, ho])
      rw [ha] at e3
      simp only at e3
      rw [hd] at e3
      match n, hn with
      | 0, hn => omega
      | n + 1, hn =>
        obtain ⟨i1, i2⟩ := connS_app n (s.drop (cutM s).1.toNat) t (by omega)
        rw [connS_msg he0 h0 ho, e3]
        refine ⟨fun hc => ?_, fun hc => ?_⟩
        · obtain ⟨j1, j2, j3⟩ := i1 hc
          exact ⟨by simp only [j1], j2, j3⟩
        · obtain ⟨j1, j2, j3, j4⟩ := i2 hc
          refine ⟨?_, j2, j3, ?_⟩
          · rw [j1]; simp only [List.cons_append]
          · simp only; omega
theorem connS_len : ∀ (n : Nat) (s : Bs), s.length ≤ n → (connS s).out.length ≤ s.length ∧ (connS s).rest.length ≤ s.length
  | n, s, hn => by
    have hr := cutM_range s
    by_cases he : (cutM s).2 ≠ 0
    · rw [connS_err he]; exact ⟨Nat.zero_le _, Nat.zero_le _⟩
    have he0 : (cutM s).2 = 0 := by omega
    by_cases h0 : (cutM s).1 = 0
    · rw [connS_none he0 h0]; exact ⟨Nat.zero_le _, Nat.le_refl _⟩
    have hdl : (s.drop (cutM s).1.toNat).length < s.length := by rw [List.length_drop]; omega
    cases ho : cnOne (s.take (cutM s).1.toNat) with
    | error b => rw [connS_stop he0 h0 ho]; exact ⟨Nat.zero_le _, by simp only; omega⟩
    | ok m =>
      rw [connS_msg he0 h0 ho]
      match n, hn with
      | 0, hn => omega
      | n + 1, hn =>
        have := connS_len n (s.drop (cutM s).1.toNat) (by omega)
        exact ⟨by simp only [List.length_cons]; omega, by simp only; omega⟩
def CnI (F : Bs) (out : List Ms) (bad cl : Bool) (w : Bs) (e : Int) : Prop := out = (connS F).out ∧ bad = (connS F).bad ∧ cl = (connS F).closed ∧ (cl = false → w = (connS F).rest ∧ e = 0 ∧ w.length ≤ F.length)
theorem CnI.start : CnI [] [] false false [] 0 := by
  have h : connS [] = ⟨[], false, false, [], 0⟩ := connS_none rfl rfl
  rw [CnI, h]
  exact ⟨rfl, rfl, rfl, fun _ => ⟨rfl, rfl, Nat.le_refl _⟩⟩
theorem CnI.closed {F x : Bs} {out : List Ms} {bad : Bool} {w : Bs} {e : Int} (h : CnI F out bad true w e) : CnI (F ++ x) (out ++ []) (bad || false) true w e := by
  obtain ⟨h1, h2, h3, _⟩ := h
  obtain ⟨i1, i2, i3⟩ := (connS_app F.length F x (Nat.le_refl _)).1 h3.symm
  exact ⟨by rw [List.append_nil, i1, h1], by rw [Bool.or_false, i2, h2], i3.symm, fun h => by cases h⟩
theorem CnI.feed {F x : Bs} {out : List Ms} {bad : Bool} {w : Bs} {e : Int} (h : CnI F out bad false w e) : CnI (F ++ x) (out ++ (connS (w ++ x)).out) (bad || (connS (w ++ x)).bad) (connS (w ++ x)).closed (connS (w ++ x)).rest (connS (w ++ x)).err := by
  obtain ⟨h1, h2, h3, h4⟩ := h
  obtain ⟨rfl, rfl, h5⟩ := h4 rfl
  obtain ⟨i1, i2, _, i4⟩ := (connS_app F.length F x (Nat.le_refl _)).2 h3.symm
  subst h1 h2
  rw [CnI, i1]
  refine ⟨rfl, by simp only; rw [i2, Bool.false_or], rfl, fun hc => ⟨rfl, ?_, ?_⟩⟩
  · exact ((connS_app _ _ [] (Nat.le_refl _)).2 hc).2.2.1
  · have := ((connS_app _ _ [] (Nat.le_refl _)).2 hc).2.2.2
    rw [List.length_append] at this ⊢
    omega
end Go.Proofs.YtibkffoeioidlaaDoor
