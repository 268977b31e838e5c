/- conn: what a connection makes of bytes (plain); New, Closed, Close, Request, Feed. -/
import Derived.Test.YtibkffoeioidlaaDoorWrO
import Derived.Test.YtibkffoeioidlaaDoorAllM
import Derived.Test.YtibkffoeioidlaaDoorWrZ
namespace Go.Proofs.YtibkffoeioidlaaDoor
set_option linter.all false
set_option maxRecDepth 4000
open Go.RowKit

theorem callCnNew : Callable Tryd.prog 14 := ⟨_, Tryd.func14, by kernel_rfl, rfl⟩
theorem callCnClosed : Callable Tryd.prog 17 := ⟨_, Tryd.func17, by kernel_rfl, rfl⟩
theorem callCnClose : Callable Tryd.prog 22 := ⟨_, Tryd.func22, by kernel_rfl, rfl⟩
theorem callCnFeed : Callable Tryd.prog 15 := ⟨_, Tryd.func15, by kernel_rfl, rfl⟩
theorem callRequest : Callable Tryd.prog 35 := ⟨_, Tryd.func35, by kernel_rfl, rfl⟩
def reqM (op : Int) : Bool := decide (op = 0 ∨ op = 2 ∨ op = 3 ∨ op = 6 ∨ op = 8 ∨ op = 10 ∨ op = 12 ∨ op = 14 ∨ op = 16 ∨ op = 23)
structure Cn where
  out : List Ms
  bad : Bool
  closed : Bool
  rest : Bs
  err : Int
def cnOne (s : Bs) : Except Bool Ms := match readM s with
  | .error _ => .error true
  | .ok m => if m.id = 0 ∨ reqM m.op = false then .error true else if m.op = 2 then .error false else .ok m
def connM : Nat → Bs → Cn
  | 0, s => ⟨[], false, false, s, 0⟩
  | f + 1, s =>
    if (cutM s).2 ≠ 0 then ⟨[], true, true, [], (cutM s).2⟩ else
    if (cutM s).1 = 0 then ⟨[], false, false, s, 0⟩ else
    match cnOne (s.take (cutM s).1.toNat) with
    | .error b => ⟨[], b, true, s.drop (cutM s).1.toNat, 0⟩
    | .ok m => { connM f (s.drop (cutM s).1.toNat) with out := m :: (connM f (s.drop (cutM s).1.toNat)).out }
def connS (s : Bs) : Cn := connM (s.length + 1) s
theorem connM_fuel : ∀ (f g : Nat) (s : Bs), s.length < f → s.length < g → connM f s = connM g s
  | 0, _, s, hf, _ => by omega
  | f + 1, 0, s, _, hg => by omega
  | f + 1, g + 1, s, hf, hg => by
    have hr := cutM_range s
    rw [connM, connM]
    by_cases h1 : (cutM s).2 ≠ 0
    · rw [if_pos h1, if_pos h1]
    · rw [if_neg h1, if_neg h1]
      by_cases h2 : (cutM s).1 = 0
      · rw [if_pos h2, if_pos h2]
      · rw [if_neg h2, if_neg h2]
        rw [connM_fuel f g (s.drop (cutM s).1.toNat) (by rw [List.length_drop]; omega) (by rw [List.length_drop]; omega)]
theorem connS_err {s : Bs} (h : (cutM s).2 ≠ 0) : connS s = ⟨[], true, true, [], (cutM s).2⟩ := by
  unfold connS
  rw [connM, if_pos h]
theorem connS_none {s : Bs} (h : (cutM s).2 = 0) (h0 : (cutM s).1 = 0) : connS s = ⟨[], false, false, s, 0⟩ := by
  unfold connS
  rw [connM, if_neg (by omega), if_pos h0]
theorem connS_stop {s : Bs} (h : (cutM s).2 = 0) (h0 : (cutM s).1 ≠ 0) {b : Bool} (ho : cnOne (s.take (cutM s).1.toNat) = .error b) : connS s = ⟨[], b, true, s.drop (cutM s).1.toNat, 0⟩ := by
  unfold connS
  rw [connM, if_neg (by omega), if_neg h0, ho]
theorem connS_msg {s : Bs} (h : (cutM s).2 = 0) (h0 : (cutM s).1 ≠ 0) {m : Ms} (ho : cnOne (s.take (cutM s).1.toNat) = .ok m) : connS s = { connS (s.drop (cutM s).1.toNat) with out := m :: (connS (s.drop (cutM s).1.toNat)).out } := by
  have hr := cutM_range s
  have hf : connM s.length (s.drop (cutM s).1.toNat) = connS (s.drop (cutM s).1.toNat) := connM_fuel _ _ _ (by rw [List.length_drop]; omega) (by omega)
  rw [← hf]
  conv => lhs; unfold connS
  rw [connM, if_neg (by omega), if_neg h0, ho]
-- WALKS
abbrev CnH (gc gb : Nat) (wv : Value) (s : Bs) (e : Int) (closed : Bool) : List Chunk := [.blk gc [wv, .pointer (some ⟨gb, 0, none⟩), .bool closed] 79, .blk gb [str s, .int .i64 e] 125]
theorem conn_New (h : Heap) : Spec Tryd.prog 14 [] h [] (fun u _ H' => ∃ gc gb, u = .pointer (some ⟨gc, 0, none⟩) ∧ H' = CnH gc gb (.slice none 0 0) [] 0 false) := by
  refine Spec.enter Tryd.func14 rfl rfl ?_; intro w0
  repeat' (first | (show G _ (.ops .seq _ (⟨some _, .call { callee := .value (.func 29), args := _, argTypes := _ }, _, _, _, none⟩ :: _) :: _) _ _ _; refine G.call callNew rfl rfl (feed_New _) (by solve | (repeat (first | apply Takes.nil | apply Take.hd | apply Take.tl | apply Takes.cons))) ?_; rintro _ h1 H1 ⟨g, rfl, rfl⟩ hle) | (refine G.atCode ?_; first | refine G.seq ?_ | refine G.region ?_ | refine G.ret ?_) | refine G.endOps ?_ | refine G.op rfl rfl ?_ | (refine G.atBox ?_; refine G.box rfl rfl rfl ?_; intro _) | (refine G.atBld ?_; refine G.build (tyy rfl) rfl rfl rfl ?_))
  all_goals exact G.done1 rfl rfl _ (by solve | (apply Takes.sub; (repeat (first | apply Takes.nil | apply Take.hd | apply Take.tl | apply Takes.cons)))) ⟨_, _, rfl, rfl⟩
theorem conn_Closed (gc : Nat) (wv pv : Value) (b : Bool) (h : Heap) : Spec Tryd.prog 17 [.pointer (some ⟨gc, 0, none⟩)] h [.blk gc [wv, pv, .bool b] 79] (fun u _ H' => u = .bool b ∧ H' = [.blk gc [wv, pv, .bool b] 79]) := by
  refine Spec.enter Tryd.func17 rfl rfl ?_; intro w0
  repeat' (first | (refine G.atCode ?_; first | refine G.seq ?_ | refine G.region ?_ | refine G.ret ?_) | refine G.endOps ?_ | (refine G.atGd ?_; first | refine G.guardYes rfl rfl ?_) | (refine G.atBin ?_; first | (refine G.atEql ?_; first | refine G.eqPtr rfl rfl (tyy rfl) rfl ?_)) | refine G.op rfl rfl ?_ | (refine G.atLoad ?_; first | refine G.loadOwn1 rfl (tyy rfl) rfl rfl (by solve | (repeat (first | apply Take.hd | apply Take.tl))) rfl rfl ?_) | (refine G.atFld ?_; first | refine G.fieldAddr rfl (tyy rfl) rfl rfl ?_))
  all_goals first | (exfalso; simp_all; done) | exact G.done1 rfl rfl _ (by solve | (apply Takes.sub; (repeat (first | apply Takes.nil | apply Take.hd | apply Take.tl | apply Takes.cons)))) ⟨rfl, rfl⟩
theorem conn_ClosedN (h : Heap) : Spec Tryd.prog 17 [.pointer none] h [] (fun u _ H' => u = .bool true ∧ H' = []) := by
  refine Spec.enter Tryd.func17 rfl rfl ?_; intro w0
  repeat' (first | (refine G.atCode ?_; first | refine G.seq ?_ | refine G.region ?_ | refine G.ret ?_) | refine G.endOps ?_ | (refine G.atGd ?_; first | refine G.guardNoS rfl rfl rfl ?_) | (refine G.atBin ?_; first | (refine G.atEql ?_; first | refine G.eqPtr rfl rfl (tyy rfl) rfl ?_)) | refine G.op rfl rfl ?_)
  all_goals first | (exfalso; simp_all; done) | exact G.done1 rfl rfl _ (SubH.nil _) ⟨rfl, rfl⟩
theorem conn_CloseN (h : Heap) : Spec Tryd.prog 22 [.pointer none] h [] (fun u _ H' => u = .tuple #[] ∧ H' = []) := by
  refine Spec.enter Tryd.func22 rfl rfl ?_; intro w0
  repeat' (first | (refine G.atCode ?_; first | refine G.seq ?_ | refine G.region ?_ | refine G.skip ?_ | (refine G.cond rfl ?_ ?_ <;> intro hc <;> (try simp only [tests, reduceCtorEq] at hc) <;> (try (exfalso; first | omega | exact absurd hc (by with_reducible assumption) | exact absurd (by with_reducible assumption) hc | exact Bool.noConfusion hc | exact hc | exact hc trivial | fail)))) | refine G.endOps ?_ | (refine G.atBin ?_; first | (refine G.atNeq ?_; first | refine G.nePtr rfl rfl (tyy rfl) rfl ?_)) | refine G.op rfl rfl ?_)
  all_goals first | (exfalso; simp_all; done) | exact G.done (rs := []) rfl .nil rfl _ (SubH.nil _) ⟨rfl, rfl⟩
theorem conn_Request (op : Int) (h : Heap) : Spec Tryd.prog 35 [.int .i64 op] h [] (fun u _ H' => u = .bool (reqM op) ∧ H' = []) := by
  refine Spec.enter Tryd.func35 rfl rfl ?_; intro w0
  repeat' (first | (refine G.atCode ?_; first | refine G.seq ?_ | refine G.region ?_ | refine G.block ?_ | refine G.skip ?_ | refine G.ret ?_ | (refine G.cond rfl ?_ ?_ <;> intro hc <;> (try simp only [tests, reduceCtorEq] at hc) <;> (try (exfalso; first | omega | exact absurd hc (by with_reducible assumption) | exact absurd (by with_reducible assumption) hc | exact Bool.noConfusion hc | exact hc | exact hc trivial | fail)))) | refine G.endOps ?_ | refine G.endBlk ?_ | (refine G.atBin ?_; first | (refine G.atEql ?_; first | refine G.op rfl rfl ?_)) | refine G.op rfl rfl ?_)
  all_goals first | (exfalso; omega) | exact G.done1 rfl rfl [] (SubH.nil _) ⟨congrArg Value.bool (decide_eq_true (by omega)).symm, rfl⟩ | exact G.done1 rfl rfl [] (SubH.nil _) ⟨congrArg Value.bool (decide_eq_false (by omega)).symm, rfl⟩
end Go.Proofs.YtibkffoeioidlaaDoor
