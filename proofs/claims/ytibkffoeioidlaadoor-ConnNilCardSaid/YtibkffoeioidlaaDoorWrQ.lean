/- Messages: what was read can be written again, and plays its part whole. -/
import Derived.Test.YtibkffoeioidlaaDoorWrD
import Derived.Test.YtibkffoeioidlaaDoorWrH
import Derived.Test.YtibkffoeioidlaaDoorTlvW
import Derived.Test.YtibkffoeioidlaaDoorWrI
import Derived.Test.YtibkffoeioidlaaDoorWrTie
namespace Go.Proofs.YtibkffoeioidlaaDoor
set_option linter.all false
set_option maxRecDepth 4000
open Go.RowKit

structure RdOk (id op : Int) (n : Nd) (m : Ms) : Prop where
  hid : m.id = id
  hop : m.op = op
  hctls : m.ctls = []
  hok : okM m = true
  hbare : bareM m = m
  hfl : op = 3 → WfN (flN m.fl) 62
theorem who_put {a : Nd} (h : (putM 1 a).2 = 0) : who (putM 1 a).1 = (a, 0) := by
  have e := par_put h []
  rw [List.append_nil] at e
  unfold who
  rw [e]
  simp
theorem write_ok {m : Ms} (h : (writeM m).2 = 0) : inM m.id 0 2147483647 = true ∧ tagM m.op ≠ 0 ∧ okM m = true ∧ (putM 1 (nodeM m)).2 = 0 ∧ (writeM m).1 = (putM 1 (nodeM m)).1 := by
  unfold writeM at h ⊢
  split at h
  · cases h
  rename_i h1
  rw [if_neg h1]
  split at h
  · cases h
  rename_i h2
  rw [if_neg h2]
  split at h
  · cases h
  rename_i h3
  rw [if_neg h3]
  exact ⟨by simpa using h1, h2, by simpa using h3, h, rfl⟩
theorem write_read {m : Ms} (h : (writeM m).2 = 0) : readM (writeM m).1 = .ok (bareM m) := by
  obtain ⟨h1, h2, h3, h4, h5⟩ := write_ok h
  rw [h5]
  unfold readM
  rw [who_put h4]
  rw [if_pos rfl]
  exact rd_node h1 h2 h3
end Go.Proofs.YtibkffoeioidlaaDoor
namespace Go.Proofs.YtibkffoeioidlaaDoor
set_option linter.all false
set_option maxRecDepth 4000
open Go.RowKit

def lfC (t : Int) (d : Bs) : List Value := [.int .i64 t, str d, .slice none 0 0]
theorem lf_C (h : Heap) (t : Int) (d : Bs) : NodeC h (lfN t d) (lfC t d) := NodeC.mk_ (HSl.nil h 3) (by simp only [KidsC])
def txtsC (l : List Bs) : List (List Value) := l.map (lfC 4)
theorem txtsC_len (l : List Bs) : (txtsC l).length = l.length := by simp [txtsC]
theorem txts_C (h : Heap) : ∀ l : List Bs, KidsC h (txtsN l) (txtsC l)
  | [] => by simp [txtsN, txtsC, KidsC]
  | a :: l => by
    have ih := txts_C h l
    unfold txtsN txtsC at *
    simp only [List.map_cons, KidsC]
    exact ⟨_, _, rfl, lf_C h 4 a, ih⟩
end Go.Proofs.YtibkffoeioidlaaDoor
namespace Go.Proofs.YtibkffoeioidlaaDoor
set_option linter.all false
set_option maxRecDepth 4000
open Go.RowKit

def AsR (gc W : Nat) (o : Option Nat) (nd : Nd) (u : Value) (h' : Heap) (H' : List Chunk) : Prop := ∃ (t : Int) (d : Bs) (A : Option Addr) (m c n' : Nat) (b : Bool) (nd' : Nd),
  u = .tuple #[.agg #[.int .i64 t, str d, .slice A m c], .bool b] ∧ H' = [.blk gc [.int .i64 n'] 3] ∧ nd'.wt ≤ 4 * W + 10 ∧ NodeC h' nd' [.int .i64 t, str d, .slice A m c] ∧ ((b = true ∧ o = some n' ∧ nd' = nd) ∨ (b = false ∧ o = none))
theorem AsR.no {gc W : Nat} {o : Option Nat} {nd : Nd} {h' : Heap} {n' : Nat} (ho : o = none) : AsR gc W o nd (.tuple #[.agg #[.int .i64 0, str [], .slice none 0 0], .bool false]) h' [.blk gc [.int .i64 n'] 3] :=
  ⟨0, [], none, 0, 0, n', false, zN, rfl, rfl, by simp only [zN, Nd.wt, wts, List.length_nil]; omega, zN_C _, .inr ⟨rfl, ho⟩⟩
theorem AsR.ok {gc W : Nat} {o : Option Nat} {nd : Nd} {h' : Heap} {t : Int} {d : Bs} {A : Option Addr} {m c n' : Nat} (ho : o = some n') (hw : nd.wt ≤ 4 * W + 10) (hn : NodeC h' nd [.int .i64 t, str d, .slice A m c]) : AsR gc W o nd (.tuple #[.agg #[.int .i64 t, str d, .slice A m c], .bool true]) h' [.blk gc [.int .i64 n'] 3] :=
  ⟨t, d, A, m, c, n', true, nd, rfl, rfl, hw, hn, .inl ⟨rfl, ho, rfl⟩⟩
theorem AsR.ofB {gc W : Nat} {o : Option Nat} {nd nd' : Nd} {h' : Heap} {t : Int} {d : Bs} {A : Option Addr} {m c n' : Nat} (P : Bool) (ho : o = if P = true then some n' else none) (hw : nd'.wt ≤ 4 * W + 10) (hn : NodeC h' nd' [.int .i64 t, str d, .slice A m c]) (he : P = true → nd' = nd) : AsR gc W o nd (.tuple #[.agg #[.int .i64 t, str d, .slice A m c], .bool P]) h' [.blk gc [.int .i64 n'] 3] := by
  cases P with
  | true => obtain rfl := he rfl; exact AsR.ok (by rw [ho, if_pos rfl]) hw hn
  | false => exact ⟨t, d, A, m, c, n', false, nd', rfl, rfl, hw, hn, .inr ⟨rfl, by rw [ho, if_neg Bool.false_ne_true]⟩⟩
end Go.Proofs.YtibkffoeioidlaaDoor
