/- castellanref11.Filter: a filter's element. -/
import Derived.Test.YtibkffoeioidlaaDoorXaI
import Derived.Test.YtibkffoeioidlaaDoorFlO
namespace Go.Proofs.YtibkffoeioidlaaDoor
set_option linter.all false
set_option maxRecDepth 4000
open Go.RowKit

def F11R (o : Option Nat) (nd : Nd) (u : Value) (h' : Heap) : Prop := ∃ (t : Int) (d : Bs) (A : Option Addr) (m c n' : Nat) (b : Bool),
  u = .tuple #[.agg #[.int .i64 t, str d, .slice A m c], .int .i64 n', .bool b] ∧ ((b = true ∧ o = some n' ∧ NodeC h' nd [.int .i64 t, str d, .slice A m c]) ∨ (b = false ∧ o = none))
theorem F11R.no {o : Option Nat} {nd : Nd} {h' : Heap} {n' : Nat} (ho : o = none) {t : Int} {d : Bs} {A : Option Addr} {m c : Nat} : F11R o nd (.tuple #[.agg #[.int .i64 t, str d, .slice A m c], .int .i64 n', .bool false]) h' :=
  ⟨t, d, A, m, c, n', false, rfl, .inr ⟨rfl, ho⟩⟩
theorem F11R.ok {o : Option Nat} {nd : Nd} {h' : Heap} {t : Int} {d : Bs} {A : Option Addr} {m c n' : Nat} (ho : o = some n') (hn : NodeC h' nd [.int .i64 t, str d, .slice A m c]) : F11R o nd (.tuple #[.agg #[.int .i64 t, str d, .slice A m c], .int .i64 n', .bool true]) h' :=
  ⟨t, d, A, m, c, n', true, rfl, .inl ⟨rfl, ho, hn⟩⟩
theorem F11R.ofB {o : Option Nat} {nd nd' : Nd} {h' : Heap} {t : Int} {d : Bs} {A : Option Addr} {m c n' : Nat} (P : Bool) (ho : o = if P = true then some n' else none) (hn : NodeC h' nd' [.int .i64 t, str d, .slice A m c]) (he : P = true → nd' = nd) : F11R o nd (.tuple #[.agg #[.int .i64 t, str d, .slice A m c], .int .i64 n', .bool P]) h' := by
  cases P with
  | true => obtain rfl := he rfl; exact F11R.ok (by rw [ho, if_pos rfl]) hn
  | false => exact F11R.no (by rw [ho, if_neg Bool.false_ne_true])
end Go.Proofs.YtibkffoeioidlaaDoor
