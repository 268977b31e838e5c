/- Rules of the light walk: an own row that ends earlier. -/
import Derived.Test.YtcghcdnmpjhifaaDoorLtS
namespace Go.Proofs.YtcghcdnmpjhifaaDoor
set_option linter.all false
open Go.RowKit
section
variable {E : Env} {k : List It} {f : Fr} {h : Heap} {H Hr : List Chunk} {all : Array Oper} {rest : List Oper} {d : Nat} {ty : TypeId} {pos : String} {aft : Array Edge}
/-- A row's beginning, the row being given up. -/
theorem G.cutRow {t e : TypeId} {x y : Operand} {kd : IntKind} {b : Int} {b' : Nat} {td : TD} {sz by_ sz1 by1 : Nat} {z z1 v : Value} {rows : List (List Value)} (hx : ev f x = some v) (hy : ev f y = some (.int kd b))
    (ht : Ty E.P t (.slice e) sz1 by1 z1) (he : Ty E.P e td sz by_ z) (hH : Take (.row v e sz rows) H Hr) (hb' : b.toNat = b') (hb : 0 ≤ b ∧ b ≤ rows.length) (hd : Nat.blt d E.n = true)
    (n : ∀ v', G E (.ops .seq all rest :: k) ((d, v') :: f) h (.row v' e sz (rows.take b') :: Hr)) :
    G E (.ops .seq all (⟨some d, .slice t x none (some y) none, ty, pos, aft, none⟩ :: rest) :: k) f h H := by
  have hbl : b' ≤ rows.length := by omega
  refine ⟨fun a w ha hw => ?_⟩
  rcases (hw.own _ hH.mem).2 with ⟨rfl, h0⟩ | ⟨g, cap, cur, fz, rfl, _, _, hnc, _, _, _⟩
  · subst h0
    have : b' = 0 := by simpa using hbl
    subst this
    refine (G.slicePre (b' := 0) hx hy ht he hd hb' ⟨hb.1, by simpa using hb.2⟩ ?_).run a w ha hw
    have hn := n (.slice none 0 0)
    refine ⟨fun a w ha hw => hn.run a w ha (hw.sub ?_)⟩
    exact ⟨[], by simpa using hH.perm⟩
  · refine (G.slicePre (b' := b') hx hy ht he hd hb' ⟨hb.1, by omega⟩ ?_).run a w ha hw
    refine ⟨fun a w ha hw => (n _).run a w ha (hw.set (g := g) hH rfl rfl (row_cut (hw.own _ hH.mem) hbl) rfl rfl rfl rfl (fun _ _ => rfl))⟩
end
end Go.Proofs.YtcghcdnmpjhifaaDoor
