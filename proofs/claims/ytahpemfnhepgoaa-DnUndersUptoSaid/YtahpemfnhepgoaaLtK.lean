/- Rules of the light walk: wraps, remainders, an element of an own row in any order. -/
import Derived.Test.YtahpemfnhepgoaaLtJ
namespace Go.Proofs.Ytahpemfnhepgoaa
set_option linter.all false
set_option maxRecDepth 4000
open Go.RowKit

theorem wrap_inR (k : IntKind) (n : Int) : inR k (k.wrap n) := by
  cases k <;> simp only [inR, IntKind.wrap, IntKind.bits, IntKind.signed] <;> simp <;> omega

section
variable {E : Env} {k : List It} {f : Fr} {h : Heap} {H Hr : List Chunk} {st : Md} [hmd : OkMd st h H] {all : Array Oper} {rest : List Oper} {d : Nat} {ty : TypeId} {pos : String} {aft : Array Edge}

theorem G.convW {s t : TypeId} {x : Operand} {kd kd' : IntKind} {a : Int} {sz by_ : Nat} {z : Value} {ks : IntKind} {ss sb : Nat} {sv : Value} (hx : ev f x = some (.int kd a)) (hs : Ty E.P s (.int ks) ss sb sv) (ht : Ty E.P t (.int kd') sz by_ z) (hd : Nat.blt d E.n = true)
    (g : inR kd' (kd'.wrap a) -> G E (.ops st all rest :: k) ((d, .int kd' (kd'.wrap a)) :: f) h H) :
    G E (.ops st all (⟨some d, .convert s t x, ty, pos, aft, none⟩ :: rest) :: k) f h H := by
  refine G.opVal hd (fun _ a w ha _ => ?_) (g (wrap_inR _ _))
  have hu := hs.fits
  have := ht.fits
  simp only [TD.fits] at this hu
  simp [execOp, ev_eq ha hx, convert, underlying, hu, this, Conv.intToInt]

theorem G.rem {t t' : TypeId} {x y : Operand} {kd kd' : IntKind} {a b : Int} (hx : ev f x = some (.int kd a)) (hy : ev f y = some (.int kd' b)) (hk : sameKind kd kd' = true) (hd : Nat.blt d E.n = true) (hb : 0 <= a /\ 0 < b)
    (g : 0 <= a % b -> a % b < b -> a % b <= a -> G E (.ops st all rest :: k) ((d, .int kd (a % b)) :: f) h H) :
    G E (.ops st all (⟨some d, .binOp .rem t x y t', ty, pos, aft, none⟩ :: rest) :: k) f h H := by
  have := sameKind_eq hk
  subst this
  have hb0 : ¬ b = 0 := by omega
  have hle : a % b <= a := by
    rcases Int.lt_or_le a b with h1 | h1
    . rw [Int.emod_eq_of_lt hb.1 h1]; exact Int.le_refl _
    . have := Int.emod_lt_of_pos a hb.2; omega
  refine G.opVal hd (fun _ ac w ha _ => ?_) (g (Int.emod_nonneg _ hb0) (Int.emod_lt_of_pos _ hb.2) hle)
  simp only [execOp, ev_eq ha hx, ev_eq ha hy, eqGuard, binOp, Op.intDiv, if_neg hb0, Int.tmod_eq_emod_of_nonneg hb.1]
  simp

theorem G.quo {t t' : TypeId} {x y : Operand} {kd kd' : IntKind} {a b : Int} (hx : ev f x = some (.int kd a)) (hy : ev f y = some (.int kd' b)) (hk : sameKind kd kd' = true) (hd : Nat.blt d E.n = true) (hb : 0 <= a /\ 0 < b) (hin : inR kd (a / b))
    (g : G E (.ops st all rest :: k) ((d, .int kd (a / b)) :: f) h H) :
    G E (.ops st all (⟨some d, .binOp .quo t x y t', ty, pos, aft, none⟩ :: rest) :: k) f h H := by
  have := sameKind_eq hk
  subst this
  have hb0 : ¬ b = 0 := by omega
  refine G.opVal hd (fun _ ac w ha _ => ?_) g
  simp only [execOp, ev_eq ha hx, ev_eq ha hy, eqGuard, binOp, Op.intDiv, if_neg hb0, Int.tdiv_eq_ediv_of_nonneg hb.1, wrap_in hin]
  simp

theorem G.idxRow' {t e : TypeId} {x y : Operand} {td : TD} {kd : IntKind} {i : Int} {m sz by_ sz1 by1 : Nat} {z z1 v : Value} {rows : List (List Value)} (hx : ev f x = some v) (hy : ev f y = some (.int kd i)) (ht : Ty E.P t (.slice e) sz1 by1 z1)
    (he : Ty E.P e td sz by_ z) (hH : Take (.row v e sz rows) H Hr) (hm : i.toNat = m) (hd : Nat.blt d E.n = true) (hb : 0 <= i /\ i < rows.length)
    (g : ∀ p, Elem v sz m p -> G E (.ops st all rest :: k) ((d, .pointer (some p)) :: f) h H) :
    G E (.ops st all (⟨some d, .indexAddr t x y, ty, pos, aft, none⟩ :: rest) :: k) f h H := by
  subst hm
  have hne : rows ≠ [] := by intro e; subst e; simp at hb; omega
  by_cases hv : ∃ b n c, v = .slice (some ⟨b, 0, none⟩) n c
  . obtain ⟨b, n, c, rfl⟩ := hv
    refine G.opVal hd (fun _ a w ha hw => ?_) (g ⟨b, i.toNat * sz, none⟩ ⟨b, n, c, rfl, rfl⟩)
    obtain ⟨A, cap, h1, _, _⟩ := row_form (hw.own _ hH.mem)
    injection h1 with e1 e2 e3
    subst e2
    have := run_indexAt ht he (ad := ⟨b, 0, none⟩) (len := rows.length) (c := c) (kd := kd) hb w
    rw [Addr.add_lit, Nat.zero_add] at this
    simp [execOp, ev_eq ha hx, ev_eq ha hy, this]
  . refine ⟨fun a w ha hw => ?_⟩
    obtain ⟨A, cap, rfl, _, h2⟩ := row_form (hw.own _ hH.mem)
    obtain ⟨b, rfl⟩ := h2 hne
    exact absurd ⟨b, _, _, rfl⟩ hv
end
end Go.Proofs.Ytahpemfnhepgoaa
