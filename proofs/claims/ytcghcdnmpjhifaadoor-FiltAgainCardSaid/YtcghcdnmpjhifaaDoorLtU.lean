/- Rules of the light walk: arrays, as values and behind a place that is only read. -/
import Derived.Test.YtcghcdnmpjhifaaDoorLtT
namespace Go.Proofs.YtcghcdnmpjhifaaDoor
set_option linter.all false
open Go.RowKit
section
variable {E : Env} {k : List It} {f : Fr} {h : Heap} {H : List Chunk} {st : Md} [hmd : OkMd st h H] {all : Array Oper} {rest : List Oper} {d : Nat} {ty : TypeId} {pos : String} {aft : Array Edge}
theorem G.idxArr {t e : TypeId} {x y : Operand} {td : TD} {kd : IntKind} {i : Int} {m n by_ sz1 by1 : Nat} {z z1 v : Value} {cs : List Value} (hx : ev f x = some (.agg cs.toArray)) (hy : ev f y = some (.int kd i)) (ht : Ty E.P t (.array n e) sz1 by1 z1)
    (he : Ty E.P e td 1 by_ z) (ha : td.isAgg = false) (hk : td.known = true) (hm : i.toNat = m) (hc : nthV cs m = some v) (hd : Nat.blt d E.n = true) (hb : 0 ≤ i ∧ i < n)
    (g : G E (.ops st all rest :: k) ((d, v) :: f) h H) :
    G E (.ops st all (⟨some d, .index t x y, ty, pos, aft, none⟩ :: rest) :: k) f h H := by
  subst hm
  refine G.opVal hd (fun _ a w hfa _ => ?_) g
  have := ht.fits
  simp only [TD.fits] at this
  rw [nthV_eq] at hc
  simp only [execOp, Instr.index, asIntOf, ev_eq hfa hx, ev_eq hfa hy, Sem.run_bind, Sem.run_pure, Result.andThen_ok, underlying, run_program, this, if_pos hb, run_sizeOf' he, Nat.mul_one, part_flat he ha hk hc]
theorem G.idxArrP {t e : TypeId} {x y : Operand} {td : TD} {kd : IntKind} {i : Int} {m n sz by_ sz1 by1 : Nat} {z z1 : Value} {p : Addr} (hx : ev f x = some (.pointer (some p))) (hy : ev f y = some (.int kd i)) (ht : Ty E.P t (.array n e) sz1 by1 z1)
    (he : Ty E.P e td sz by_ z) (hm : i.toNat = m) (hd : Nat.blt d E.n = true) (hb : 0 ≤ i ∧ i < n)
    (g : G E (.ops st all rest :: k) ((d, .pointer (some (p.add (m * sz)))) :: f) h H) :
    G E (.ops st all (⟨some d, .indexAddr t x y, ty, pos, aft, none⟩ :: rest) :: k) f h H := by
  subst hm
  refine G.opVal hd (fun _ a w hfa _ => ?_) g
  have := ht.fits
  simp only [TD.fits] at this
  simp [execOp, Instr.indexAt, asIntOf, ev_eq hfa hx, ev_eq hfa hy, underlying, this, hb, run_sizeOf' he, Instr.sureAddr]
end
end Go.Proofs.YtcghcdnmpjhifaaDoor
