/- Rules of the light walk: elements of arrays that are several cells; fields of values. -/
import Derived.Test.YtibkffoeioidlaaDoorDnA
import Derived.Maps.RangeRun
import Derived.Lib.OthersKept
import Derived.Lib.DecodeN
import Derived.Test.YtibkffoeioidlaaDoorLtP
import Derived.Test.YtibkffoeioidlaaDoorWrC
import Derived.Test.YtibkffoeioidlaaDoorLtJ
import Derived.Test.YtibkffoeioidlaaDoorLtM
import Derived.ProofKit
import Derived.OpenShut
import Derived.SliceStrings
import Derived.ShutString
import Derived.Test.YtibkffoeioidlaaDoorRows
import Derived.LaidMore
import Derived.Stop.Joined
namespace Go.Proofs.YtibkffoeioidlaaDoor
set_option linter.all false
set_option maxRecDepth 4000
open Go.RowKit
section
variable {E : Env} {k : List It} {f : Fr} {h : Heap} {H : List Chunk} {st : Md} [hmd : OkMd st h H] {all : Array Oper} {rest : List Oper} {d : Nat} {ty : TypeId} {pos : String} {aft : Array Edge}
theorem part_agg {P : Program} {t : TypeId} {td : TD} {sz by_ : Nat} {z : Value} (ht : Ty P t td sz by_ z) (ha : td.isAgg = true) (hk : td.known = true) {cs r : List Value} {i : Nat} (hr : partL cs i sz = some r) (w : World) : (part t cs.toArray i).run P w = .ok (.agg r.toArray) w := by
  obtain ⟨h1, h2⟩ := partL_eq _ _ _ _ hr
  have e : (cs.drop i).take sz = r := by
    apply List.ext_getElem?
    intro j
    by_cases hj : j < sz
    . rw [List.getElem?_take_of_lt hj, List.getElem?_drop, h2 j hj]
    . rw [List.getElem?_eq_none (by rw [List.length_take]; omega), List.getElem?_eq_none (by rw [h1]; omega)]
  simp [part, run_isAgg' ht hk, ha, run_sizeOf' ht, e]
theorem G.idxArrA {t e : TypeId} {x y : Operand} {td : TD} {kd : IntKind} {i : Int} {m n sz by_ sz1 by1 : Nat} {z z1 : Value} {cs r : List Value} (hx : ev f x = some (.agg cs.toArray)) (hy : ev f y = some (.int kd i)) (ht : Ty E.P t (.array n e) sz1 by1 z1)
    (he : Ty E.P e td sz by_ z) (ha : td.isAgg = true) (hk : td.known = true) (hm : i.toNat = m) (hc : partL cs (m * sz) sz = some r) (hd : Nat.blt d E.n = true) (hb : 0 <= i /\ i < n)
    (g : G E (.ops st all rest :: k) ((d, .agg r.toArray) :: f) h H) :
    G E (.ops st all (⟨some d, .index t x y, ty, pos, aft, none⟩ :: rest) :: k) f h H := by
  subst hm
  refine G.opVal hd (fun _ a w hfa _ => ?_) g
  have := ht.fits
  simp only [TD.fits] at this
  simp only [execOp, Instr.index, asIntOf, ev_eq hfa hx, ev_eq hfa hy, Sem.run_bind, Sem.run_pure, Result.andThen_ok, underlying, run_program, this, if_pos hb, run_sizeOf' he, part_agg he ha hk hc]
theorem G.fieldV {s : TypeId} {x : Operand} {fs : List (Nat × Nat × Nat)} {sz by_ i ft off fby : Nat} {z fz v : Value} {td : TD} {cs : List Value} (hx : ev f x = some (.agg cs.toArray)) (ht : Ty E.P s (.struct fs) sz by_ z)
    (hi : nthF fs i = some (ft, off, 1)) (hf : Ty E.P ft td 1 fby fz) (ha : td.isAgg = false) (hk : td.known = true) (hv : nthV cs off = some v) (hd : Nat.blt d E.n = true) (n : G E (.ops st all rest :: k) ((d, v) :: f) h H) :
    G E (.ops st all (⟨some d, .field s x i, ty, pos, aft, none⟩ :: rest) :: k) f h H := by
  refine G.opVal hd (fun _ a w hfa hw => ?_) n
  have := ht.fits
  simp only [TD.fits] at this
  obtain ⟨fields, h1, h2⟩ := structOf_some this
  rw [nthF_eq] at hi
  rw [nthV_eq] at hv
  have h3 := congrArg (fun l => l[i]?) h2
  simp only [List.getElem?_map, Array.getElem?_toList, hi, Option.map_some] at h3
  cases hfl : fields[i]? with
  | none => rw [hfl] at h3; cases h3
  | some fl =>
    rw [hfl] at h3
    simp only [Option.map_some, Option.some.injEq, Prod.mk.injEq] at h3
    obtain ⟨e1, e2, e3⟩ := h3
    subst e1
    subst e2
    have hp := part_flat hf ha hk hv w
    simp [execOp, Instr.field, asAgg, ev_eq hfa hx, underlying, h1, hfl, hp]
end
theorem G.anyKeep {E : Env} {k : List It} {f : Fr} {h : Heap} {H : List Chunk} (sl : Nat -> Bool) {l0 : List Oper} {h0 : Heap} {H0 : List Chunk} {done done' idx : List Nat} {o : Oper} {l : List Oper} (hx : autoGo sl l0 0 done = some (o :: l, idx, done'))
    (hs : (Region.noSelect l0.toArray && takeOkC l0.toArray (l0.length - done.length) done idx) = true) (hh : Heap.le h0 h) (hs1 : SubH H0 H)
    (g : G E (.ops (.held h H0) l0.toArray (o :: l) :: .back h H :: .any h H0 l0.toArray done' :: k) f h H0) : G E (.any h0 H0 l0.toArray done :: k) f h H := by
  obtain ⟨p1, p2⟩ := autoGo_spec (l0 := l0) l0 0 done _ _ _ hx (fun j => by simp)
  exact G.anyTake p1 p2 hs hh (SubH.rfl_ _) hs1 g
structure Hold (p : Prop) : Prop where
  out : p
end Go.Proofs.YtibkffoeioidlaaDoor
namespace Go.Proofs.YtibkffoeioidlaaDoor
set_option linter.all false
set_option maxRecDepth 4000
open Go.RowKit
def formsC : List Value := formsL.flatMap fun p => [.int .i64 p.1, .int .i64 p.2]
def TabW (h : Heap) : Prop := HCells h ⟨0, 0, none⟩ formsC
theorem TabW.mono {h h' : Heap} (t : TabW h) (hl : Heap.le h h') : TabW h' := HCells.mono t hl
theorem formsC_len : formsC.length = 38 := rfl
theorem forms_at : ∀ i : Nat, i < 19 -> ∃ a b : Int, formsL[i]? = some (a, b) /\ partL formsC (i * 2) 2 = some [.int .i64 a, .int .i64 b]
  | 0, _ | 1, _ | 2, _ | 3, _ | 4, _ | 5, _ | 6, _ | 7, _ | 8, _ | 9, _ | 10, _ | 11, _ | 12, _ | 13, _ | 14, _ | 15, _ | 16, _ | 17, _ | 18, _ => ⟨_, _, rfl, rfl⟩
  | n + 19, h => by omega
theorem callTagR : Callable Tryd.prog 50 := ⟨_, Tryd.func50, by kernel_rfl, rfl⟩
set_option maxHeartbeats 1000000 in
theorem ref11_Tag (op : Int) (h : Heap) : Spec Tryd.prog 50 [.int .i64 op] h [] (fun u _ H' => u = .int .i64 (tagM op) /\ H' = []) := by
  generalize hR : tagM op = R
  unfold tagM at hR
  refine Spec.enter Tryd.func50 rfl rfl ?_; intro w0
  repeat' (first | (refine G.atCode ?_; first | refine G.seq ?_ | refine G.region ?_ | refine G.skip ?_ | refine G.ret ?_ | (refine G.cond rfl ?_ ?_ <;> intro hc <;> (try simp only [tests, reduceCtorEq] at hc) <;> (try (exfalso; first | omega | exact Zx hc | exact Zy hc | exact Zb hc | exact hc | exact hc trivial)))) | refine G.endOps ?_ | (refine G.atGd ?_; first | refine G.guardYes rfl rfl ?_ | refine G.guardNoS rfl rfl rfl ?_ | (refine G.guardS rfl rfl rfl ?_ ?_ <;> intro hc <;> (try simp only [tests, reduceCtorEq] at hc) <;> (try (exfalso; first | omega | exact Zx hc | exact Zy hc | exact Zb hc | exact hc | exact hc trivial)))) | (refine G.atBin ?_; first | (refine G.atAdd ?_; first | refine G.arith rfl rfl rfl rfl rfl (by simp only [inR]; omega) ?_) | (refine G.atEql ?_; first | refine G.op rfl rfl ?_) | refine G.op rfl rfl ?_) | refine G.op rfl rfl ?_)
  all_goals first
    | (exfalso; omega)
    | (refine G.done1 rfl rfl [] (SubH.nil _) ⟨?_, rfl⟩; rw [<- hR]; exact congrArg (Value.int .i64) (by (repeat (first | rw [if_pos (by omega)] | rw [if_neg (by omega)] | rw [if_pos (by assumption)] | rw [if_neg (by assumption)] | rw [if_neg (by simp only [*]; decide)] | rw [if_neg (show ¬ (true = false) from fun e => by cases e)])) <;> rfl))
    | (refine G.done1 rfl rfl [] (SubH.nil _) ⟨?_, rfl⟩; rw [<- hR]; exact congrArg (Value.int .i64) (by (repeat (first | rw [if_pos (by omega)] | rw [if_neg (by omega)] | rw [if_pos (by assumption)] | rw [if_neg (by assumption)] | rw [if_neg (by simp only [*]; decide)] | rw [if_neg (show ¬ (true = false) from fun e => by cases e)]))))
end Go.Proofs.YtibkffoeioidlaaDoor
namespace Go.Proofs.YtibkffoeioidlaaDoor
set_option linter.all false
set_option maxRecDepth 4000
open Go.RowKit

def heapOf (w : World) : Heap := fun b => w.heap[b]?
theorem Spec.law {P : Program} {g : FuncId} {args : List Value} {w : World} {v : Value} (s : Spec P g args (heapOf w) [] (fun u _ _ => u = v)) :
    Calls P g args.toArray w fun e w' => e = .returned v /\ Below w.heap.size w w' := by
  refine (s.run w ⟨fun b o hb => hb, fun x hx => absurd hx (by simp), by simp [keys], fun g hg => by simp [keys] at hg⟩).mono ?_
  rintro e w' ⟨u, h', H', rfl, rfl, st⟩
  exact ⟨rfl, st.os, st.tape, st.output, st.size, fun b hb => st.fr b hb (by simp [keys])⟩
end Go.Proofs.YtibkffoeioidlaaDoor
namespace Go.Proofs.YtibkffoeioidlaaDoor
set_option linter.all false
set_option maxRecDepth 4000
open Go.RowKit

theorem string_eq (s : ByteArray) : Value.string s = str s.data.toList := by cases s; simp [str]
end Go.Proofs.YtibkffoeioidlaaDoor
namespace Go.Proofs.YtibkffoeioidlaaDoor
set_option linter.all false
set_option maxRecDepth 4000
open Go.ChangeShapes Go.WideShapes Go.ChangeAt Go.RowKit

abbrev laidL : List (String × DataW Unit) := [("castellan/wire.forms", Rows.laid_castellan_wire_forms)]
theorem gForms : Tryd.prog.globalNamed "castellan/wire.forms" = some 0 := by kernel_rfl
theorem tForms : (Tryd.prog.globals[0]?).map (·.type) = some 119 := by kernel_rfl
theorem cForm : Tryd.prog.cellsOf 118 = 2 := by kernel_rfl
theorem cIntW : Tryd.prog.cellsOf 3 = 1 := by kernel_rfl
theorem formsData : (Rows.laid_castellan_wire_forms : DataW Unit) = .agg (formsL.map fun p => .agg [.lit (.int .i64 p.1), .lit (.int .i64 p.2)]) := by kernel_rfl
theorem form_cells {W : World} {fuel : Nat} {cs : List Value} {a b : Int} {p : List MemPlace} (hd : DataW.trod (fun _ => ()) Tryd.prog W 0 (fun _ => true) false fuel 118 cs = some (.agg [.lit (.int .i64 a), .lit (.int .i64 b)], p)) : cs = [.int .i64 a, .int .i64 b] := by
  obtain ⟨xs, n, hn, hx, hl, hlen, hfl⟩ := DataW.trod_struct Tryd.underlying118 hd
  rw [cForm] at hl
  match cs, hl, xs, hlen with
  | [c0, c1], _, [y0, y1], _ =>
    have e0 : DataW.trod (fun _ => ()) Tryd.prog W 0 (fun _ => true) false n 3 ((List.drop 0 [c0, c1]).take (Tryd.prog.cellsOf 3)) = some y0 := hfl 0 _ rfl
    have e1 : DataW.trod (fun _ => ()) Tryd.prog W 0 (fun _ => true) false n 3 ((List.drop 1 [c0, c1]).take (Tryd.prog.cellsOf 3)) = some y1 := hfl 1 _ rfl
    rw [cIntW] at e0 e1
    simp only [List.drop_zero, List.take_succ_cons, List.take_zero, List.drop_succ_cons] at e0 e1
    obtain ⟨z0, h0, g0, _⟩ := DataW.trod_int Tryd.underlying3 e0
    obtain ⟨z1, h1, g1, _⟩ := DataW.trod_int Tryd.underlying3 e1
    injection h0 with h0
    injection h1 with h1
    subst h0; subst h1
    have ex : [y0.1, y1.1] = [DataW.lit (.int .i64 a), .lit (.int .i64 b)] := (DataW.agg.inj (Prod.mk.inj hx).1).symm
    rw [g0, g1] at ex
    injection ex with ex1 ex
    injection ex with ex2 _
    injection ex1 with ex1
    injection ex2 with ex2
    injection ex1 with _ ex1
    injection ex2 with _ ex2
    rw [ex1, ex2]
theorem tabs_of {W : World} (h : laidMetH Tryd.prog laidL W) : TabW (heapOf W) := by
  rw [MakeChecks.laidMetH_plain _ _ _ (by kernel_rfl)] at h
  obtain ⟨ps, ⟨g1, t1, cs1, f1, p1, q1, hg1, ht1, hv1, hd1, _, _⟩, _⟩ := h
  obtain rfl := Option.some.inj (gForms.symm.trans hg1)
  obtain rfl := Option.some.inj (tForms.symm.trans ht1)
  rw [formsData] at hd1
  obtain ⟨xs, m, _, ex, _, hl, hel⟩ := DataW.trod_array Tryd.underlying119 hd1
  have exs : (xs.map (·.1)) = formsL.map fun p => .agg [.lit (.int .i64 p.1), .lit (.int .i64 p.2)] := (DataW.agg.inj (Prod.mk.inj ex).1).symm
  have key : ∀ (i : Nat) (a b : Int), i < 19 -> formsL[i]? = some (a, b) -> (cs1.toList.drop (i * 2)).take 2 = [.int .i64 a, .int .i64 b] := by
    intro i a b hi hf
    have hE := hel i hi
    rw [cForm, List.getElem?_eq_getElem (by omega)] at hE
    have e4 : (xs.map (·.1))[i]? = some (.agg [.lit (.int .i64 a), .lit (.int .i64 b)]) := by rw [exs, List.getElem?_map, hf]; rfl
    rw [List.getElem?_map, List.getElem?_eq_getElem (by omega : i < xs.length), Option.map_some] at e4
    have e5 : xs[i].1 = .agg [.lit (.int .i64 a), .lit (.int .i64 b)] := Option.some.inj e4
    have e6 : xs[i] = (DataW.agg [.lit (.int .i64 a), .lit (.int .i64 b)], xs[i].2) := Prod.ext e5 rfl
    rw [e6] at hE
    exact form_cells hE
  have w1 := World.var?_cell hg1 hv1
  intro j u hj
  have hj38 : j < 38 := (List.getElem?_eq_some_iff.1 hj).1
  rw [Addr.add_lit, Nat.zero_add]
  show W.cell? _ = _
  rw [w1 j]
  obtain ⟨a, b, hf, hp⟩ := forms_at (j / 2) (by omega)
  obtain ⟨_, h2⟩ := partL_eq _ _ _ _ hp
  have hk := key (j / 2) a b (by omega) hf
  have hm := h2 (j % 2) (by omega)
  rw [show j / 2 * 2 + j % 2 = j by omega, hj] at hm
  have hc : ((cs1.toList.drop (j / 2 * 2)).take 2)[j % 2]? = some u := by rw [hk]; exact hm.symm
  rw [List.getElem?_take_of_lt (by omega), List.getElem?_drop, show j / 2 * 2 + j % 2 = j by omega] at hc
  simpa using hc
end Go.Proofs.YtibkffoeioidlaaDoor
