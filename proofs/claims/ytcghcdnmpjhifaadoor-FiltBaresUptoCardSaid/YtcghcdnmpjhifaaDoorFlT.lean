/- Filters: the listed tables' cells, out of what the rows list. -/
import Derived.Test.YtcghcdnmpjhifaaDoorRows
import Derived.Test.YtcghcdnmpjhifaaDoorFlI
import Derived.Test.YtcghcdnmpjhifaaDoorOpen
import Derived.ProofKit
import Derived.OpenShut
import Derived.LaidMore
import Derived.Stop.Joined
namespace Go.Proofs.YtcghcdnmpjhifaaDoor
set_option linter.all false
open Go.ChangeShapes Go.WideShapes Go.ChangeAt Go.RowKit

/-- What the rows list. -/
abbrev laidL : List (String × DataW Unit) := [("unicode/utf8.acceptRanges", Rows.laid_unicode_utf8_acceptRanges), ("castellan/filt.signs", Rows.laid_castellan_filt_signs), ("castellan/filt.kinds", Rows.laid_castellan_filt_kinds), ("unicode/utf8.first", Rows.laid_unicode_utf8_first)]
theorem strs_cells {W : World} {fuel t e : Nat} {cs : Array Value} {L : List (List UInt8)} {p : List MemPlace} (ht : Tryd.prog.underlying t = some (.array L.length e)) (he : Tryd.prog.underlying e = some .string) (hce : Tryd.prog.cellsOf e = 1)
    (hd : DataW.trod (fun _ => ()) Tryd.prog W 0 (fun _ => true) false fuel t cs.toList = some (.agg (L.map fun s => .lit (.string s)), p)) : ∀ (i : Nat) (s : List UInt8), L[i]? = some s → cs[i]? = some (str s) := by
  obtain ⟨xs, m, _, ex, _, hl, hel⟩ := DataW.trod_array ht hd
  intro i s hi
  have hil := (List.getElem?_eq_some_iff.1 hi).1
  have hE := hel i hil
  rw [hce, Nat.mul_one, List.getElem?_eq_getElem (by omega)] at hE
  obtain ⟨z, e1, e2, _⟩ := DataW.trod_string he hE
  have e3 : (xs.map (·.1)) = L.map fun s => .lit (.string s) := (DataW.agg.inj (Prod.mk.inj ex).1).symm
  have e4 : (xs.map (·.1))[i]? = (L.map fun s => (DataW.lit (.string s) : DataW Unit))[i]? := by rw [e3]
  rw [List.getElem?_map, List.getElem?_map, List.getElem?_eq_getElem (by omega : i < xs.length), hi, e2] at e4
  simp only [Option.map_some, Option.some.injEq, DataW.lit.injEq, Lit.string.injEq] at e4
  subst e4
  have h0 : ((cs.toList.drop i).take 1)[0]? = some (.string z) := by rw [e1]; rfl
  rw [← string_eq]
  simpa using h0
theorem ints_cells {W : World} {fuel t e : Nat} {cs : Array Value} {L : List Int} {p : List MemPlace} (ht : Tryd.prog.underlying t = some (.array L.length e)) (he : Tryd.prog.underlying e = some (.int .i64)) (hce : Tryd.prog.cellsOf e = 1)
    (hd : DataW.trod (fun _ => ()) Tryd.prog W 0 (fun _ => true) false fuel t cs.toList = some (.agg (L.map fun n => .lit (.int .i64 n)), p)) : ∀ (i : Nat) (n : Int), L[i]? = some n → cs[i]? = some (.int .i64 n) := by
  obtain ⟨xs, m, _, ex, _, hl, hel⟩ := DataW.trod_array ht hd
  intro i s hi
  have hil := (List.getElem?_eq_some_iff.1 hi).1
  have hE := hel i hil
  rw [hce, Nat.mul_one, List.getElem?_eq_getElem (by omega)] at hE
  obtain ⟨z, e1, e2, _⟩ := DataW.trod_int he hE
  have e3 : (xs.map (·.1)) = L.map fun n => .lit (.int .i64 n) := (DataW.agg.inj (Prod.mk.inj ex).1).symm
  have e4 : (xs.map (·.1))[i]? = (L.map fun n => (DataW.lit (.int .i64 n) : DataW Unit))[i]? := by rw [e3]
  rw [List.getElem?_map, List.getElem?_map, List.getElem?_eq_getElem (by omega : i < xs.length), hi, e2] at e4
  simp only [Option.map_some, Option.some.injEq, DataW.lit.injEq, Lit.int.injEq, true_and] at e4
  subst e4
  have h0 : ((cs.toList.drop i).take 1)[0]? = some (.int .i64 z) := by rw [e1]; rfl
  simpa using h0
theorem gSigns : Tryd.prog.globalNamed "castellan/filt.signs" = some 1 := by kernel_rfl
theorem gKinds : Tryd.prog.globalNamed "castellan/filt.kinds" = some 0 := by kernel_rfl
theorem tSigns : (Tryd.prog.globals[1]?).map (·.type) = some 71 := by kernel_rfl
theorem tKinds : (Tryd.prog.globals[0]?).map (·.type) = some 70 := by kernel_rfl
theorem cStr1 : Tryd.prog.cellsOf 9 = 1 := by kernel_rfl
theorem cInt1 : Tryd.prog.cellsOf 3 = 1 := by kernel_rfl
theorem tabs_of {W : World} (h : laidMetH Tryd.prog laidL W) : Tabs (heapOf W) := by
  rw [MakeChecks.laidMetH_plain _ _ _ (by kernel_rfl)] at h
  obtain ⟨ps, ⟨_, _, _, _, _, _, _, _, _, _, ⟨g1, t1, cs1, f1, p1, q1, hg1, ht1, hv1, hd1, ⟨g2, t2, cs2, f2, p2, q2, hg2, ht2, hv2, hd2, _, _⟩, _⟩, _⟩, _, _⟩ := h
  obtain rfl := Option.some.inj (gSigns.symm.trans hg1)
  obtain rfl := Option.some.inj (gKinds.symm.trans hg2)
  obtain rfl := Option.some.inj (tSigns.symm.trans ht1)
  obtain rfl := Option.some.inj (tKinds.symm.trans ht2)
  have k1 := strs_cells (L := [[61], [62, 61], [60, 61], [126, 61]]) Tryd.underlying71 Tryd.underlying9 cStr1 hd1
  have k2 := ints_cells (L := [3, 5, 6, 8]) Tryd.underlying70 Tryd.underlying3 cInt1 hd2
  have w1 := World.var?_cell hg1 hv1
  have w2 := World.var?_cell hg2 hv2
  refine ⟨fun j u hj => ?_, fun j u hj => ?_⟩
  · have hj4 : j < 4 := (List.getElem?_eq_some_iff.1 hj).1
    rw [Addr.add_lit, Nat.zero_add]
    show W.cell? _ = _
    rw [w2 j]
    rcases four hj4 with rfl | rfl | rfl | rfl <;> (obtain rfl := Option.some.inj hj; exact k2 _ _ rfl)
  · have hj4 : j < 4 := (List.getElem?_eq_some_iff.1 hj).1
    rw [Addr.add_lit, Nat.zero_add]
    show W.cell? _ = _
    rw [w1 j]
    rcases four hj4 with rfl | rfl | rfl | rfl <;> (obtain rfl := Option.some.inj hj; exact k1 _ _ rfl)
end Go.Proofs.YtcghcdnmpjhifaaDoor
