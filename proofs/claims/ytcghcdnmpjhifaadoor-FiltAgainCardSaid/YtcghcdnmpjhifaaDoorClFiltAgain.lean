/- Filters: the listed tables' cells, out of what the rows list. -/
import Derived.Test.YtcghcdnmpjhifaaDoorRows
import Derived.Test.YtcghcdnmpjhifaaDoorFlI
import Derived.Test.YtcghcdnmpjhifaaDoorOpen
import Derived.ProofKit
import Derived.OpenShut
import Derived.LaidMore
import Derived.Stop.Joined
import Derived.Test.YtcghcdnmpjhifaaDoorTie
import Derived.Test.YtcghcdnmpjhifaaDoorCards
import Derived.Test.YtcghcdnmpjhifaaDoorFlJ
import Derived.Below
import Derived.ChangeMaps
import Derived.Lay
import Derived.SevenTiedAt
namespace Go.Proofs.YtcghcdnmpjhifaaDoor
set_option linter.all false
open Go.ChangeShapes Go.WideShapes Go.ChangeAt Go.RowKit

/-- What the rows list. -/
abbrev laidL : List (String × DataW Unit) := [("unicode/utf8.acceptRanges", Rows.laid_unicode_utf8_acceptRanges), ("castellan/filt.signs", Rows.laid_castellan_filt_signs), ("castellan/filt.kinds", Rows.laid_castellan_filt_kinds), ("unicode/utf8.first", Rows.laid_unicode_utf8_first)]
theorem strs_cells {W : World} {fuel t e : Nat} {cs : Array Value} {L : List (List UInt8)} {p : List MemPlace} (ht : Tryd.prog.underlying t = some (.array L.length e)) (he : Tryd.prog.underlying e = some .string) (hce : Tryd.prog.cellsOf e = 1)
    (hd : DataW.trod (fun _ => ()) Tryd.prog W 0 (fun _ => true) false fuel t cs.toList = some (.agg (L.map fun s => .lit (.string s)), p)) : ∀ (i : Nat) (s : List UInt8), L[i]? = some s → cs[i]? = some (str s) := by
  obtain ⟨xs, m, _, ex, _, hl, hel⟩ := DataW.trod_array ht hd
  intro i s hi
  have hil := (List.getElem?_eq_some_iff.1 hi).1
  have hE := hel i hil
  rw [hce, Nat.mul_one, List.getElem?_eq_getElem (by omega)] at hE
  obtain ⟨z, e1, e2, _⟩ := DataW.trod_string he hE
  have e3 : (xs.map (·.1)) = L.map fun s => .lit (.string s) := (DataW.agg.inj (Prod.mk.inj ex).1).symm
  have e4 : (xs.map (·.1))[i]? = (L.map fun s => (DataW.lit (.string s) : DataW Unit))[i]? := by rw [e3]
  rw [List.getElem?_map, List.getElem?_map, List.getElem?_eq_getElem (by omega : i < xs.length), hi, e2] at e4
  simp only [Option.map_some, Option.some.injEq, DataW.lit.injEq, Lit.string.injEq] at e4
  subst e4
  have h0 : ((cs.toList.drop i).take 1)[0]? = some (.string z) := by rw [e1]; rfl
  rw [← string_eq]
  simpa using h0
theorem ints_cells {W : World} {fuel t e : Nat} {cs : Array Value} {L : List Int} {p : List MemPlace} (ht : Tryd.prog.underlying t = some (.array L.length e)) (he : Tryd.prog.underlying e = some (.int .i64)) (hce : Tryd.prog.cellsOf e = 1)
    (hd : DataW.trod (fun _ => ()) Tryd.prog W 0 (fun _ => true) false fuel t cs.toList = some (.agg (L.map fun n => .lit (.int .i64 n)), p)) : ∀ (i : Nat) (n : Int), L[i]? = some n → cs[i]? = some (.int .i64 n) := by
  obtain ⟨xs, m, _, ex, _, hl, hel⟩ := DataW.trod_array ht hd
  intro i s hi
  have hil := (List.getElem?_eq_some_iff.1 hi).1
  have hE := hel i hil
  rw [hce, Nat.mul_one, List.getElem?_eq_getElem (by omega)] at hE
  obtain ⟨z, e1, e2, _⟩ := DataW.trod_int he hE
  have e3 : (xs.map (·.1)) = L.map fun n => .lit (.int .i64 n) := (DataW.agg.inj (Prod.mk.inj ex).1).symm
  have e4 : (xs.map (·.1))[i]? = (L.map fun n => (DataW.lit (.int .i64 n) : DataW Unit))[i]? := by rw [e3]
  rw [List.getElem?_map, List.getElem?_map, List.getElem?_eq_getElem (by omega : i < xs.length), hi, e2] at e4
  simp only [Option.map_some, Option.some.injEq, DataW.lit.injEq, Lit.int.injEq, true_and] at e4
  subst e4
  have h0 : ((cs.toList.drop i).take 1)[0]? = some (.int .i64 z) := by rw [e1]; rfl
  simpa using h0
theorem gSigns : Tryd.prog.globalNamed "castellan/filt.signs" = some 1 := by kernel_rfl
theorem gKinds : Tryd.prog.globalNamed "castellan/filt.kinds" = some 0 := by kernel_rfl
theorem tSigns : (Tryd.prog.globals[1]?).map (·.type) = some 71 := by kernel_rfl
theorem tKinds : (Tryd.prog.globals[0]?).map (·.type) = some 70 := by kernel_rfl
theorem cStr1 : Tryd.prog.cellsOf 9 = 1 := by kernel_rfl
theorem cInt1 : Tryd.prog.cellsOf 3 = 1 := by kernel_rfl
theorem tabs_of {W : World} (h : laidMetH Tryd.prog laidL W) : Tabs (heapOf W) := by
  rw [MakeChecks.laidMetH_plain _ _ _ (by kernel_rfl)] at h
  obtain ⟨ps, ⟨_, _, _, _, _, _, _, _, _, _, ⟨g1, t1, cs1, f1, p1, q1, hg1, ht1, hv1, hd1, ⟨g2, t2, cs2, f2, p2, q2, hg2, ht2, hv2, hd2, _, _⟩, _⟩, _⟩, _, _⟩ := h
  obtain rfl := Option.some.inj (gSigns.symm.trans hg1)
  obtain rfl := Option.some.inj (gKinds.symm.trans hg2)
  obtain rfl := Option.some.inj (tSigns.symm.trans ht1)
  obtain rfl := Option.some.inj (tKinds.symm.trans ht2)
  have k1 := strs_cells (L := [[61], [62, 61], [60, 61], [126, 61]]) Tryd.underlying71 Tryd.underlying9 cStr1 hd1
  have k2 := ints_cells (L := [3, 5, 6, 8]) Tryd.underlying70 Tryd.underlying3 cInt1 hd2
  have w1 := World.var?_cell hg1 hv1
  have w2 := World.var?_cell hg2 hv2
  refine ⟨fun j u hj => ?_, fun j u hj => ?_⟩
  · have hj4 : j < 4 := (List.getElem?_eq_some_iff.1 hj).1
    rw [Addr.add_lit, Nat.zero_add]
    show W.cell? _ = _
    rw [w2 j]
    rcases four hj4 with rfl | rfl | rfl | rfl <;> (obtain rfl := Option.some.inj hj; exact k2 _ _ rfl)
  · have hj4 : j < 4 := (List.getElem?_eq_some_iff.1 hj).1
    rw [Addr.add_lit, Nat.zero_add]
    show W.cell? _ = _
    rw [w1 j]
    rcases four hj4 with rfl | rfl | rfl | rfl <;> (obtain rfl := Option.some.inj hj; exact k1 _ _ rfl)
end Go.Proofs.YtcghcdnmpjhifaaDoor
namespace Go.Proofs.YtcghcdnmpjhifaaDoor
set_option linter.all false
open Go.ChangeShapes Go.WideShapes Go.ChangeAt Go.RowKit
open Go.ChangeMaps (open_string shut_string)

theorem own_FiltAgain : ownKnob Tryd.prog.godebug = none := by kernel_rfl
set_option maxRecDepth 100000 in
theorem lifted_FiltAgain (os : Os) (started : os.Started) (H : Type) (enc : TypeId × Value → H) :
    ReturnsInHanded {} Tryd.checked os 8 .any (fun w args => (Rows.filtAgainSpec.pre enc Tryd.prog Tryd.f8 Rows.filtAgainRow.domain false w args ∧ laidMetH Tryd.prog laidL w) ∧ sizedMet enc Tryd.prog Tryd.f8 (OpenSpec.ofChange Rows.filtAgainSpec) false w args)
      (Rows.filtAgainSpec.post enc Tryd.prog Tryd.f8 false true false false) := by
  refine returnsInHanded_of_change_and (C := Tryd.checked) (X := fun w _ => laidMetH Tryd.prog laidL w) (fun _ _ _ hh h => h.of_heap hh) own_FiltAgain started (by kernel_rfl) Tryd.func8
    (ChangeSpec.witness_shaped (enc := enc) (C := Tryd.checked) (os := os) (X := fun w _ => laidMetH Tryd.prog laidL w) false (World.laidAll Tryd.prog os laidL) #[.string ⟨#[]⟩, .string ⟨#[]⟩] 8 (World.laidAll_os _ _ _)
      (World.shaped_of_ZipB (by kernel_rfl) (by kernel_rfl)) (by kernel_rfl) (by kernel_rfl) (by kernel_rfl)
      (by rw [MakeChecks.laidMetH_plain _ _ _ (by kernel_rfl)]; exact laidMet_laidAll _ (by kernel_rfl) (by kernel_rfl))) ?_
  intro W base args ds gs before hval0 hW hcnd _ hL _
  have hval : ∀ (j : Nat) t v, Tryd.f8.params[j]? = some t → args[j]? = some v → Value.okWide Tryd.prog W .any base t v := hval0
  have hW' := hW
  obtain ⟨p, q, hA0, hV, rfl, hfz, hnd⟩ := hW
  have hA : DataW.TrodAll enc Tryd.prog W 0 (fun _ => true) true Tryd.f8.params.toList args.toList ds p := hA0
  rw [Tryd.params8] at hA hval
  obtain ⟨v0, vs0, d0, ds0, p0, q0, hargs, rfl, rfl, h0, t0⟩ := trodAll_cons hA
  obtain ⟨v1, vs1, d1, ds1, p1, q1, rfl, rfl, rfl, h1, t1⟩ := trodAll_cons t0
  obtain ⟨rfl, rfl, rfl⟩ := trodAll_nil t1
  obtain rfl : args = #[v0, v1] := by cases args; simp_all
  obtain ⟨rfl, rfl⟩ := trodVars_none hV
  obtain ⟨s0, rfl, rfl, rfl, w0⟩ := open_string Tryd.underlying9 (hval 0 9 v0 rfl rfl) h0
  have l0 : s0.data.toList.length ≤ 9223372036854775807 := by have h9 : s0.data.toList.length ≤ maxLen := w0; simp only [maxLen] at h9; omega
  obtain ⟨s1, rfl, rfl, rfl, w1⟩ := open_string Tryd.underlying9 (hval 1 9 v1 rfl rfl) h1
  have l1 : s1.data.toList.length ≤ 9223372036854775807 := by have h9 : s1.data.toList.length ≤ maxLen := w1; simp only [maxLen] at h9; omega
  have hT := tabs_of hL
  clear hA0 hval0
  have hlaw := (law_FiltAgain s0.data.toList s1.data.toList l0 l1 (heapOf W) hT).law
  simp only [← string_eq] at hlaw
  refine hlaw.mono fun e W' ⟨he, bel⟩ => ?_
  subst he
  exact ⟨_, rfl, _, _, _, [], _, [], hW', trodAll_mk1 (shut_bool Tryd.underlying4 _), (trodAll_cons_mk (shut_string Tryd.underlying9 w0) (trodAll_cons_mk (shut_string Tryd.underlying9 w1) trodAll_mk0)), rfl, bel.frame _, fun h => by cases h⟩

theorem said_FiltAgain : Rows.FiltAgainSaid :=
  OpenClaim.holds_of_wide 8 Tryd.f8 rfl rfl rfl rfl rfl rfl rfl ⟨rfl, rfl, rfl, rfl, rfl⟩ rfl rfl rfl rfl rfl (by kernel_rfl) Tryd.func8 (by kernel_rfl)
    (of_decide_eq_true (by kernel_rfl)) (by unfold Func.isWrapper; first | (rw [if_pos (by decide +kernel)]; kernel_rfl) | (rw [if_neg (by decide +kernel)]; exact ⟨rfl, rfl⟩))
    (fun os started H enc _ => lifted_FiltAgain os started H enc)
theorem FiltAgain_holds : Rows.FiltAgainCardSaid :=
  Claim7.holds_tied_plain_at .later [] _ _ _ _ said_FiltAgain (fun _ h => by cases h) (by kernel_rfl) (fun _ h => by cases h) filtAgain_row_tie rfl ⟨rfl, rfl⟩ (by kernel_rfl) rfl
    (fun f fn hf hfn => by
      obtain rfl : f = 8 := Option.some.inj ((show Tryd.prog.funcNamed "castellan/castellanlaw10.FiltAgain" = some 8 by kernel_rfl).symm.trans hf) |>.symm
      obtain rfl : fn = Tryd.f8 := (Option.some.inj (Tryd.func8.symm.trans hfn)).symm
      exact ⟨by kernel_rfl, fun j t ht => by
        rw [Tryd.params8] at ht
        have hm : t ∈ [9, 9] := by simpa using Array.mem_of_getElem? ht
        have hall : ([9, 9].all fun u => !Tryd.prog.wantsStandIn u) = true := by kernel_rfl
        exact (show Tryd.prog.wantsStandIn t = false by simpa using List.all_eq_true.1 hall t hm)⟩)
    (by kernel_rfl)
end Go.Proofs.YtcghcdnmpjhifaaDoor
