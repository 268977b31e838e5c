/- The statement DiskLasts: what was flushed stays, whatever is lost behind, but for sectors that were written since: proved for every run; no condition. -/
import Derived.Test.YtpcfnhjeacahdaaRows
import Derived.Test.YtpcfnhjeacahdaaDkH
import Derived.Test.YtpcfnhjeacahdaaOpen
import Derived.Below
import Derived.ChangeMaps
import Derived.Test.YtpcfnhjeacahdaaFlat
namespace Go.Proofs.Ytpcfnhjeacahdaa
set_option linter.all false
open Go.ChangeShapes Go.WideShapes Go.ChangeAt Go.RowKit
open Go.ChangeMaps (open_string shut_string)

theorem own_DiskLasts : ownKnob Try.prog.godebug = none := by kernel_rfl

theorem laidOut_DiskLasts : laidOutB Try.prog = true := by kernel_rfl

set_option maxRecDepth 100000 in
theorem lifted_DiskLasts (os : Os) (started : os.Started) (H : Type) (enc : TypeId × Value → H) :
    ReturnsInHanded {} Try.checked os 7 .any (Rows.diskLastsSpec.pre6 enc Try.prog Try.f7 Rows.diskLastsRow.domain false) (Rows.diskLastsSpec.post enc Try.prog Try.f7 false true false false) := by
  refine returnsInHanded_of_change (C := Try.checked) own_DiskLasts started (by kernel_rfl) Try.func7
    (ChangeSpec.witness6 (enc := enc) (C := Try.checked) false ⟨#[], #[.slice none 0 0, .slice none 0 0, .agg #[.int .u64 0, .int .i64 0, .int .i64 0]], []⟩ 8 (by kernel_rfl) (by kernel_rfl) (by kernel_rfl) (by kernel_rfl)) ?_
  intro W base args ds gs before hval0 hW hcnd _
  have hval : ∀ (j : Nat) t v, Try.f7.params[j]? = some t → args[j]? = some v → Value.okWide Try.prog W .any base t v := hval0
  have hW' := hW
  obtain ⟨p, q, hA0, hV, rfl, hfz, hnd⟩ := hW
  have hA : DataW.TrodAll enc Try.prog W 0 (fun _ => true) true Try.f7.params.toList args.toList ds p := hA0
  rw [Try.params7] at hA hval
  obtain ⟨v0, vs0, d0, ds0, p0, q0, hargs, rfl, rfl, h0, t0⟩ := trodAll_cons hA
  obtain ⟨v1, vs1, d1, ds1, p1, q1, rfl, rfl, rfl, h1, t1⟩ := trodAll_cons t0
  obtain ⟨v2, vs2, d2, ds2, p2, q2, rfl, rfl, rfl, h2, t2⟩ := trodAll_cons t1
  obtain ⟨rfl, rfl, rfl⟩ := trodAll_nil t2
  obtain rfl : args = #[v0, v1, v2] := by cases args; simp_all
  obtain ⟨rfl, rfl⟩ := trodVars_none hV
  have k0 := h0
  have lt0 : ∀ x ∈ p0, x.block < W.heap.size := by obtain ⟨m, hm⟩ := k0; exact DataW.trod_lt m _ _ _ hm
  obtain ⟨A0, len0, cap0, rfl⟩ := okWide_slice Try.underlying37 (hval 0 37 v0 rfl rfl)
  obtain ⟨L0, sl0⟩ : ∃ L : List (List UInt8), HSl (heapOf W) (.slice A0 len0 cap0) 1 (strsR L) := by
    obtain ⟨fuel, hf⟩ := h0
    exact strs_open Try.underlying37 Try.underlying9 (by kernel_rfl) (by simpa [Value.cells] using hf)
  have k1 := h1
  have lt1 : ∀ x ∈ p1, x.block < W.heap.size := by obtain ⟨m, hm⟩ := k1; exact DataW.trod_lt m _ _ _ hm
  obtain ⟨A1, len1, cap1, rfl⟩ := okWide_slice Try.underlying37 (hval 1 37 v1 rfl rfl)
  obtain ⟨L1, sl1⟩ : ∃ L : List (List UInt8), HSl (heapOf W) (.slice A1 len1 cap1) 1 (strsR L) := by
    obtain ⟨fuel, hf⟩ := h1
    exact strs_open Try.underlying37 Try.underlying9 (by kernel_rfl) (by simpa [Value.cells] using hf)
  have k2 := h2
  have lt2 : ∀ x ∈ p2, x.block < W.heap.size := by obtain ⟨m, hm⟩ := k2; exact DataW.trod_lt m _ _ _ hm
  obtain ⟨⟨c2⟩, rfl, _⟩ := okWide_struct Try.underlying46 (hval 2 46 v2 rfl rfl)
  have f2 : FlatC [.int .u64, .int .i64, .int .i64] c2 := by
    obtain ⟨fuel, hf⟩ := h2
    exact flat_open Try.underlying46 (by kernel_rfl) (by kernel_rfl) (by simpa [Value.cells] using hf)
  obtain ⟨a2_0, c2_0, rfl, r2_0, f2_0⟩ := f2.int_inv
  obtain ⟨a2_1, c2_1, rfl, r2_1, f2_1⟩ := f2_0.int_inv
  obtain ⟨a2_2, c2_2, rfl, r2_2, f2_2⟩ := f2_1.int_inv
  obtain rfl := f2_2.nil_inv
  clear hA0 hval0
  have hlaw := (law_DiskLasts' _ _ L0 L1 a2_0 a2_1 a2_2 r2_0 r2_2 (heapOf W) sl0 sl1).law
  refine hlaw.mono fun e W' ⟨he, bel⟩ => ?_
  subst he
  exact ⟨_, rfl, _, _, _, [], _, [], hW', trodAll_mk1 (shut_bool Try.underlying4 _), (trodAll_cons_mk (Below.trod laidOut_DiskLasts (by kernel_rfl) (of_decide_eq_true (by kernel_rfl)) k0 bel lt0) (trodAll_cons_mk (Below.trod laidOut_DiskLasts (by kernel_rfl) (of_decide_eq_true (by kernel_rfl)) k1 bel lt1) (trodAll_cons_mk (Below.trod laidOut_DiskLasts (by kernel_rfl) (of_decide_eq_true (by kernel_rfl)) k2 bel lt2) trodAll_mk0))), rfl, bel.frame _, fun h => by cases h⟩

theorem DiskLasts_holds : Rows.DiskLastsSaid :=
  OpenClaim.holds_of_wide 7 Try.f7 rfl rfl rfl rfl rfl rfl rfl ⟨rfl, rfl, rfl, rfl, rfl⟩ rfl rfl rfl rfl rfl (by kernel_rfl) Try.func7 (by kernel_rfl)
    (of_decide_eq_true (by kernel_rfl)) (by unfold Func.isWrapper; first | (rw [if_pos (by decide +kernel)]; kernel_rfl) | (rw [if_neg (by decide +kernel)]; exact ⟨rfl, rfl⟩))
    (fun os started H enc _ => lifted_DiskLasts os started H enc)
end Go.Proofs.Ytpcfnhjeacahdaa
