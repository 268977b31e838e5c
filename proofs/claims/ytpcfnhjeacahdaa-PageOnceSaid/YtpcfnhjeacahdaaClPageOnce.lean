/- The statement PageOnce: a cookie that was taken is none any more, and the taking by another connection changes nothing: proved for every run; no condition. -/
import Derived.Test.YtpcfnhjeacahdaaRows
import Derived.Test.YtpcfnhjeacahdaaPgG
import Derived.Test.YtpcfnhjeacahdaaOpen
import Derived.Below
import Derived.ChangeMaps
import Derived.Test.YtpcfnhjeacahdaaFlat
namespace Go.Proofs.Ytpcfnhjeacahdaa
set_option linter.all false
open Go.ChangeShapes Go.WideShapes Go.ChangeAt Go.RowKit
open Go.ChangeMaps (open_string shut_string)

theorem own_PageOnce : ownKnob Try.prog.godebug = none := by kernel_rfl

theorem laidOut_PageOnce : laidOutB Try.prog = true := by kernel_rfl

set_option maxRecDepth 100000 in
theorem lifted_PageOnce (os : Os) (started : os.Started) (H : Type) (enc : TypeId × Value → H) :
    ReturnsInHanded {} Try.checked os 3 .any (Rows.pageOnceSpec.pre6 enc Try.prog Try.f3 Rows.pageOnceRow.domain false) (Rows.pageOnceSpec.post enc Try.prog Try.f3 false true false false) := by
  refine returnsInHanded_of_change (C := Try.checked) own_PageOnce started (by kernel_rfl) Try.func3
    (ChangeSpec.witness6 (enc := enc) (C := Try.checked) false ⟨#[], #[.agg #[.int .i64 0, .int .i64 0, .int .i64 0, .int .i64 0, .int .i64 0, .string ⟨#[]⟩, .string ⟨#[]⟩], .agg #[.int .i64 0, .int .i64 0, .int .i64 0, .int .i64 0, .int .i64 0, .string ⟨#[]⟩, .string ⟨#[]⟩]], []⟩ 8 (by kernel_rfl) (by kernel_rfl) (by kernel_rfl) (by kernel_rfl)) ?_
  intro W base args ds gs before hval0 hW hcnd _
  have hval : ∀ (j : Nat) t v, Try.f3.params[j]? = some t → args[j]? = some v → Value.okWide Try.prog W .any base t v := hval0
  have hW' := hW
  obtain ⟨p, q, hA0, hV, rfl, hfz, hnd⟩ := hW
  have hA : DataW.TrodAll enc Try.prog W 0 (fun _ => true) true Try.f3.params.toList args.toList ds p := hA0
  rw [Try.params3] at hA hval
  obtain ⟨v0, vs0, d0, ds0, p0, q0, hargs, rfl, rfl, h0, t0⟩ := trodAll_cons hA
  obtain ⟨v1, vs1, d1, ds1, p1, q1, rfl, rfl, rfl, h1, t1⟩ := trodAll_cons t0
  obtain ⟨rfl, rfl, rfl⟩ := trodAll_nil t1
  obtain rfl : args = #[v0, v1] := by cases args; simp_all
  obtain ⟨rfl, rfl⟩ := trodVars_none hV
  have k0 := h0
  have lt0 : ∀ x ∈ p0, x.block < W.heap.size := by obtain ⟨m, hm⟩ := k0; exact DataW.trod_lt m _ _ _ hm
  obtain ⟨⟨c0⟩, rfl, _⟩ := okWide_struct Try.underlying23 (hval 0 23 v0 rfl rfl)
  have f0 : FlatC [.int .i64, .int .i64, .int .i64, .int .i64, .int .i64, .str, .str] c0 := by
    obtain ⟨fuel, hf⟩ := h0
    exact flat_open Try.underlying23 (by kernel_rfl) (by kernel_rfl) (by simpa [Value.cells] using hf)
  obtain ⟨a0_0, c0_0, rfl, r0_0, f0_0⟩ := f0.int_inv
  obtain ⟨a0_1, c0_1, rfl, r0_1, f0_1⟩ := f0_0.int_inv
  obtain ⟨a0_2, c0_2, rfl, r0_2, f0_2⟩ := f0_1.int_inv
  obtain ⟨a0_3, c0_3, rfl, r0_3, f0_3⟩ := f0_2.int_inv
  obtain ⟨a0_4, c0_4, rfl, r0_4, f0_4⟩ := f0_3.int_inv
  obtain ⟨a0_5, c0_5, rfl, r0_5, f0_5⟩ := f0_4.str_inv
  obtain ⟨a0_6, c0_6, rfl, r0_6, f0_6⟩ := f0_5.str_inv
  obtain rfl := f0_6.nil_inv
  have k1 := h1
  have lt1 : ∀ x ∈ p1, x.block < W.heap.size := by obtain ⟨m, hm⟩ := k1; exact DataW.trod_lt m _ _ _ hm
  obtain ⟨⟨c1⟩, rfl, _⟩ := okWide_struct Try.underlying23 (hval 1 23 v1 rfl rfl)
  have f1 : FlatC [.int .i64, .int .i64, .int .i64, .int .i64, .int .i64, .str, .str] c1 := by
    obtain ⟨fuel, hf⟩ := h1
    exact flat_open Try.underlying23 (by kernel_rfl) (by kernel_rfl) (by simpa [Value.cells] using hf)
  obtain ⟨a1_0, c1_0, rfl, r1_0, f1_0⟩ := f1.int_inv
  obtain ⟨a1_1, c1_1, rfl, r1_1, f1_1⟩ := f1_0.int_inv
  obtain ⟨a1_2, c1_2, rfl, r1_2, f1_2⟩ := f1_1.int_inv
  obtain ⟨a1_3, c1_3, rfl, r1_3, f1_3⟩ := f1_2.int_inv
  obtain ⟨a1_4, c1_4, rfl, r1_4, f1_4⟩ := f1_3.int_inv
  obtain ⟨a1_5, c1_5, rfl, r1_5, f1_5⟩ := f1_4.str_inv
  obtain ⟨a1_6, c1_6, rfl, r1_6, f1_6⟩ := f1_5.str_inv
  obtain rfl := f1_6.nil_inv
  clear hA0 hval0
  have hlaw := (law_PageOnce a0_0 a0_1 a0_2 a0_3 a0_4 a1_0 a1_1 a1_2 a1_3 a1_4 a0_5 a0_6 a1_5 a1_6 (heapOf W)).law
  refine hlaw.mono fun e W' ⟨he, bel⟩ => ?_
  subst he
  exact ⟨_, rfl, _, _, _, [], _, [], hW', trodAll_mk1 (shut_bool Try.underlying4 _), (trodAll_cons_mk (Below.trod laidOut_PageOnce (by kernel_rfl) (of_decide_eq_true (by kernel_rfl)) k0 bel lt0) (trodAll_cons_mk (Below.trod laidOut_PageOnce (by kernel_rfl) (of_decide_eq_true (by kernel_rfl)) k1 bel lt1) trodAll_mk0)), rfl, bel.frame _, fun h => by cases h⟩

theorem PageOnce_holds : Rows.PageOnceSaid :=
  OpenClaim.holds_of_wide 3 Try.f3 rfl rfl rfl rfl rfl rfl rfl ⟨rfl, rfl, rfl, rfl, rfl⟩ rfl rfl rfl rfl rfl (by kernel_rfl) Try.func3 (by kernel_rfl)
    (of_decide_eq_true (by kernel_rfl)) (by unfold Func.isWrapper; first | (rw [if_pos (by decide +kernel)]; kernel_rfl) | (rw [if_neg (by decide +kernel)]; exact ⟨rfl, rfl⟩))
    (fun os started H enc _ => lifted_PageOnce os started H enc)
end Go.Proofs.Ytpcfnhjeacahdaa
