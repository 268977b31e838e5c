/- The statement PagePlays: any calls, one behind the other, are answered as the document says: proved for every run; no condition. -/
import Derived.Test.YtpcfnhjeacahdaaRows
import Derived.Test.YtpcfnhjeacahdaaPgO
import Derived.Test.YtpcfnhjeacahdaaOpen
import Derived.Below
import Derived.ChangeMaps
import Derived.Test.YtpcfnhjeacahdaaFlat
namespace Go.Proofs.Ytpcfnhjeacahdaa
set_option linter.all false
open Go.ChangeShapes Go.WideShapes Go.ChangeAt Go.RowKit
open Go.ChangeMaps (open_string shut_string)

theorem own_PagePlays : ownKnob Try.prog.godebug = none := by kernel_rfl

theorem laidOut_PagePlays : laidOutB Try.prog = true := by kernel_rfl

set_option maxRecDepth 100000 in
theorem lifted_PagePlays (os : Os) (started : os.Started) (H : Type) (enc : TypeId × Value → H) :
    ReturnsInHanded {} Try.checked os 4 .any (Rows.pagePlaysSpec.pre6 enc Try.prog Try.f4 Rows.pagePlaysRow.domain false) (Rows.pagePlaysSpec.post enc Try.prog Try.f4 false true false false) := by
  refine returnsInHanded_of_change (C := Try.checked) own_PagePlays started (by kernel_rfl) Try.func4
    (ChangeSpec.witness6 (enc := enc) (C := Try.checked) false ⟨#[], #[.slice none 0 0], []⟩ 8 (by kernel_rfl) (by kernel_rfl) (by kernel_rfl) (by kernel_rfl)) ?_
  intro W base args ds gs before hval0 hW hcnd _
  have hval : ∀ (j : Nat) t v, Try.f4.params[j]? = some t → args[j]? = some v → Value.okWide Try.prog W .any base t v := hval0
  have hW' := hW
  obtain ⟨p, q, hA0, hV, rfl, hfz, hnd⟩ := hW
  have hA : DataW.TrodAll enc Try.prog W 0 (fun _ => true) true Try.f4.params.toList args.toList ds p := hA0
  rw [Try.params4] at hA hval
  obtain ⟨v0, vs0, d0, ds0, p0, q0, hargs, rfl, rfl, h0, t0⟩ := trodAll_cons hA
  obtain ⟨rfl, rfl, rfl⟩ := trodAll_nil t0
  obtain rfl : args = #[v0] := by cases args; simp_all
  obtain ⟨rfl, rfl⟩ := trodVars_none hV
  have k0 := h0
  have lt0 : ∀ x ∈ p0, x.block < W.heap.size := by obtain ⟨m, hm⟩ := k0; exact DataW.trod_lt m _ _ _ hm
  obtain ⟨A0, len0, cap0, rfl⟩ := okWide_slice Try.underlying32 (hval 0 32 v0 rfl rfl)
  obtain ⟨rows0, sl0, f0⟩ : ∃ rows : List (List Value), HSl (heapOf W) (.slice A0 len0 cap0) 7 rows ∧ ∀ r ∈ rows, FlatC [.int .i64, .int .i64, .int .i64, .int .i64, .int .i64, .str, .str] r := by
    obtain ⟨fuel, hf⟩ := h0
    exact flats_open (tds := [.int .i64, .int .i64, .int .i64, .int .i64, .int .i64, .str, .str]) Try.underlying32 Try.underlying23 (by kernel_rfl) (by kernel_rfl) (by kernel_rfl) (by simpa [Value.cells] using hf)
  clear hA0 hval0
  have hlaw := (law_PagePlays _ rows0 (heapOf W) sl0 (fun r hr => by obtain ⟨x0, c0, rfl, y0, g0⟩ := (f0 r hr).int_inv; obtain ⟨x1, c1, rfl, y1, g1⟩ := g0.int_inv; obtain ⟨x2, c2, rfl, y2, g2⟩ := g1.int_inv; obtain ⟨x3, c3, rfl, y3, g3⟩ := g2.int_inv; obtain ⟨x4, c4, rfl, y4, g4⟩ := g3.int_inv; obtain ⟨x5, c5, rfl, y5, g5⟩ := g4.str_inv; obtain ⟨x6, c6, rfl, y6, g6⟩ := g5.str_inv; obtain rfl := g6.nil_inv; exact ⟨x0, x1, x2, x3, x4, x5, x6, rfl, y0, y6⟩)).law
  refine hlaw.mono fun e W' ⟨he, bel⟩ => ?_
  subst he
  exact ⟨_, rfl, _, _, _, [], _, [], hW', trodAll_mk1 (shut_bool Try.underlying4 _), (trodAll_cons_mk (Below.trod laidOut_PagePlays (by kernel_rfl) (of_decide_eq_true (by kernel_rfl)) k0 bel lt0) trodAll_mk0), rfl, bel.frame _, fun h => by cases h⟩

theorem PagePlays_holds : Rows.PagePlaysSaid :=
  OpenClaim.holds_of_wide 4 Try.f4 rfl rfl rfl rfl rfl rfl rfl ⟨rfl, rfl, rfl, rfl, rfl⟩ rfl rfl rfl rfl rfl (by kernel_rfl) Try.func4 (by kernel_rfl)
    (of_decide_eq_true (by kernel_rfl)) (by unfold Func.isWrapper; first | (rw [if_pos (by decide +kernel)]; kernel_rfl) | (rw [if_neg (by decide +kernel)]; exact ⟨rfl, rfl⟩))
    (fun os started H enc _ => lifted_PagePlays os started H enc)
end Go.Proofs.Ytpcfnhjeacahdaa
