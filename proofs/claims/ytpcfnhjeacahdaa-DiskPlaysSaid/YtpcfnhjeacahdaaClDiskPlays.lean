/- The statement DiskPlays: behind any calls, with any losses of power, each is answered, and the disk has, what the document says, step by step: proved for every run; no condition. -/
import Derived.Test.YtpcfnhjeacahdaaRows
import Derived.Test.YtpcfnhjeacahdaaDkP
import Derived.Test.YtpcfnhjeacahdaaOpen
import Derived.Below
import Derived.ChangeMaps
import Derived.Test.YtpcfnhjeacahdaaFlatN
import Derived.Test.YtpcfnhjeacahdaaFlat
namespace Go.Proofs.Ytpcfnhjeacahdaa
set_option linter.all false
open Go.ChangeShapes Go.WideShapes Go.ChangeAt Go.RowKit
open Go.ChangeMaps (open_string shut_string)

theorem own_DiskPlays : ownKnob Try.prog.godebug = none := by kernel_rfl

theorem laidOut_DiskPlays : laidOutB Try.prog = true := by kernel_rfl

set_option maxRecDepth 100000 in
theorem lifted_DiskPlays (os : Os) (started : os.Started) (H : Type) (enc : TypeId × Value → H) :
    ReturnsInHanded {} Try.checked os 8 .any (Rows.diskPlaysSpec.pre6 enc Try.prog Try.f8 Rows.diskPlaysRow.domain false) (Rows.diskPlaysSpec.post enc Try.prog Try.f8 false true false false) := by
  refine returnsInHanded_of_change (C := Try.checked) own_DiskPlays started (by kernel_rfl) Try.func8
    (ChangeSpec.witness6 (enc := enc) (C := Try.checked) false ⟨#[], #[.int .i64 0, .slice none 0 0], []⟩ 8 (by kernel_rfl) (by kernel_rfl) (by kernel_rfl) (by kernel_rfl)) ?_
  intro W base args ds gs before hval0 hW hcnd _
  have hval : ∀ (j : Nat) t v, Try.f8.params[j]? = some t → args[j]? = some v → Value.okWide Try.prog W .any base t v := hval0
  have hW' := hW
  obtain ⟨p, q, hA0, hV, rfl, hfz, hnd⟩ := hW
  have hA : DataW.TrodAll enc Try.prog W 0 (fun _ => true) true Try.f8.params.toList args.toList ds p := hA0
  rw [Try.params8] at hA hval
  obtain ⟨v0, vs0, d0, ds0, p0, q0, hargs, rfl, rfl, h0, t0⟩ := trodAll_cons hA
  obtain ⟨v1, vs1, d1, ds1, p1, q1, rfl, rfl, rfl, h1, t1⟩ := trodAll_cons t0
  obtain ⟨rfl, rfl, rfl⟩ := trodAll_nil t1
  obtain rfl : args = #[v0, v1] := by cases args; simp_all
  obtain ⟨rfl, rfl⟩ := trodVars_none hV
  obtain ⟨a0, rfl, rfl, rfl, w0⟩ := open_int Try.underlying3 (hval 0 3 v0 rfl rfl) h0
  have r0 := inR_of_wf w0
  have k1 := h1
  have lt1 : ∀ x ∈ p1, x.block < W.heap.size := by obtain ⟨m, hm⟩ := k1; exact DataW.trod_lt m _ _ _ hm
  obtain ⟨A1, len1, cap1, rfl⟩ := okWide_slice Try.underlying53 (hval 1 53 v1 rfl rfl)
  obtain ⟨rows1, sl1, f1⟩ : ∃ rows : List (List Value), HSl (heapOf W) (.slice A1 len1 cap1) 7 rows ∧ ∀ r ∈ rows, FlatC [.int .i64, .int .i64, .int .i64, .str, .int .u64, .int .i64, .int .i64] r := by
    obtain ⟨fuel, hf⟩ := h1
    exact flatNs_open (tds := [[.int .i64], [.int .i64], [.int .i64], [.str], [.int .u64, .int .i64, .int .i64]]) Try.underlying53 Try.underlying57 (by kernel_rfl) (by kernel_rfl) (by simpa [Value.cells] using hf)
  clear hA0 hval0
  have hlaw := (law_DiskPlays' a0 _ rows1 f1 (heapOf W) sl1).law
  refine hlaw.mono fun e W' ⟨he, bel⟩ => ?_
  subst he
  exact ⟨_, rfl, _, _, _, [], _, [], hW', trodAll_mk1 (shut_bool Try.underlying4 _), (trodAll_cons_mk (shut_int Try.underlying3 w0) (trodAll_cons_mk (Below.trod laidOut_DiskPlays (by kernel_rfl) (of_decide_eq_true (by kernel_rfl)) k1 bel lt1) trodAll_mk0)), rfl, bel.frame _, fun h => by cases h⟩

theorem DiskPlays_holds : Rows.DiskPlaysSaid :=
  OpenClaim.holds_of_wide 8 Try.f8 rfl rfl rfl rfl rfl rfl rfl ⟨rfl, rfl, rfl, rfl, rfl⟩ rfl rfl rfl rfl rfl (by kernel_rfl) Try.func8 (by kernel_rfl)
    (of_decide_eq_true (by kernel_rfl)) (by unfold Func.isWrapper; first | (rw [if_pos (by decide +kernel)]; kernel_rfl) | (rw [if_neg (by decide +kernel)]; exact ⟨rfl, rfl⟩))
    (fun os started H enc _ => lifted_DiskPlays os started H enc)
end Go.Proofs.Ytpcfnhjeacahdaa
