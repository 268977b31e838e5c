/- The statement SchemaFinds: the type, the class, and the chain of any name: proved for every run; condition: what comes in is of bulk at most 1048576, as the row says. -/
import Derived.Test.YtfmekdmpghhegaaRows
import Derived.Test.YtfmekdmpghhegaaScV
import Derived.Test.YtfmekdmpghhegaaSlOpen
import Derived.Below
import Derived.ChangeMaps
import Derived.Test.YtfmekdmpghhegaaScOpen
import Derived.JoinedOf
import Derived.JoinedAt
import Derived.JoinedCond
namespace Go.Proofs.Ytfmekdmpghhegaa
set_option linter.all false
set_option maxRecDepth 4000
open Go.ChangeShapes Go.WideShapes Go.ChangeAt Go.RowKit
open Go.ChangeMaps (open_string shut_string)

theorem own_SchemaFinds : ownKnob Try.prog.godebug = none := by kernel_rfl

theorem laidOut_SchemaFinds : laidOutB Try.prog = true := by kernel_rfl

set_option maxRecDepth 100000 in
theorem lifted_SchemaFinds (os : Os) (started : os.Started) (H : Type) (enc : TypeId × Value -> H) (F0 : Stop.Interp) :
    ReturnsInHanded {} Try.checked os 8 .any ((Rows.OpenSpec.upto Rows.schemaFindsSpec).pre6 enc Try.prog Try.f8 Rows.schemaFindsUptoRow.domain false) (((Rows.OpenSpec.upto Rows.schemaFindsSpec).at F0).post enc Try.prog Try.f8 false true false false) := by
  refine returnsInHanded_of_cond (C := Try.checked) (s := Rows.OpenSpec.upto Rows.schemaFindsSpec) (k := Rows.uptoSmall) rfl own_SchemaFinds started (by kernel_rfl) Try.func8
    (OpenSpec.witness (enc := enc) (C := Try.checked) (s := Rows.OpenSpec.upto Rows.schemaFindsSpec) (k := Rows.uptoSmall) rfl false ⟨#[], #[.agg #[.slice none 0 0, .slice none 0 0], .string ⟨#[]⟩], []⟩ 8 (by kernel_rfl) (by kernel_rfl) (by kernel_rfl)
      (x := (([.agg [.nil, .nil], .lit (.string [])], [], []))) (by kernel_rfl) (by kernel_rfl) (by kernel_rfl)) ?_
  intro W base args ds gs before hval0 hW hcnd hk _
  have hval : ∀ (j : Nat) t v, Try.f8.params[j]? = some t -> args[j]? = some v -> Value.okWide Try.prog W .any base t v := hval0
  have hW' := hW
  obtain ⟨p, q, hA0, hV, rfl, hfz, hnd⟩ := hW
  have hA : DataW.TrodAll enc Try.prog W 0 (fun _ => true) true Try.f8.params.toList args.toList ds p := hA0
  rw [Try.params8] at hA hval
  obtain ⟨v0, vs0, d0, ds0, p0, q0, hargs, rfl, rfl, h0, t0⟩ := trodAll_cons hA
  obtain ⟨v1, vs1, d1, ds1, p1, q1, rfl, rfl, rfl, h1, t1⟩ := trodAll_cons t0
  obtain ⟨rfl, rfl, rfl⟩ := trodAll_nil t1
  obtain rfl : args = #[v0, v1] := by cases args; simp_all
  obtain ⟨rfl, rfl⟩ := trodVars_none hV
  have hb : Rows.uptoBulkAll [d0, d1] <= 1048576 := by simpa [Rows.uptoSmall] using hk
  simp only [Rows.uptoBulkAll] at hb
  have k0 := h0
  have lt0 : ∀ x ∈ p0, x.block < W.heap.size := by obtain ⟨m, hm⟩ := k0; exact DataW.trod_lt m _ _ _ hm
  obtain ⟨⟨c0⟩, rfl, _⟩ := okWide_struct Try.underlying25 (hval 0 25 v0 rfl rfl)
  obtain ⟨T, C, vT, vC, rc, ec0, hvT, hvC, hrc, hrT, hrC, hw0⟩ : ∃ (T : List Ty4) (C : List Cls) (vT vC : Value) (rc : List (List Value)), c0 = [vT, vC] /\ HSl (heapOf W) vT 4 (tyR T) /\ HSl (heapOf W) vC 5 rc /\ ClsC (heapOf W) C rc /\ (∀ t ∈ T, inR .i64 t.2.1) /\ (∀ c ∈ C, inR .i64 c.2.2.1) /\ (T.map tyW).sum + (C.map clW).sum + 1 <= 1 * Rows.uptoBulk d0 := by
    obtain ⟨fuel, hf⟩ := h0
    exact sch_open (by simpa [Value.cells] using hf)
  subst ec0
  obtain ⟨s1, rfl, rfl, rfl, w1⟩ := open_string Try.underlying9 (hval 1 9 v1 rfl rfl) h1
  have l1 : s1.data.toList.length <= 9223372036854775807 := by have h9 : s1.data.toList.length <= maxLen := w1; simp only [maxLen] at h9; omega
  clear hA0 hval0
  have hlaw := (law_SchemaFinds T C vT vC rc s1.data.toList (scB_of (by omega)) (by have h9 := hb; simp only [Rows.uptoBulk] at h9; omega) (heapOf W) hvT hvC hrc).law
  simp only [← string_eq] at hlaw
  refine hlaw.mono fun e W' ⟨he, bel⟩ => ?_
  subst he
  exact ⟨_, rfl, _, _, _, [], _, [], hW', trodAll_mk1 (shut_bool Try.underlying4 _), (trodAll_cons_mk (Below.trod laidOut_SchemaFinds (by kernel_rfl) (of_decide_eq_true (by kernel_rfl)) k0 bel lt0) (trodAll_cons_mk (shut_string Try.underlying9 w1) trodAll_mk0)), rfl, bel.frame _, fun h => by cases h⟩

theorem SchemaFinds_holds : Rows.SchemaFindsUptoSaid :=
  OpenClaim.holds_of_cond 8 Try.f8 rfl rfl rfl rfl rfl rfl rfl ⟨rfl, rfl, rfl, rfl, rfl⟩ rfl rfl rfl rfl rfl (by kernel_rfl) Try.func8 (by kernel_rfl)
    (of_decide_eq_true (by kernel_rfl)) (by unfold Func.isWrapper; first | (rw [if_pos Zw]; kernel_rfl) | (rw [if_neg Zw]; exact ⟨rfl, rfl⟩))
    (fun os started H enc _ F0 => lifted_SchemaFinds os started H enc F0)
end Go.Proofs.Ytfmekdmpghhegaa
