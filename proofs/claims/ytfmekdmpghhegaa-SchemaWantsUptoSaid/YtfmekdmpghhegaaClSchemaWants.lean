/- The statement SchemaWants: what must be there and what may, of any classes: proved for every run; condition: what comes in is of bulk at most 1048576, as the row says. -/
import Derived.Test.YtfmekdmpghhegaaRows
import Derived.Test.YtfmekdmpghhegaaScW
import Derived.Test.YtfmekdmpghhegaaSlOpen
import Derived.Below
import Derived.ChangeMaps
import Derived.Test.YtfmekdmpghhegaaScOpen
import Derived.JoinedOf
import Derived.JoinedAt
import Derived.JoinedCond
namespace Go.Proofs.Ytfmekdmpghhegaa
set_option linter.all false
set_option maxRecDepth 4000
open Go.ChangeShapes Go.WideShapes Go.ChangeAt Go.RowKit
open Go.ChangeMaps (open_string shut_string)

theorem own_SchemaWants : ownKnob Try.prog.godebug = none := by kernel_rfl

theorem laidOut_SchemaWants : laidOutB Try.prog = true := by kernel_rfl

set_option maxRecDepth 100000 in
theorem lifted_SchemaWants (os : Os) (started : os.Started) (H : Type) (enc : TypeId × Value -> H) (F0 : Stop.Interp) :
    ReturnsInHanded {} Try.checked os 4 .any ((Rows.OpenSpec.upto Rows.schemaWantsSpec).pre6 enc Try.prog Try.f4 Rows.schemaWantsUptoRow.domain false) (((Rows.OpenSpec.upto Rows.schemaWantsSpec).at F0).post enc Try.prog Try.f4 false true false false) := by
  refine returnsInHanded_of_cond (C := Try.checked) (s := Rows.OpenSpec.upto Rows.schemaWantsSpec) (k := Rows.uptoSmall) rfl own_SchemaWants started (by kernel_rfl) Try.func4
    (OpenSpec.witness (enc := enc) (C := Try.checked) (s := Rows.OpenSpec.upto Rows.schemaWantsSpec) (k := Rows.uptoSmall) rfl false ⟨#[], #[.agg #[.slice none 0 0, .slice none 0 0], .slice none 0 0], []⟩ 8 (by kernel_rfl) (by kernel_rfl) (by kernel_rfl)
      (x := (([.agg [.nil, .nil], .nil], [], []))) (by kernel_rfl) (by kernel_rfl) (by kernel_rfl)) ?_
  intro W base args ds gs before hval0 hW hcnd hk _
  have hval : ∀ (j : Nat) t v, Try.f4.params[j]? = some t -> args[j]? = some v -> Value.okWide Try.prog W .any base t v := hval0
  have hW' := hW
  obtain ⟨p, q, hA0, hV, rfl, hfz, hnd⟩ := hW
  have hA : DataW.TrodAll enc Try.prog W 0 (fun _ => true) true Try.f4.params.toList args.toList ds p := hA0
  rw [Try.params4] at hA hval
  obtain ⟨v0, vs0, d0, ds0, p0, q0, hargs, rfl, rfl, h0, t0⟩ := trodAll_cons hA
  obtain ⟨v1, vs1, d1, ds1, p1, q1, rfl, rfl, rfl, h1, t1⟩ := trodAll_cons t0
  obtain ⟨rfl, rfl, rfl⟩ := trodAll_nil t1
  obtain rfl : args = #[v0, v1] := by cases args; simp_all
  obtain ⟨rfl, rfl⟩ := trodVars_none hV
  have hb : Rows.uptoBulkAll [d0, d1] <= 1048576 := by simpa [Rows.uptoSmall] using hk
  simp only [Rows.uptoBulkAll] at hb
  have k0 := h0
  have lt0 : ∀ x ∈ p0, x.block < W.heap.size := by obtain ⟨m, hm⟩ := k0; exact DataW.trod_lt m _ _ _ hm
  obtain ⟨⟨c0⟩, rfl, _⟩ := okWide_struct Try.underlying25 (hval 0 25 v0 rfl rfl)
  obtain ⟨T, C, vT, vC, rc, ec0, hvT, hvC, hrc, hrT, hrC, hw0⟩ : ∃ (T : List Ty4) (C : List Cls) (vT vC : Value) (rc : List (List Value)), c0 = [vT, vC] /\ HSl (heapOf W) vT 4 (tyR T) /\ HSl (heapOf W) vC 5 rc /\ ClsC (heapOf W) C rc /\ (∀ t ∈ T, inR .i64 t.2.1) /\ (∀ c ∈ C, inR .i64 c.2.2.1) /\ (T.map tyW).sum + (C.map clW).sum + 1 <= 1 * Rows.uptoBulk d0 := by
    obtain ⟨fuel, hf⟩ := h0
    exact sch_open (by simpa [Value.cells] using hf)
  subst ec0
  have k1 := h1
  have lt1 : ∀ x ∈ p1, x.block < W.heap.size := by obtain ⟨m, hm⟩ := k1; exact DataW.trod_lt m _ _ _ hm
  obtain ⟨L1, sl1, hw1⟩ : ∃ L : List (List UInt8), HSl (heapOf W) v1 1 (strsR L) /\ txW L + 1 <= 1 * Rows.uptoBulk d1 := by
    obtain ⟨fuel, hf⟩ := h1
    have hcl : v1.cells.toList = [v1] := by
      obtain ⟨A, n, c, rfl⟩ := okWide_slice Try.underlying29 (hval 1 29 v1 rfl rfl)
      rfl
    exact txs_open (by rw [<- hcl]; exact hf)
  clear hA0 hval0
  have hlaw := (law_SchemaWants T C vT vC v1 rc L1 (scB_of (by omega)) (fun w h => by have := txW_mem h; omega) (by have := txW_len L1; omega) (heapOf W) hvT hvC hrc sl1).law
  refine hlaw.mono fun e W' ⟨he, bel⟩ => ?_
  subst he
  exact ⟨_, rfl, _, _, _, [], _, [], hW', trodAll_mk1 (shut_bool Try.underlying4 _), (trodAll_cons_mk (Below.trod laidOut_SchemaWants (by kernel_rfl) (of_decide_eq_true (by kernel_rfl)) k0 bel lt0) (trodAll_cons_mk (Below.trod laidOut_SchemaWants (by kernel_rfl) (of_decide_eq_true (by kernel_rfl)) k1 bel lt1) trodAll_mk0)), rfl, bel.frame _, fun h => by cases h⟩

theorem SchemaWants_holds : Rows.SchemaWantsUptoSaid :=
  OpenClaim.holds_of_cond 4 Try.f4 rfl rfl rfl rfl rfl rfl rfl ⟨rfl, rfl, rfl, rfl, rfl⟩ rfl rfl rfl rfl rfl (by kernel_rfl) Try.func4 (by kernel_rfl)
    (of_decide_eq_true (by kernel_rfl)) (by unfold Func.isWrapper; first | (rw [if_pos Zw]; kernel_rfl) | (rw [if_neg Zw]; exact ⟨rfl, rfl⟩))
    (fun os started H enc _ F0 => lifted_SchemaWants os started H enc F0)
end Go.Proofs.Ytfmekdmpghhegaa
