/- The statement SchemaUnion: what must be there of two lists of classes: proved for every run; condition: what comes in is of bulk at most 1048576, as the row says. -/
import Derived.Test.YtfmekdmpghhegaaRows
import Derived.Test.YtfmekdmpghhegaaScX
import Derived.Test.YtfmekdmpghhegaaSlOpen
import Derived.Below
import Derived.ChangeMaps
import Derived.Test.YtfmekdmpghhegaaScOpen
import Derived.JoinedOf
import Derived.JoinedAt
import Derived.JoinedCond
namespace Go.Proofs.Ytfmekdmpghhegaa
set_option linter.all false
set_option maxRecDepth 4000
open Go.ChangeShapes Go.WideShapes Go.ChangeAt Go.RowKit
open Go.ChangeMaps (open_string shut_string)

theorem own_SchemaUnion : ownKnob Try.prog.godebug = none := by kernel_rfl

theorem laidOut_SchemaUnion : laidOutB Try.prog = true := by kernel_rfl

set_option maxRecDepth 100000 in
theorem lifted_SchemaUnion (os : Os) (started : os.Started) (H : Type) (enc : TypeId × Value -> H) (F0 : Stop.Interp) :
    ReturnsInHanded {} Try.checked os 6 .any ((Rows.OpenSpec.upto Rows.schemaUnionSpec).pre6 enc Try.prog Try.f6 Rows.schemaUnionUptoRow.domain false) (((Rows.OpenSpec.upto Rows.schemaUnionSpec).at F0).post enc Try.prog Try.f6 false true false false) := by
  refine returnsInHanded_of_cond (C := Try.checked) (s := Rows.OpenSpec.upto Rows.schemaUnionSpec) (k := Rows.uptoSmall) rfl own_SchemaUnion started (by kernel_rfl) Try.func6
    (OpenSpec.witness (enc := enc) (C := Try.checked) (s := Rows.OpenSpec.upto Rows.schemaUnionSpec) (k := Rows.uptoSmall) rfl false ⟨#[], #[.agg #[.slice none 0 0, .slice none 0 0], .slice none 0 0, .slice none 0 0], []⟩ 8 (by kernel_rfl) (by kernel_rfl) (by kernel_rfl)
      (x := (([.agg [.nil, .nil], .nil, .nil], [], []))) (by kernel_rfl) (by kernel_rfl) (by kernel_rfl)) ?_
  intro W base args ds gs before hval0 hW hcnd hk _
  have hval : ∀ (j : Nat) t v, Try.f6.params[j]? = some t -> args[j]? = some v -> Value.okWide Try.prog W .any base t v := hval0
  have hW' := hW
  obtain ⟨p, q, hA0, hV, rfl, hfz, hnd⟩ := hW
  have hA : DataW.TrodAll enc Try.prog W 0 (fun _ => true) true Try.f6.params.toList args.toList ds p := hA0
  rw [Try.params6] at hA hval
  obtain ⟨v0, vs0, d0, ds0, p0, q0, hargs, rfl, rfl, h0, t0⟩ := trodAll_cons hA
  obtain ⟨v1, vs1, d1, ds1, p1, q1, rfl, rfl, rfl, h1, t1⟩ := trodAll_cons t0
  obtain ⟨v2, vs2, d2, ds2, p2, q2, rfl, rfl, rfl, h2, t2⟩ := trodAll_cons t1
  obtain ⟨rfl, rfl, rfl⟩ := trodAll_nil t2
  obtain rfl : args = #[v0, v1, v2] := by cases args; simp_all
  obtain ⟨rfl, rfl⟩ := trodVars_none hV
  have hb : Rows.uptoBulkAll [d0, d1, d2] <= 1048576 := by simpa [Rows.uptoSmall] using hk
  simp only [Rows.uptoBulkAll] at hb
  have k0 := h0
  have lt0 : ∀ x ∈ p0, x.block < W.heap.size := by obtain ⟨m, hm⟩ := k0; exact DataW.trod_lt m _ _ _ hm
  obtain ⟨⟨c0⟩, rfl, _⟩ := okWide_struct Try.underlying25 (hval 0 25 v0 rfl rfl)
  obtain ⟨T, C, vT, vC, rc, ec0, hvT, hvC, hrc, hrT, hrC, hw0⟩ : ∃ (T : List Ty4) (C : List Cls) (vT vC : Value) (rc : List (List Value)), c0 = [vT, vC] /\ HSl (heapOf W) vT 4 (tyR T) /\ HSl (heapOf W) vC 5 rc /\ ClsC (heapOf W) C rc /\ (∀ t ∈ T, inR .i64 t.2.1) /\ (∀ c ∈ C, inR .i64 c.2.2.1) /\ (T.map tyW).sum + (C.map clW).sum + 1 <= 1 * Rows.uptoBulk d0 := by
    obtain ⟨fuel, hf⟩ := h0
    exact sch_open (by simpa [Value.cells] using hf)
  subst ec0
  have k1 := h1
  have lt1 : ∀ x ∈ p1, x.block < W.heap.size := by obtain ⟨m, hm⟩ := k1; exact DataW.trod_lt m _ _ _ hm
  obtain ⟨L1, sl1, hw1⟩ : ∃ L : List (List UInt8), HSl (heapOf W) v1 1 (strsR L) /\ txW L + 1 <= 1 * Rows.uptoBulk d1 := by
    obtain ⟨fuel, hf⟩ := h1
    have hcl : v1.cells.toList = [v1] := by
      obtain ⟨A, n, c, rfl⟩ := okWide_slice Try.underlying29 (hval 1 29 v1 rfl rfl)
      rfl
    exact txs_open (by rw [<- hcl]; exact hf)
  have k2 := h2
  have lt2 : ∀ x ∈ p2, x.block < W.heap.size := by obtain ⟨m, hm⟩ := k2; exact DataW.trod_lt m _ _ _ hm
  obtain ⟨L2, sl2, hw2⟩ : ∃ L : List (List UInt8), HSl (heapOf W) v2 1 (strsR L) /\ txW L + 1 <= 1 * Rows.uptoBulk d2 := by
    obtain ⟨fuel, hf⟩ := h2
    have hcl : v2.cells.toList = [v2] := by
      obtain ⟨A, n, c, rfl⟩ := okWide_slice Try.underlying29 (hval 2 29 v2 rfl rfl)
      rfl
    exact txs_open (by rw [<- hcl]; exact hf)
  clear hA0 hval0
  have hlaw := (law_SchemaUnion T C vT vC v1 v2 rc L1 L2 (scB_of (by omega)) (fun w h => by have := txW_mem h; omega) (fun w h => by have := txW_mem h; omega) (by have := txW_len L1; omega) (by have := txW_len L2; omega) (heapOf W) hvT hvC hrc sl1 sl2).law
  refine hlaw.mono fun e W' ⟨he, bel⟩ => ?_
  subst he
  exact ⟨_, rfl, _, _, _, [], _, [], hW', trodAll_mk1 (shut_bool Try.underlying4 _), (trodAll_cons_mk (Below.trod laidOut_SchemaUnion (by kernel_rfl) (of_decide_eq_true (by kernel_rfl)) k0 bel lt0) (trodAll_cons_mk (Below.trod laidOut_SchemaUnion (by kernel_rfl) (of_decide_eq_true (by kernel_rfl)) k1 bel lt1) (trodAll_cons_mk (Below.trod laidOut_SchemaUnion (by kernel_rfl) (of_decide_eq_true (by kernel_rfl)) k2 bel lt2) trodAll_mk0))), rfl, bel.frame _, fun h => by cases h⟩

theorem SchemaUnion_holds : Rows.SchemaUnionUptoSaid :=
  OpenClaim.holds_of_cond 6 Try.f6 rfl rfl rfl rfl rfl rfl rfl ⟨rfl, rfl, rfl, rfl, rfl⟩ rfl rfl rfl rfl rfl (by kernel_rfl) Try.func6 (by kernel_rfl)
    (of_decide_eq_true (by kernel_rfl)) (by unfold Func.isWrapper; first | (rw [if_pos Zw]; kernel_rfl) | (rw [if_neg Zw]; exact ⟨rfl, rfl⟩))
    (fun os started H enc _ F0 => lifted_SchemaUnion os started H enc F0)
end Go.Proofs.Ytfmekdmpghhegaa
