/- The statement DnUnders: whether any name lies under another one; also under its own last RDNs, and with more ahead: proved for every run; condition: what comes in is of bulk at most 1048576, as the row says. -/
import Derived.Test.YtahpemfnhepgoaaRows
import Derived.Test.YtahpemfnhepgoaaDnV
import Derived.Test.YtahpemfnhepgoaaSlOpen
import Derived.Below
import Derived.ChangeMaps
import Derived.Test.YtahpemfnhepgoaaDnOpen
import Derived.JoinedOf
import Derived.JoinedAt
import Derived.JoinedCond
namespace Go.Proofs.Ytahpemfnhepgoaa
set_option linter.all false
set_option maxRecDepth 4000
open Go.ChangeShapes Go.WideShapes Go.ChangeAt Go.RowKit
open Go.ChangeMaps (open_string shut_string)

theorem own_DnUnders : ownKnob Try.prog.godebug = none := by kernel_rfl

theorem laidOut_DnUnders : laidOutB Try.prog = true := by kernel_rfl

set_option maxRecDepth 100000 in
theorem lifted_DnUnders (os : Os) (started : os.Started) (H : Type) (enc : TypeId × Value -> H) (F0 : Stop.Interp) :
    ReturnsInHanded {} Try.checked os 8 .any ((Rows.OpenSpec.upto Rows.dnUndersSpec).pre6 enc Try.prog Try.f8 Rows.dnUndersUptoRow.domain false) (((Rows.OpenSpec.upto Rows.dnUndersSpec).at F0).post enc Try.prog Try.f8 false true false false) := by
  refine returnsInHanded_of_cond (C := Try.checked) (s := Rows.OpenSpec.upto Rows.dnUndersSpec) (k := Rows.uptoSmall) rfl own_DnUnders started (by kernel_rfl) Try.func8
    (OpenSpec.witness (enc := enc) (C := Try.checked) (s := Rows.OpenSpec.upto Rows.dnUndersSpec) (k := Rows.uptoSmall) rfl false ⟨#[], #[.slice none 0 0, .slice none 0 0, .int .i64 0], []⟩ 8 (by kernel_rfl) (by kernel_rfl) (by kernel_rfl)
      (x := ([.nil, .nil, .lit (.int .i64 0)], [], [])) (by kernel_rfl) (by kernel_rfl) (by kernel_rfl)) ?_
  intro W base args ds gs before hval0 hW hcnd hk _
  have hval : ∀ (j : Nat) t v, Try.f8.params[j]? = some t -> args[j]? = some v -> Value.okWide Try.prog W .any base t v := hval0
  have hW' := hW
  obtain ⟨p, q, hA0, hV, rfl, hfz, hnd⟩ := hW
  have hA : DataW.TrodAll enc Try.prog W 0 (fun _ => true) true Try.f8.params.toList args.toList ds p := hA0
  rw [Try.params8] at hA hval
  obtain ⟨v0, vs0, d0, ds0, p0, q0, hargs, rfl, rfl, h0, t0⟩ := trodAll_cons hA
  obtain ⟨v1, vs1, d1, ds1, p1, q1, rfl, rfl, rfl, h1, t1⟩ := trodAll_cons t0
  obtain ⟨v2, vs2, d2, ds2, p2, q2, rfl, rfl, rfl, h2, t2⟩ := trodAll_cons t1
  obtain ⟨rfl, rfl, rfl⟩ := trodAll_nil t2
  obtain rfl : args = #[v0, v1, v2] := by cases args; simp_all
  obtain ⟨rfl, rfl⟩ := trodVars_none hV
  have hb : Rows.uptoBulkAll [d0, d1, d2] <= 1048576 := by simpa [Rows.uptoSmall] using hk
  simp only [Rows.uptoBulkAll] at hb
  have k0 := h0
  have lt0 : ∀ x ∈ p0, x.block < W.heap.size := by obtain ⟨m, hm⟩ := k0; exact DataW.trod_lt m _ _ _ hm
  obtain ⟨D0, c0, hw0⟩ : ∃ D : Dn, DnC (heapOf W) D v0 /\ dnW D + 1 <= 3 * Rows.uptoBulk d0 := by
    obtain ⟨fuel, hf⟩ := h0
    have hcl : v0.cells.toList = [v0] := by
      obtain ⟨A, n, c, rfl⟩ := okWide_slice Try.underlying23 (hval 0 23 v0 rfl rfl)
      rfl
    exact dn_open (by rw [<- hcl]; exact hf)
  have k1 := h1
  have lt1 : ∀ x ∈ p1, x.block < W.heap.size := by obtain ⟨m, hm⟩ := k1; exact DataW.trod_lt m _ _ _ hm
  obtain ⟨D1, c1, hw1⟩ : ∃ D : Dn, DnC (heapOf W) D v1 /\ dnW D + 1 <= 3 * Rows.uptoBulk d1 := by
    obtain ⟨fuel, hf⟩ := h1
    have hcl : v1.cells.toList = [v1] := by
      obtain ⟨A, n, c, rfl⟩ := okWide_slice Try.underlying23 (hval 1 23 v1 rfl rfl)
      rfl
    exact dn_open (by rw [<- hcl]; exact hf)
  obtain ⟨a2, rfl, rfl, rfl, w2⟩ := open_int Try.underlying3 (hval 2 3 v2 rfl rfl) h2
  have r2 := inR_of_wf w2
  clear hA0 hval0
  have hlaw := (law_DnUnders D0 D1 v0 v1 a2 r2 (by omega) (heapOf W) c0 c1).law
  refine hlaw.mono fun e W' ⟨he, bel⟩ => ?_
  subst he
  exact ⟨_, rfl, _, _, _, [], _, [], hW', trodAll_mk1 (shut_bool Try.underlying4 _), (trodAll_cons_mk (Below.trod laidOut_DnUnders (by kernel_rfl) (of_decide_eq_true (by kernel_rfl)) k0 bel lt0) (trodAll_cons_mk (Below.trod laidOut_DnUnders (by kernel_rfl) (of_decide_eq_true (by kernel_rfl)) k1 bel lt1) (trodAll_cons_mk (shut_int Try.underlying3 w2) trodAll_mk0))), rfl, bel.frame _, fun h => by cases h⟩

theorem DnUnders_holds : Rows.DnUndersUptoSaid :=
  OpenClaim.holds_of_cond 8 Try.f8 rfl rfl rfl rfl rfl rfl rfl ⟨rfl, rfl, rfl, rfl, rfl⟩ rfl rfl rfl rfl rfl (by kernel_rfl) Try.func8 (by kernel_rfl)
    (of_decide_eq_true (by kernel_rfl)) (by unfold Func.isWrapper; first | (rw [if_pos Zw]; kernel_rfl) | (rw [if_neg Zw]; exact ⟨rfl, rfl⟩))
    (fun os started H enc _ F0 => lifted_DnUnders os started H enc F0)
end Go.Proofs.Ytahpemfnhepgoaa
