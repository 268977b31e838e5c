/- The statement DnBack: a name's text is read as the name; a key is its own key: proved for every run; condition: what comes in is of bulk at most 1048576, as the row says. -/
import Derived.Test.YtahpemfnhepgoaaRows
import Derived.Test.YtahpemfnhepgoaaDnS
import Derived.Test.YtahpemfnhepgoaaSlOpen
import Derived.Below
import Derived.ChangeMaps
import Derived.Test.YtahpemfnhepgoaaDnOpen
import Derived.JoinedOf
import Derived.JoinedAt
import Derived.JoinedCond
namespace Go.Proofs.Ytahpemfnhepgoaa
set_option linter.all false
set_option maxRecDepth 4000
open Go.ChangeShapes Go.WideShapes Go.ChangeAt Go.RowKit
open Go.ChangeMaps (open_string shut_string)

theorem own_DnBack : ownKnob Try.prog.godebug = none := by kernel_rfl

theorem laidOut_DnBack : laidOutB Try.prog = true := by kernel_rfl

set_option maxRecDepth 100000 in
theorem lifted_DnBack (os : Os) (started : os.Started) (H : Type) (enc : TypeId × Value -> H) (F0 : Stop.Interp) :
    ReturnsInHanded {} Try.checked os 6 .any ((Rows.OpenSpec.upto Rows.dnBackSpec).pre6 enc Try.prog Try.f6 Rows.dnBackUptoRow.domain false) (((Rows.OpenSpec.upto Rows.dnBackSpec).at F0).post enc Try.prog Try.f6 false true false false) := by
  refine returnsInHanded_of_cond (C := Try.checked) (s := Rows.OpenSpec.upto Rows.dnBackSpec) (k := Rows.uptoSmall) rfl own_DnBack started (by kernel_rfl) Try.func6
    (OpenSpec.witness (enc := enc) (C := Try.checked) (s := Rows.OpenSpec.upto Rows.dnBackSpec) (k := Rows.uptoSmall) rfl false ⟨#[], #[.slice none 0 0], []⟩ 8 (by kernel_rfl) (by kernel_rfl) (by kernel_rfl)
      (x := ([.nil], [], [])) (by kernel_rfl) (by kernel_rfl) (by kernel_rfl)) ?_
  intro W base args ds gs before hval0 hW hcnd hk _
  have hval : ∀ (j : Nat) t v, Try.f6.params[j]? = some t -> args[j]? = some v -> Value.okWide Try.prog W .any base t v := hval0
  have hW' := hW
  obtain ⟨p, q, hA0, hV, rfl, hfz, hnd⟩ := hW
  have hA : DataW.TrodAll enc Try.prog W 0 (fun _ => true) true Try.f6.params.toList args.toList ds p := hA0
  rw [Try.params6] at hA hval
  obtain ⟨v0, vs0, d0, ds0, p0, q0, hargs, rfl, rfl, h0, t0⟩ := trodAll_cons hA
  obtain ⟨rfl, rfl, rfl⟩ := trodAll_nil t0
  obtain rfl : args = #[v0] := by cases args; simp_all
  obtain ⟨rfl, rfl⟩ := trodVars_none hV
  have hb : Rows.uptoBulkAll [d0] <= 1048576 := by simpa [Rows.uptoSmall] using hk
  simp only [Rows.uptoBulkAll] at hb
  have k0 := h0
  have lt0 : ∀ x ∈ p0, x.block < W.heap.size := by obtain ⟨m, hm⟩ := k0; exact DataW.trod_lt m _ _ _ hm
  obtain ⟨D0, c0, hw0⟩ : ∃ D : Dn, DnC (heapOf W) D v0 /\ dnW D + 1 <= 3 * Rows.uptoBulk d0 := by
    obtain ⟨fuel, hf⟩ := h0
    have hcl : v0.cells.toList = [v0] := by
      obtain ⟨A, n, c, rfl⟩ := okWide_slice Try.underlying23 (hval 0 23 v0 rfl rfl)
      rfl
    exact dn_open (by rw [<- hcl]; exact hf)
  clear hA0 hval0
  have hlaw := (law_DnBack D0 v0 (by omega) (heapOf W) c0).law
  refine hlaw.mono fun e W' ⟨he, bel⟩ => ?_
  subst he
  exact ⟨_, rfl, _, _, _, [], _, [], hW', trodAll_mk1 (shut_bool Try.underlying4 _), (trodAll_cons_mk (Below.trod laidOut_DnBack (by kernel_rfl) (of_decide_eq_true (by kernel_rfl)) k0 bel lt0) trodAll_mk0), rfl, bel.frame _, fun h => by cases h⟩

theorem DnBack_holds : Rows.DnBackUptoSaid :=
  OpenClaim.holds_of_cond 6 Try.f6 rfl rfl rfl rfl rfl rfl rfl ⟨rfl, rfl, rfl, rfl, rfl⟩ rfl rfl rfl rfl rfl (by kernel_rfl) Try.func6 (by kernel_rfl)
    (of_decide_eq_true (by kernel_rfl)) (by unfold Func.isWrapper; first | (rw [if_pos Zw]; kernel_rfl) | (rw [if_neg Zw]; exact ⟨rfl, rfl⟩))
    (fun os started H enc _ F0 => lifted_DnBack os started H enc F0)
end Go.Proofs.Ytahpemfnhepgoaa
