/- The statement AclMays: whether anybody may do anything with any entry, by any rules: proved for every run; condition: what comes in is of bulk at most 1048576, as the row says. -/
import Derived.Test.YtieibicgankemaaRows
import Derived.Test.YtieibicgankemaaAcH
import Derived.Test.YtieibicgankemaaDnOpen
import Derived.Below
import Derived.ChangeMaps
import Derived.Test.YtieibicgankemaaAcOpen
import Derived.JoinedOf
import Derived.JoinedAt
import Derived.JoinedCond
namespace Go.Proofs.Ytieibicgankemaa
set_option linter.all false
set_option maxRecDepth 4000
open Go.ChangeShapes Go.WideShapes Go.ChangeAt Go.RowKit
open Go.ChangeMaps (open_string shut_string)

theorem own_AclMays : ownKnob Try.prog.godebug = none := by kernel_rfl

theorem laidOut_AclMays : laidOutB Try.prog = true := by kernel_rfl

set_option maxRecDepth 100000 in
theorem lifted_AclMays (os : Os) (started : os.Started) (H : Type) (enc : TypeId × Value -> H) (F0 : Stop.Interp) :
    ReturnsInHanded {} Try.checked os 4 .any ((Rows.OpenSpec.upto Rows.aclMaysSpec).pre6 enc Try.prog Try.f4 Rows.aclMaysUptoRow.domain false) (((Rows.OpenSpec.upto Rows.aclMaysSpec).at F0).post enc Try.prog Try.f4 false true false false) := by
  refine returnsInHanded_of_cond (C := Try.checked) (s := Rows.OpenSpec.upto Rows.aclMaysSpec) (k := Rows.uptoSmall) rfl own_AclMays started (by kernel_rfl) Try.func4
    (OpenSpec.witness (enc := enc) (C := Try.checked) (s := Rows.OpenSpec.upto Rows.aclMaysSpec) (k := Rows.uptoSmall) rfl false ⟨#[], #[.agg #[.slice none 0 0, .slice none 0 0, .slice none 0 0, .slice none 0 0, .string ⟨#[]⟩, .int .i64 0]], []⟩ 8 (by kernel_rfl) (by kernel_rfl) (by kernel_rfl)
      (x := (([.agg [.nil, .nil, .nil, .nil, .lit (.string []), .lit (.int .i64 0)]], [], []))) (by kernel_rfl) (by kernel_rfl) (by kernel_rfl)) ?_
  intro W base args ds gs before hval0 hW hcnd hk _
  have hval : ∀ (j : Nat) t v, Try.f4.params[j]? = some t -> args[j]? = some v -> Value.okWide Try.prog W .any base t v := hval0
  have hW' := hW
  obtain ⟨p, q, hA0, hV, rfl, hfz, hnd⟩ := hW
  have hA : DataW.TrodAll enc Try.prog W 0 (fun _ => true) true Try.f4.params.toList args.toList ds p := hA0
  rw [Try.params4] at hA hval
  obtain ⟨v0, vs0, d0, ds0, p0, q0, hargs, rfl, rfl, h0, t0⟩ := trodAll_cons hA
  obtain ⟨rfl, rfl, rfl⟩ := trodAll_nil t0
  obtain rfl : args = #[v0] := by cases args; simp_all
  obtain ⟨rfl, rfl⟩ := trodVars_none hV
  have hb : Rows.uptoBulkAll [d0] <= 1048576 := by simpa [Rows.uptoSmall] using hk
  simp only [Rows.uptoBulkAll] at hb
  have k0 := h0
  have lt0 : ∀ x ∈ p0, x.block < W.heap.size := by obtain ⟨m, hm⟩ := k0; exact DataW.trod_lt m _ _ _ hm
  obtain ⟨⟨c0⟩, rfl, _⟩ := okWide_struct Try.underlying26 (hval 0 26 v0 rfl rfl)
  obtain ⟨D1, D2, D3, rs, attr, right, u1, u2, u3, uR, ec0, hD1, hD2, hD3, hR, hw0⟩ : ∃ (a b c : Dn) (rs : List Rl) (attr : List UInt8) (right : Int) (v1 v2 v3 vR : Value), c0 = [v1, v2, v3, vR, Go.Proofs.Ytieibicgankemaa.str attr, .int .i64 right] /\ DnC (heapOf W) a v1 /\ DnC (heapOf W) b v2 /\ DnC (heapOf W) c v3 /\ HSl (heapOf W) vR 6 (rlR rs) /\ dnW a + dnW b + dnW c + attr.length + (rs.map rlW).sum <= 3 * Rows.uptoBulk d0 := by
    obtain ⟨fuel, hf⟩ := h0
    exact case_open (by simpa [Value.cells] using hf)
  subst ec0
  clear hA0 hval0
  have hlaw := (law_AclMays D1 D2 D3 rs attr right u1 u2 u3 uR (rlB_of (by omega)) (by omega) (by omega) (by omega) (by omega) (heapOf W) hD1 hD2 hD3 hR).law
  refine hlaw.mono fun e W' ⟨he, bel⟩ => ?_
  subst he
  exact ⟨_, rfl, _, _, _, [], _, [], hW', trodAll_mk1 (shut_bool Try.underlying4 _), (trodAll_cons_mk (Below.trod laidOut_AclMays (by kernel_rfl) (of_decide_eq_true (by kernel_rfl)) k0 bel lt0) trodAll_mk0), rfl, bel.frame _, fun h => by cases h⟩

theorem AclMays_holds : Rows.AclMaysUptoSaid :=
  OpenClaim.holds_of_cond 4 Try.f4 rfl rfl rfl rfl rfl rfl rfl ⟨rfl, rfl, rfl, rfl, rfl⟩ rfl rfl rfl rfl rfl (by kernel_rfl) Try.func4 (by kernel_rfl)
    (of_decide_eq_true (by kernel_rfl)) (by unfold Func.isWrapper; first | (rw [if_pos Zw]; kernel_rfl) | (rw [if_neg Zw]; exact ⟨rfl, rfl⟩))
    (fun os started H enc _ F0 => lifted_AclMays os started H enc F0)
end Go.Proofs.Ytieibicgankemaa
