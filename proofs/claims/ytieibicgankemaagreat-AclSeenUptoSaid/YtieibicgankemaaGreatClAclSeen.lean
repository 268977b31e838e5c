/- The statement AclSeen: what anybody may see of any attributes: proved for every run; condition: what comes in is of bulk at most 1048576, as the row says. -/
import Derived.Test.YtieibicgankemaaGreatRows
import Derived.Test.YtieibicgankemaaGreatAcL
import Derived.Test.YtieibicgankemaaGreatDnOpen
import Derived.Below
import Derived.ChangeMaps
import Derived.Test.YtieibicgankemaaGreatAcOpen
import Derived.JoinedOf
import Derived.JoinedAt
import Derived.JoinedCond
namespace Go.Proofs.YtieibicgankemaaGreat
set_option linter.all false
set_option maxRecDepth 4000
open Go.ChangeShapes Go.WideShapes Go.ChangeAt Go.RowKit
open Go.ChangeMaps (open_string shut_string)

theorem own_AclSeen : ownKnob Tryz.prog.godebug = none := by kernel_rfl

theorem laidOut_AclSeen : laidOutB Tryz.prog = true := by kernel_rfl

set_option maxRecDepth 100000 in
theorem lifted_AclSeen (os : Os) (started : os.Started) (H : Type) (enc : TypeId × Value -> H) (F0 : Stop.Interp) :
    ReturnsInHanded {} Tryz.checked os 3 .any ((Rows.OpenSpec.upto Rows.aclSeenSpec).pre6 enc Tryz.prog Tryz.f3 Rows.aclSeenUptoRow.domain false) (((Rows.OpenSpec.upto Rows.aclSeenSpec).at F0).post enc Tryz.prog Tryz.f3 false true false false) := by
  refine returnsInHanded_of_cond (C := Tryz.checked) (s := Rows.OpenSpec.upto Rows.aclSeenSpec) (k := Rows.uptoSmall) rfl own_AclSeen started (by kernel_rfl) Tryz.func3
    (OpenSpec.witness (enc := enc) (C := Tryz.checked) (s := Rows.OpenSpec.upto Rows.aclSeenSpec) (k := Rows.uptoSmall) rfl false ⟨#[], #[.agg #[.slice none 0 0, .slice none 0 0, .slice none 0 0, .slice none 0 0, .string ⟨#[]⟩, .int .i64 0], .slice none 0 0], []⟩ 8 (by kernel_rfl) (by kernel_rfl) (by kernel_rfl)
      (x := (([.agg [.nil, .nil, .nil, .nil, .lit (.string []), .lit (.int .i64 0)], .nil], [], []))) (by kernel_rfl) (by kernel_rfl) (by kernel_rfl)) ?_
  intro W base args ds gs before hval0 hW hcnd hk _
  have hval : ∀ (j : Nat) t v, Tryz.f3.params[j]? = some t -> args[j]? = some v -> Value.okWide Tryz.prog W .any base t v := hval0
  have hW' := hW
  obtain ⟨p, q, hA0, hV, rfl, hfz, hnd⟩ := hW
  have hA : DataW.TrodAll enc Tryz.prog W 0 (fun _ => true) true Tryz.f3.params.toList args.toList ds p := hA0
  rw [Tryz.params3] at hA hval
  obtain ⟨v0, vs0, d0, ds0, p0, q0, hargs, rfl, rfl, h0, t0⟩ := trodAll_cons hA
  obtain ⟨v1, vs1, d1, ds1, p1, q1, rfl, rfl, rfl, h1, t1⟩ := trodAll_cons t0
  obtain ⟨rfl, rfl, rfl⟩ := trodAll_nil t1
  obtain rfl : args = #[v0, v1] := by cases args; simp_all
  obtain ⟨rfl, rfl⟩ := trodVars_none hV
  have hb : Rows.uptoBulkAll [d0, d1] <= 1048576 := by simpa [Rows.uptoSmall] using hk
  simp only [Rows.uptoBulkAll] at hb
  have k0 := h0
  have lt0 : ∀ x ∈ p0, x.block < W.heap.size := by obtain ⟨m, hm⟩ := k0; exact DataW.trod_lt m _ _ _ hm
  obtain ⟨⟨c0⟩, rfl, _⟩ := okWide_struct Tryz.underlying26 (hval 0 26 v0 rfl rfl)
  obtain ⟨D1, D2, D3, rs, attr, right, u1, u2, u3, uR, ec0, hD1, hD2, hD3, hR, hw0⟩ : ∃ (a b c : Dn) (rs : List Rl) (attr : List UInt8) (right : Int) (v1 v2 v3 vR : Value), c0 = [v1, v2, v3, vR, Go.Proofs.YtieibicgankemaaGreat.str attr, .int .i64 right] /\ DnC (heapOf W) a v1 /\ DnC (heapOf W) b v2 /\ DnC (heapOf W) c v3 /\ HSl (heapOf W) vR 6 (rlR rs) /\ dnW a + dnW b + dnW c + attr.length + (rs.map rlW).sum <= 3 * Rows.uptoBulk d0 := by
    obtain ⟨fuel, hf⟩ := h0
    exact case_open (by simpa [Value.cells] using hf)
  subst ec0
  have k1 := h1
  have lt1 : ∀ x ∈ p1, x.block < W.heap.size := by obtain ⟨m, hm⟩ := k1; exact DataW.trod_lt m _ _ _ hm
  obtain ⟨as1, sl1, hw1⟩ : ∃ l : List Atr, AtrsC (heapOf W) l v1 /\ (l.map atrW).sum + 1 <= 1 * Rows.uptoBulk d1 := by
    obtain ⟨fuel, hf⟩ := h1
    have hcl : v1.cells.toList = [v1] := by
      obtain ⟨A, n, c, rfl⟩ := okWide_slice Tryz.underlying27 (hval 1 27 v1 rfl rfl)
      rfl
    exact atrs_open (by rw [<- hcl]; exact hf)
  clear hA0 hval0
  have hlaw := (law_AclSeen D1 D2 D3 rs attr right as1 u1 u2 u3 uR v1 (rlB_of (by omega)) (by omega) (by omega) (by omega) (by omega) (atrB_of (by omega)) (heapOf W) hD1 hD2 hD3 hR sl1).law
  refine hlaw.mono fun e W' ⟨he, bel⟩ => ?_
  subst he
  exact ⟨_, rfl, _, _, _, [], _, [], hW', trodAll_mk1 (shut_bool Tryz.underlying4 _), (trodAll_cons_mk (Below.trod laidOut_AclSeen (by kernel_rfl) (of_decide_eq_true (by kernel_rfl)) k0 bel lt0) (trodAll_cons_mk (Below.trod laidOut_AclSeen (by kernel_rfl) (of_decide_eq_true (by kernel_rfl)) k1 bel lt1) trodAll_mk0)), rfl, bel.frame _, fun h => by cases h⟩

theorem AclSeen_holds : Rows.AclSeenUptoSaid :=
  OpenClaim.holds_of_cond 3 Tryz.f3 rfl rfl rfl rfl rfl rfl rfl ⟨rfl, rfl, rfl, rfl, rfl⟩ rfl rfl rfl rfl rfl (by kernel_rfl) Tryz.func3 (by kernel_rfl)
    (of_decide_eq_true (by kernel_rfl)) (by unfold Func.isWrapper; first | (rw [if_pos Zw]; kernel_rfl) | (rw [if_neg Zw]; exact ⟨rfl, rfl⟩))
    (fun os started H enc _ F0 => lifted_AclSeen os started H enc F0)
end Go.Proofs.YtieibicgankemaaGreat
