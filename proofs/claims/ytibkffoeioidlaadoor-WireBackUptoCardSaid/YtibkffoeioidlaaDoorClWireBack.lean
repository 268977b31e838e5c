/- The statement WireBack: a message's bytes are read as the message, also out of a stream, in pieces: proved for every run; condition: the two tables hold what the package's text lays (the card ties that); what comes in is of bulk at most 1048576, as the row says. -/
import Derived.Test.YtibkffoeioidlaaDoorRows
import Derived.Test.YtibkffoeioidlaaDoorTie
import Derived.Test.YtibkffoeioidlaaDoorCards
import Derived.Test.YtibkffoeioidlaaDoorXaA
import Derived.Test.YtibkffoeioidlaaDoorFlOpen
import Derived.Test.YtibkffoeioidlaaDoorMsOpen
import Derived.Below
import Derived.ChangeMaps
import Derived.Lay
import Derived.SevenTiedAt
import Derived.Deep.DeepHandedRow
namespace Go.Proofs.YtibkffoeioidlaaDoor
set_option linter.all false
set_option maxRecDepth 4000
open Go.ChangeShapes Go.WideShapes Go.ChangeAt Go.RowKit
open Go.ChangeMaps (open_string shut_string)

theorem own_WireBack : ownKnob Tryd.prog.godebug = none := by kernel_rfl
theorem laidOut_WireBack : laidOutB Tryd.prog = true := by kernel_rfl
set_option maxRecDepth 100000 in
theorem lifted_WireBack (os : Os) (started : os.Started) (H : Type) (enc : TypeId × Value -> H) (F0 : Stop.Interp) :
    ReturnsInHanded {} Tryd.checked os 7 .any ((Rows.OpenSpec.upto Rows.wireBackSpec).preRow enc Tryd.prog Tryd.f7 Rows.wireBackUptoRow.domain false laidL) (((Rows.OpenSpec.upto Rows.wireBackSpec).at F0).post enc Tryd.prog Tryd.f7 false true false false) := by
  have hx : DataW.whole enc Tryd.prog ((World.laidAll Tryd.prog os laidL).forCall (fun _ _ => 0) ⟨#[], #[.agg #[.int .i64 0, .int .i64 0, .string ⟨#[]⟩, .int .i64 0, .bool false, .string ⟨#[]⟩, .string ⟨#[]⟩, .int .i64 0, .int .i64 0, .int .i64 0, .int .i64 0, .bool false, .int .i64 0, .string ⟨#[]⟩, .string ⟨#[]⟩, .slice none 0 0, .slice none 0 0, .slice none 0 0, .slice none 0 0, .slice none 0 0, .string ⟨#[]⟩, .bool false, .bool false, .string ⟨#[]⟩, .string ⟨#[]⟩, .int .i64 0, .string ⟨#[]⟩, .bool false, .string ⟨#[]⟩, .int .i64 0, .string ⟨#[]⟩, .slice none 0 0], .int .i64 0], []⟩).memory Tryd.f7.params.toList Rows.wireBackSpec.vars false #[.agg #[.int .i64 0, .int .i64 0, .string ⟨#[]⟩, .int .i64 0, .bool false, .string ⟨#[]⟩, .string ⟨#[]⟩, .int .i64 0, .int .i64 0, .int .i64 0, .int .i64 0, .bool false, .int .i64 0, .string ⟨#[]⟩, .string ⟨#[]⟩, .slice none 0 0, .slice none 0 0, .slice none 0 0, .slice none 0 0, .slice none 0 0, .string ⟨#[]⟩, .bool false, .bool false, .string ⟨#[]⟩, .string ⟨#[]⟩, .int .i64 0, .string ⟨#[]⟩, .bool false, .string ⟨#[]⟩, .int .i64 0, .string ⟨#[]⟩, .slice none 0 0], .int .i64 0].toList 8 = some (([.agg [.lit (.int .i64 0), .lit (.int .i64 0), .lit (.string []), .lit (.int .i64 0), .lit (.bool false), .lit (.string []), .lit (.string []), .lit (.int .i64 0), .lit (.int .i64 0), .lit (.int .i64 0), .lit (.int .i64 0), .lit (.bool false), .agg [.lit (.int .i64 0), .lit (.string []), .lit (.string []), .nil, .nil], .nil, .nil, .nil, .lit (.string []), .lit (.bool false), .lit (.bool false), .lit (.string []), .lit (.string []), .lit (.int .i64 0), .lit (.string []), .lit (.bool false), .lit (.string []), .lit (.int .i64 0), .lit (.string []), .nil], .lit (.int .i64 0)], [], [])) := by kernel_rfl
  refine returnsInHanded_of_row (C := Tryd.checked) (s := Rows.OpenSpec.upto Rows.wireBackSpec) own_WireBack started (by kernel_rfl) Tryd.func7
    (witness_row_at (enc := enc) (C := Tryd.checked) false (World.laidAll Tryd.prog os laidL) #[.agg #[.int .i64 0, .int .i64 0, .string ⟨#[]⟩, .int .i64 0, .bool false, .string ⟨#[]⟩, .string ⟨#[]⟩, .int .i64 0, .int .i64 0, .int .i64 0, .int .i64 0, .bool false, .int .i64 0, .string ⟨#[]⟩, .string ⟨#[]⟩, .slice none 0 0, .slice none 0 0, .slice none 0 0, .slice none 0 0, .slice none 0 0, .string ⟨#[]⟩, .bool false, .bool false, .string ⟨#[]⟩, .string ⟨#[]⟩, .int .i64 0, .string ⟨#[]⟩, .bool false, .string ⟨#[]⟩, .int .i64 0, .string ⟨#[]⟩, .slice none 0 0], .int .i64 0] (World.laidAll_os _ _ _) (by kernel_rfl) (by kernel_rfl) (by kernel_rfl)
      (OpenSpec.preRow_of_cond 8 hx (by kernel_rfl) (fun k hk => by cases hk; kernel_rfl) (by kernel_rfl) (by rw [MakeChecks.laidMetH_plain _ _ _ (by kernel_rfl)]; exact laidMet_laidAll _ (by kernel_rfl) (by kernel_rfl)))) ?_
  intro W base args ds gs before hval0 hW hcnd hcond hsz hL _ _
  have hval : ∀ (j : Nat) t v, Tryd.f7.params[j]? = some t -> args[j]? = some v -> Value.okWide Tryd.prog W .any base t v := hval0
  have hW' := hW
  obtain ⟨p, q, hA0, hV, rfl, hfz, hnd⟩ := hW
  have hA : DataW.TrodAll enc Tryd.prog W 0 (fun _ => true) true Tryd.f7.params.toList args.toList ds p := hA0
  rw [Tryd.params7] at hA hval
  obtain ⟨v0, vs0, d0, ds0, p0, q0, hargs, rfl, rfl, h0, t0⟩ := trodAll_cons hA
  obtain ⟨v1, vs1, d1, ds1, p1, q1, rfl, rfl, rfl, h1, t1⟩ := trodAll_cons t0
  obtain ⟨rfl, rfl, rfl⟩ := trodAll_nil t1
  obtain rfl : args = #[v0, v1] := by cases args; simp_all
  obtain ⟨rfl, rfl⟩ := trodVars_none hV
  have hb : Rows.uptoBulkAll [d0, d1] <= 1048576 := by simpa [Rows.uptoSmall] using hcond _ rfl
  simp only [Rows.uptoBulkAll] at hb
  have k0 := h0
  have lt0 : ∀ x ∈ p0, x.block < W.heap.size := by obtain ⟨m, hm⟩ := k0; exact DataW.trod_lt m _ _ _ hm
  obtain ⟨⟨c0⟩, rfl, _⟩ := okWide_struct Tryd.underlying51 (hval 0 51 v0 rfl rfl)
  obtain ⟨M0, pv0, kv0, nv0, av0, mv0, cv0, ec0, V0, I0, hw0⟩ : ∃ (m : Ms) (pv kv nv av mv cv : Value), c0 = msR m pv kv nv av mv cv /\ MsV (heapOf W) m pv kv nv av mv cv /\ MsI m /\ m.wt <= Rows.uptoBulk d0 := by
    obtain ⟨fuel, hf⟩ := h0
    exact ms_open (by simpa [Value.cells] using hf)
  subst ec0
  obtain ⟨a1, rfl, rfl, rfl, w1⟩ := open_int Tryd.underlying3 (hval 1 3 v1 rfl rfl) h1
  have r1 := inR_of_wf w1
  have hT := tabs_of hL
  clear hA0 hval0
  have hlaw := (law_WireBack M0 I0 (by omega) a1 r1 pv0 kv0 nv0 av0 mv0 cv0 (heapOf W) hT V0).law
  refine hlaw.mono fun e W' ⟨he, bel⟩ => ?_
  subst he
  exact ⟨_, rfl, _, _, _, [], _, [], hW', trodAll_mk1 (shut_bool Tryd.underlying4 _), (trodAll_cons_mk (Below.trod laidOut_WireBack (by kernel_rfl) (of_decide_eq_true (by kernel_rfl)) k0 bel lt0) (trodAll_cons_mk (shut_int Tryd.underlying3 w1) trodAll_mk0)), rfl, bel.frame _, fun h => by cases h⟩

theorem said_WireBack : Rows.WireBackUptoSaid :=
  OpenClaim.holds_of_cond 7 Tryd.f7 rfl rfl rfl rfl rfl rfl rfl ⟨rfl, rfl, rfl, rfl, rfl⟩ rfl rfl rfl rfl rfl (by kernel_rfl) Tryd.func7 (by kernel_rfl)
    (of_decide_eq_true (by kernel_rfl)) (by unfold Func.isWrapper; first | (rw [if_pos Zw]; kernel_rfl) | (rw [if_neg Zw]; exact ⟨rfl, rfl⟩))
    (fun os started H enc _ F0 => by rw [OpenClaim.pre_eq_preRow]; exact lifted_WireBack os started H enc F0)
theorem WireBack_holds : Rows.WireBackUptoCardSaid :=
  Claim7.holds_tied_plain_at .later [] _ _ _ _ said_WireBack (fun _ h => by cases h) (by kernel_rfl) (fun _ h => by cases h) wireBackUpto_row_tie rfl ⟨rfl, rfl⟩ (by kernel_rfl) rfl
    (fun f fn hf hfn => by
      obtain rfl : f = 7 := Option.some.inj ((show Tryd.prog.funcNamed "castellan/castellanlaw11.WireBack" = some 7 by kernel_rfl).symm.trans hf) |>.symm
      obtain rfl : fn = Tryd.f7 := (Option.some.inj (Tryd.func7.symm.trans hfn)).symm
      exact ⟨by kernel_rfl, fun j t ht => by
        rw [Tryd.params7] at ht
        have hm : t ∈ [51, 3] := by simpa using Array.mem_of_getElem? ht
        have hall : ([51, 3].all fun u => !Tryd.prog.wantsStandIn u) = true := by kernel_rfl
        exact (show Tryd.prog.wantsStandIn t = false by simpa using List.all_eq_true.1 hall t hm)⟩)
    (by kernel_rfl)
end Go.Proofs.YtibkffoeioidlaaDoor
