/- The statement JournalResets: wherever the power fails in a Reset, the records that were there, or those that it lays, are there: proved for every run; condition: the two tables hold what the package's text lays (the card ties that). -/
import Derived.Test.YtmbpjgjajedonaaGreatDoorRows
import Derived.Test.YtmbpjgjajedonaaGreatDoorTie
import Derived.Test.YtmbpjgjajedonaaGreatDoorCards
import Derived.Test.YtmbpjgjajedonaaGreatDoorJpP
import Derived.Test.YtmbpjgjajedonaaGreatDoorCuOpen
import Derived.Below
import Derived.ChangeMaps
import Derived.Lay
import Derived.SevenTiedAt
namespace Go.Proofs.YtmbpjgjajedonaaGreatDoor
set_option linter.all false
set_option maxRecDepth 4000
open Go.ChangeShapes Go.WideShapes Go.ChangeAt Go.RowKit
open Go.ChangeMaps (open_string shut_string)

theorem own_JournalResets : ownKnob Tryz.prog.godebug = none := by kernel_rfl
theorem laidOut_JournalResets : laidOutB Tryz.prog = true := by kernel_rfl
set_option maxRecDepth 100000 in
theorem lifted_JournalResets (os : Os) (started : os.Started) (H : Type) (enc : TypeId × Value -> H) :
    ReturnsInHanded {} Tryz.checked os 4 .any (fun w args => (Rows.journalResetsSpec.pre enc Tryz.prog Tryz.f4 Rows.journalResetsRow.domain false w args /\ laidMetH Tryz.prog laidL w) /\ sizedMet enc Tryz.prog Tryz.f4 (OpenSpec.ofChange Rows.journalResetsSpec) false w args)
      (Rows.journalResetsSpec.post enc Tryz.prog Tryz.f4 false true false false) := by
  refine returnsInHanded_of_change_and (C := Tryz.checked) (X := fun w _ => laidMetH Tryz.prog laidL w) (fun _ _ _ hh h => h.of_heap hh) own_JournalResets started (by kernel_rfl) Tryz.func4
    (ChangeSpec.witness_shaped (enc := enc) (C := Tryz.checked) (os := os) (X := fun w _ => laidMetH Tryz.prog laidL w) false (World.laidAll Tryz.prog os laidL) #[.slice none 0 0, .slice none 0 0, .agg #[.int .i64 0, .int .u64 0, .int .i64 0, .int .i64 0]] 8 (World.laidAll_os _ _ _)
      (World.shaped_of_ZipB (by kernel_rfl) (by kernel_rfl)) (by kernel_rfl) (by kernel_rfl) (by kernel_rfl)
      (by rw [MakeChecks.laidMetH_plain _ _ _ (by kernel_rfl)]; exact laidMet_laidAll _ (by kernel_rfl) (by kernel_rfl))) ?_
  intro W base args ds gs before hval0 hW hcnd _ hL _
  have hval : ∀ (j : Nat) t v, Tryz.f4.params[j]? = some t -> args[j]? = some v -> Value.okWide Tryz.prog W .any base t v := hval0
  have hW' := hW
  obtain ⟨p, q, hA0, hV, rfl, hfz, hnd⟩ := hW
  have hA : DataW.TrodAll enc Tryz.prog W 0 (fun _ => true) true Tryz.f4.params.toList args.toList ds p := hA0
  rw [Tryz.params4] at hA hval
  obtain ⟨v0, vs0, d0, ds0, p0, q0, hargs, rfl, rfl, h0, t0⟩ := trodAll_cons hA
  obtain ⟨v1, vs1, d1, ds1, p1, q1, rfl, rfl, rfl, h1, t1⟩ := trodAll_cons t0
  obtain ⟨v2, vs2, d2, ds2, p2, q2, rfl, rfl, rfl, h2, t2⟩ := trodAll_cons t1
  obtain ⟨rfl, rfl, rfl⟩ := trodAll_nil t2
  obtain rfl : args = #[v0, v1, v2] := by cases args; simp_all
  obtain ⟨rfl, rfl⟩ := trodVars_none hV
  have k0 := h0
  have lt0 : ∀ x ∈ p0, x.block < W.heap.size := by obtain ⟨m, hm⟩ := k0; exact DataW.trod_lt m _ _ _ hm
  obtain ⟨L0, sl0, I0⟩ : ∃ l : List (List UInt8), HSl (heapOf W) v0 1 (strsR l) /\ (∀ b ∈ l, b.length <= 9223372036854775807) := by
    obtain ⟨fuel, hf⟩ := h0
    have hcl : v0.cells.toList = [v0] := by
      obtain ⟨A, n, c, rfl⟩ := okWide_slice Tryz.underlying22 (hval 0 22 v0 rfl rfl)
      rfl
    exact strs6_open (by rw [<- hcl]; exact hf)
  have k1 := h1
  have lt1 : ∀ x ∈ p1, x.block < W.heap.size := by obtain ⟨m, hm⟩ := k1; exact DataW.trod_lt m _ _ _ hm
  obtain ⟨L1, sl1, I1⟩ : ∃ l : List (List UInt8), HSl (heapOf W) v1 1 (strsR l) /\ (∀ b ∈ l, b.length <= 9223372036854775807) := by
    obtain ⟨fuel, hf⟩ := h1
    have hcl : v1.cells.toList = [v1] := by
      obtain ⟨A, n, c, rfl⟩ := okWide_slice Tryz.underlying22 (hval 1 22 v1 rfl rfl)
      rfl
    exact strs6_open (by rw [<- hcl]; exact hf)
  have k2 := h2
  have lt2 : ∀ x ∈ p2, x.block < W.heap.size := by obtain ⟨m, hm⟩ := k2; exact DataW.trod_lt m _ _ _ hm
  obtain ⟨⟨c2⟩, rfl, _⟩ := okWide_struct Tryz.underlying34 (hval 2 34 v2 rfl rfl)
  obtain ⟨C2, ec2, I2⟩ : ∃ c : Cu6, c2 = c.vals /\ c.Ok := by
    obtain ⟨fuel, hf⟩ := h2
    obtain ⟨c, e, k, _⟩ := cut_open6 (by simpa [Value.cells] using hf)
    exact ⟨c, e, k⟩
  subst ec2
  have hT := tabs_of hL
  clear hA0 hval0
  have hlaw := (law_JournalResets L0 L1 I0 I1 C2 I2 _ _ (heapOf W) sl0 sl1).law
  refine hlaw.mono fun e W' ⟨he, bel⟩ => ?_
  subst he
  exact ⟨_, rfl, _, _, _, [], _, [], hW', trodAll_mk1 (shut_bool Tryz.underlying4 _), (trodAll_cons_mk (Below.trod laidOut_JournalResets (by kernel_rfl) (of_decide_eq_true (by kernel_rfl)) k0 bel lt0) (trodAll_cons_mk (Below.trod laidOut_JournalResets (by kernel_rfl) (of_decide_eq_true (by kernel_rfl)) k1 bel lt1) (trodAll_cons_mk (Below.trod laidOut_JournalResets (by kernel_rfl) (of_decide_eq_true (by kernel_rfl)) k2 bel lt2) trodAll_mk0))), rfl, bel.frame _, fun h => by cases h⟩

theorem said_JournalResets : Rows.JournalResetsSaid :=
  OpenClaim.holds_of_wide 4 Tryz.f4 rfl rfl rfl rfl rfl rfl rfl ⟨rfl, rfl, rfl, rfl, rfl⟩ rfl rfl rfl rfl rfl (by kernel_rfl) Tryz.func4 (by kernel_rfl)
    (of_decide_eq_true (by kernel_rfl)) (by unfold Func.isWrapper; first | (rw [if_pos Zw]; kernel_rfl) | (rw [if_neg Zw]; exact ⟨rfl, rfl⟩))
    (fun os started H enc _ => lifted_JournalResets os started H enc)
theorem JournalResets_holds : Rows.JournalResetsCardSaid :=
  Claim7.holds_tied_plain_at .later [] _ _ _ _ said_JournalResets (fun _ h => by cases h) (by kernel_rfl) (fun _ h => by cases h) journalResets_row_tie rfl ⟨rfl, rfl⟩ (by kernel_rfl) rfl
    (fun f fn hf hfn => by
      obtain rfl : f = 4 := Option.some.inj ((show Tryz.prog.funcNamed "castellan/castellanlaw06.JournalResets" = some 4 by kernel_rfl).symm.trans hf) |>.symm
      obtain rfl : fn = Tryz.f4 := (Option.some.inj (Tryz.func4.symm.trans hfn)).symm
      exact ⟨by kernel_rfl, fun j t ht => by
        rw [Tryz.params4] at ht
        have hm : t ∈ [22, 22, 34] := by simpa using Array.mem_of_getElem? ht
        have hall : ([22, 22, 34].all fun u => !Tryz.prog.wantsStandIn u) = true := by kernel_rfl
        exact (show Tryz.prog.wantsStandIn t = false by simpa using List.all_eq_true.1 hall t hm)⟩)
    (by kernel_rfl)
end Go.Proofs.YtmbpjgjajedonaaGreatDoor
