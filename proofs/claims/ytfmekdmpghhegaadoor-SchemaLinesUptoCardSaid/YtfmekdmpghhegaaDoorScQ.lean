/- The document's structural class is the code's; how many texts must be there at most. -/
import Derived.Test.YtfmekdmpghhegaaDoorScN
namespace Go.Proofs.YtfmekdmpghhegaaDoor
set_option linter.all false
set_option maxRecDepth 4000
open Go.RowKit

theorem gtC_in {C : List Cls} {p : Cls -> Prop} (h : ∀ c ∈ C, p c) (h0 : p noCls) (w : List UInt8) : p (gtC C w) := by
  unfold gtC
  cases hi : ixC C w with
  | none => exact h0
  | some i =>
    obtain ⟨c, hc, _, _⟩ := ixM_some hi
    simp only [getD_of hc]
    exact h c (List.mem_of_getElem? hc)
def tyF (T : List Ty4) : List (List UInt8) := T.map fun t => foldM t.1
theorem ixT_fold {T : List Ty4} {n : List UInt8} (h : (ixT T n).isSome = true) : foldM n ∈ tyF T := by
  obtain ⟨i, hi⟩ := Option.isSome_iff_exists.1 h
  obtain ⟨t, ht, hs, _⟩ := ixM_some hi
  have : foldM t.1 = foldM n := of_decide_eq_true hs
  rw [<- this]
  exact List.mem_map_of_mem (List.mem_of_getElem? ht)
theorem good_in {T : List Ty4} {C : List Cls} (h : chkS T C = 0) : ∀ c ∈ C, (∀ n ∈ c.2.2.2.1, foldM n ∈ tyF T) /\ ∀ n ∈ c.2.2.2.2, foldM n ∈ tyF T := by
  intro c hc
  obtain ⟨i, hi⟩ := List.getElem?_of_mem hc
  unfold chkS at h
  split at h
  . omega
  split at h
  . rename_i h1; exact absurd h h1
  split at h
  . rename_i h1; exact absurd h h1
  rename_i _ hz
  have hz := Decidable.not_not.1 hz
  have := goM_zero C [] hz i c hi
  rw [List.nil_append] at this
  unfold clCk at this
  split at this
  . omega
  split at this
  . omega
  split at this
  . omega
  split at this
  . omega
  split at this
  . omega
  split at this
  . omega
  rename_i h7
  have h7 : (c.2.2.2.1 ++ c.2.2.2.2).all (fun n => (ixT T n).isSome) = true := by rw [Bool.not_eq_false] at h7; exact h7
  rw [List.all_eq_true] at h7
  exact ⟨fun n hn => ixT_fold (h7 n (List.mem_append_left _ hn)), fun n hn => ixT_fold (h7 n (List.mem_append_right _ hn))⟩
theorem good_gt {T : List Ty4} {C : List Cls} (h : chkS T C = 0) (w : List UInt8) : (∀ n ∈ (gtC C w).2.2.2.1, foldM n ∈ tyF T) /\ ∀ n ∈ (gtC C w).2.2.2.2, foldM n ∈ tyF T :=
  gtC_in (p := fun c => (∀ n ∈ c.2.2.2.1, foldM n ∈ tyF T) /\ ∀ n ∈ c.2.2.2.2, foldM n ∈ tyF T) (good_in h) ⟨fun n hn => by simp [noCls] at hn, fun n hn => by simp [noCls] at hn⟩ w
theorem chM_le {C : List Cls} (g : GoodC C) (w : List UInt8) : (chM C w).length <= C.length := by
  cases h : ixC C w with
  | none => rw [chM_none h]; simp
  | some i =>
    have h1 := chM_len g i w h
    obtain ⟨c, hc, _, _⟩ := ixM_some h
    have := (List.getElem?_eq_some_iff.1 hc).1
    omega
end Go.Proofs.YtfmekdmpghhegaaDoor
namespace Go.Proofs.YtfmekdmpghhegaaDoor
set_option linter.all false
set_option maxRecDepth 4000
open Go.RowKit

theorem core_chk : chkS coreT coreC = 0 := by decide +kernel
theorem core_good : GoodC coreC := (good_of core_chk).1
theorem core_kind1 : kindM coreC [[116, 111, 112], [80, 69, 82, 83, 79, 78], [105, 110, 101, 116, 80, 101, 114, 115, 111, 110]] = some [105, 110, 101, 116, 80, 101, 114, 115, 111, 110] := by decide +kernel
theorem core_kind2 : kindM coreC [[112, 101, 114, 115, 111, 110], [103, 114, 111, 117, 112]] = none := by decide +kernel
theorem core_must : uM (mustF coreC [[103, 114, 111, 117, 112]]) = [[99, 110], [109, 101, 109, 98, 101, 114], [111, 98, 106, 101, 99, 116, 99, 108, 97, 115, 115]] := by decide +kernel
theorem core_may : mayU coreC [[103, 114, 111, 117, 112]] = [[99, 104, 97, 110, 103, 101, 100, 97, 116], [99, 114, 101, 97, 116, 101, 100, 97, 116], [100, 101, 115, 99, 114, 105, 112, 116, 105, 111, 110], [112, 119, 100, 99, 104, 97, 110, 103, 101, 100], [112, 119, 100, 102, 97, 105, 108, 117, 114, 101], [112, 119, 100, 108, 111, 99, 107, 101, 100]] := by decide +kernel
end Go.Proofs.YtfmekdmpghhegaaDoor
