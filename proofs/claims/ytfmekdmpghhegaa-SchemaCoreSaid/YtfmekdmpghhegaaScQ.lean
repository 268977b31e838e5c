/- The document's structural class is the code's; how many texts must be there at most. -/
import Derived.Test.YtfmekdmpghhegaaScN
namespace Go.Proofs.Ytfmekdmpghhegaa
set_option linter.all false
set_option maxRecDepth 4000
open Go.RowKit

def okW (C : List Cls) (ws : List (List UInt8)) (w : List UInt8) : Bool := decide ((gtC C w).2.2.1 = 1) && (strucs C ws).all fun o => decide (o ∈ chM C w)
def bestL (C : List Cls) (ws pre : List (List UInt8)) : List UInt8 := pre.foldl (fun b w => if okW C ws w = true then (gtC C w).1 else b) []
theorem foldl_if {p : List UInt8 -> Bool} {f : List UInt8 -> List UInt8} {n : List UInt8} : ∀ (l : List (List UInt8)) (b : List UInt8), (∀ w ∈ l, p w = true -> f w = n) -> (b = n \/ ∃ w ∈ l, p w = true) -> l.foldl (fun b w => if p w = true then f w else b) b = n
  | [], b, _, h => by
    rcases h with h | ⟨w, hw, _⟩
    . exact h
    . simp at hw
  | x :: l, b, h1, h2 => by
    rw [List.foldl_cons]
    refine foldl_if l _ (fun w hw => h1 w (List.mem_cons_of_mem _ hw)) ?_
    by_cases hx : p x = true
    . rw [if_pos hx]; exact .inl (h1 x List.mem_cons_self hx)
    . rw [if_neg hx]
      rcases h2 with h2 | ⟨w, hw, hp⟩
      . exact .inl h2
      . rcases List.mem_cons.1 hw with rfl | hw
        . exact absurd hp hx
        . exact .inr ⟨w, hw, hp⟩
theorem foldl_no {p : List UInt8 -> Bool} {f : List UInt8 -> List UInt8} : ∀ (l : List (List UInt8)) (b : List UInt8), (∀ w ∈ l, p w = false) -> l.foldl (fun b w => if p w = true then f w else b) b = b
  | [], b, _ => rfl
  | x :: l, b, h => by
    rw [List.foldl_cons, if_neg (by rw [h x List.mem_cons_self]; simp)]
    exact foldl_no l b fun w hw => h w (List.mem_cons_of_mem _ hw)
theorem okW_low {C : List Cls} (g : GoodC C) {ws : List (List UInt8)} {w : List UInt8} {i : Nat} {c : Cls} (h : ixC C w = some i) (hc : C[i]? = some c) : okW C ws w = (decide (c.2.2.1 = 1) && lowest C ws c.1) := by
  unfold okW lowest
  rw [gtC_of h hc, chM_same (h.trans (g.one i c hc).symm)]
theorem best_kind {C : List Cls} (g : GoodC C) {ws : List (List UInt8)} (hall : ws.all (fun w => (ixC C w).isSome) = true) : (kindM C ws = none /\ bestL C ws ws = []) \/ ∃ n, kindM C ws = some n /\ bestL C ws ws = n /\ n.length ≠ 0 := by
  unfold kindM
  rw [if_neg (by rw [hall]; simp)]
  cases hk : (strucs C ws).find? (lowest C ws) with
  | none =>
    refine .inl ⟨rfl, ?_⟩
    refine foldl_no ws [] fun w hw => ?_
    obtain ⟨i, hi⟩ := Option.isSome_iff_exists.1 (List.all_eq_true.1 hall w hw)
    obtain ⟨c, hc, _, _⟩ := ixM_some hi
    rw [okW_low g hi hc]
    by_cases hkd : c.2.2.1 = 1
    . have hm : c.1 ∈ strucs C ws := (struc_mem hall).2 ⟨w, i, c, hw, hi, hc, hkd, rfl⟩
      have := List.find?_eq_none.1 hk _ hm
      rw [Bool.not_eq_true] at this
      rw [this, Bool.and_false]
    . rw [decide_eq_false hkd, Bool.false_and]
  | some n =>
    have hn := List.mem_of_find?_eq_some hk
    have hl : lowest C ws n = true := by simpa using List.find?_some hk
    obtain ⟨w0, i0, c0, hw0, hi0, hc0, hk0, rfl⟩ := (struc_mem hall).1 hn
    refine .inr ⟨_, rfl, ?_, g.named c0 (List.mem_of_getElem? hc0)⟩
    refine foldl_if ws [] (fun w hw hok => ?_) (.inr ⟨w0, hw0, ?_⟩)
    . obtain ⟨i, hi⟩ := Option.isSome_iff_exists.1 (List.all_eq_true.1 hall w hw)
      obtain ⟨c, hc, _, _⟩ := ixM_some hi
      rw [okW_low g hi hc, Bool.and_eq_true] at hok
      rw [gtC_of hi hc]
      exact lowest_one g hall ((struc_mem hall).2 ⟨w, i, c, hw, hi, hc, of_decide_eq_true hok.1, rfl⟩) hn hok.2 hl
    . rw [okW_low g hi0 hc0, decide_eq_true hk0, Bool.true_and]; exact hl
theorem gtC_in {C : List Cls} {p : Cls -> Prop} (h : ∀ c ∈ C, p c) (h0 : p noCls) (w : List UInt8) : p (gtC C w) := by
  unfold gtC
  cases hi : ixC C w with
  | none => exact h0
  | some i =>
    obtain ⟨c, hc, _, _⟩ := ixM_some hi
    simp only [getD_of hc]
    exact h c (List.mem_of_getElem? hc)
def tyF (T : List Ty4) : List (List UInt8) := T.map fun t => foldM t.1
theorem ixT_fold {T : List Ty4} {n : List UInt8} (h : (ixT T n).isSome = true) : foldM n ∈ tyF T := by
  obtain ⟨i, hi⟩ := Option.isSome_iff_exists.1 h
  obtain ⟨t, ht, hs, _⟩ := ixM_some hi
  have : foldM t.1 = foldM n := of_decide_eq_true hs
  rw [<- this]
  exact List.mem_map_of_mem (List.mem_of_getElem? ht)
theorem good_in {T : List Ty4} {C : List Cls} (h : chkS T C = 0) : ∀ c ∈ C, (∀ n ∈ c.2.2.2.1, foldM n ∈ tyF T) /\ ∀ n ∈ c.2.2.2.2, foldM n ∈ tyF T := by
  intro c hc
  obtain ⟨i, hi⟩ := List.getElem?_of_mem hc
  unfold chkS at h
  split at h
  . omega
  split at h
  . rename_i h1; exact absurd h h1
  split at h
  . rename_i h1; exact absurd h h1
  rename_i _ hz
  have hz := Decidable.not_not.1 hz
  have := goM_zero C [] hz i c hi
  rw [List.nil_append] at this
  unfold clCk at this
  split at this
  . omega
  split at this
  . omega
  split at this
  . omega
  split at this
  . omega
  split at this
  . omega
  split at this
  . omega
  rename_i h7
  have h7 : (c.2.2.2.1 ++ c.2.2.2.2).all (fun n => (ixT T n).isSome) = true := by rw [Bool.not_eq_false] at h7; exact h7
  rw [List.all_eq_true] at h7
  exact ⟨fun n hn => ixT_fold (h7 n (List.mem_append_left _ hn)), fun n hn => ixT_fold (h7 n (List.mem_append_right _ hn))⟩
theorem good_gt {T : List Ty4} {C : List Cls} (h : chkS T C = 0) (w : List UInt8) : (∀ n ∈ (gtC C w).2.2.2.1, foldM n ∈ tyF T) /\ ∀ n ∈ (gtC C w).2.2.2.2, foldM n ∈ tyF T :=
  gtC_in (p := fun c => (∀ n ∈ c.2.2.2.1, foldM n ∈ tyF T) /\ ∀ n ∈ c.2.2.2.2, foldM n ∈ tyF T) (good_in h) ⟨fun n hn => by simp [noCls] at hn, fun n hn => by simp [noCls] at hn⟩ w
theorem chM_le {C : List Cls} (g : GoodC C) (w : List UInt8) : (chM C w).length <= C.length := by
  cases h : ixC C w with
  | none => rw [chM_none h]; simp
  | some i =>
    have h1 := chM_len g i w h
    obtain ⟨c, hc, _, _⟩ := ixM_some h
    have := (List.getElem?_eq_some_iff.1 hc).1
    omega
end Go.Proofs.Ytfmekdmpghhegaa
namespace Go.Proofs.Ytfmekdmpghhegaa
set_option linter.all false
set_option maxRecDepth 4000
open Go.RowKit

theorem core_chk : chkS coreT coreC = 0 := by decide +kernel
theorem core_good : GoodC coreC := (good_of core_chk).1
theorem core_kind1 : kindM coreC [[116, 111, 112], [80, 69, 82, 83, 79, 78], [105, 110, 101, 116, 80, 101, 114, 115, 111, 110]] = some [105, 110, 101, 116, 80, 101, 114, 115, 111, 110] := by decide +kernel
theorem core_kind2 : kindM coreC [[112, 101, 114, 115, 111, 110], [103, 114, 111, 117, 112]] = none := by decide +kernel
theorem core_must : uM (mustF coreC [[103, 114, 111, 117, 112]]) = [[99, 110], [109, 101, 109, 98, 101, 114], [111, 98, 106, 101, 99, 116, 99, 108, 97, 115, 115]] := by decide +kernel
theorem core_may : mayU coreC [[103, 114, 111, 117, 112]] = [[99, 104, 97, 110, 103, 101, 100, 97, 116], [99, 114, 101, 97, 116, 101, 100, 97, 116], [100, 101, 115, 99, 114, 105, 112, 116, 105, 111, 110], [112, 119, 100, 99, 104, 97, 110, 103, 101, 100], [112, 119, 100, 102, 97, 105, 108, 117, 114, 101], [112, 119, 100, 108, 111, 99, 107, 101, 100]] := by decide +kernel
end Go.Proofs.Ytfmekdmpghhegaa
