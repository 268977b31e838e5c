/- Package disk: what was flushed stays: the plain law. -/
import Derived.Test.YtpcfnhjeacahdaaDkE
import Derived.Test.YtpcfnhjeacahdaaDkF
namespace Go.Proofs.Ytpcfnhjeacahdaa
set_option linter.all false
open Go.RowKit

theorem wPut_keys (q : Int) (s : List UInt8) (c : Nat) : ∀ W : Wl, (q ∈ W.map (·.1) ∧ (wPut q s W c).map (·.1) = W.map (·.1) ∧ (wPut q s W c).map (·.2.2) = W.map (·.2.2)) ∨ (q ∉ W.map (·.1) ∧ wPut q s W c = W ++ [(q, s, c)])
  | [] => .inr ⟨by simp, rfl⟩
  | (j, x, b) :: W => by
    by_cases h : q = j
    · subst h
      exact .inl ⟨by simp, by simp [wPut], by simp [wPut]⟩
    · rcases wPut_keys q s c W with ⟨h1, h2, h3⟩ | ⟨h1, h2⟩
      · refine .inl ⟨by simp only [List.map_cons, List.mem_cons]; exact .inr h1, by simp [wPut, h, h2], by simp [wPut, h, h3]⟩
      · refine .inr ⟨by simp only [List.map_cons, List.mem_cons, not_or]; exact ⟨h, h1⟩, by simp [wPut, h, h2]⟩
theorem wGet_isSome (q : Int) : ∀ W : Wl, (wGet W q).isSome = decide (q ∈ W.map (·.1))
  | [] => rfl
  | (j, x, b) :: W => by
    have ih := wGet_isSome q W
    by_cases h : q = j
    · simp [wGet, h]
    · rw [wGet, if_neg h, ih, List.map_cons]
      simp [h]
theorem Dk.Wk.put {D : Dk} (hW : D.Wk) {i : Int} (s : List UInt8) (hi : 0 ≤ i ∧ i < D.lasts.length) : (putD D i s).Wk := by
  have hh : mHas i (wE D.W) = decide (i ∈ D.W.map (·.1)) := by rw [(wE_get i D.W).2, wGet_isSome]
  rcases wPut_keys i s D.c D.W with ⟨h1, h2, h3⟩ | ⟨h1, h2⟩
  · have hc : (putD D i s).c = D.c := by show mTick i (wE D.W) D.c = _; unfold mTick; rw [hh, decide_eq_true h1]; rfl
    have hmem1 : ∀ x ∈ (putD D i s).W, x.1 ∈ D.W.map (·.1) := fun x hx => by rw [← h2]; exact List.mem_map.2 ⟨x, hx, rfl⟩
    have hmem2 : ∀ x ∈ (putD D i s).W, x.2.2 ∈ D.W.map (·.2.2) := fun x hx => by rw [← h3]; exact List.mem_map.2 ⟨x, hx, rfl⟩
    refine ⟨by show ((wPut i s D.W D.c).map (·.1)).Nodup; rw [h2]; exact hW.k, by show ((wPut i s D.W D.c).map (·.2.2)).Nodup; rw [h3]; exact hW.b, fun x hx => ?_, fun x hx => ?_⟩
    · rw [hc]
      obtain ⟨y, hy, e⟩ := List.mem_map.1 (hmem2 x hx)
      rw [← e]; exact hW.bc y hy
    · obtain ⟨y, hy, e⟩ := List.mem_map.1 (hmem1 x hx)
      show 0 ≤ x.1 ∧ x.1 < (D.lasts.length : Int)
      rw [← e]; exact hW.kr y hy
  · have hc : (putD D i s).c = D.c + 1 := by show mTick i (wE D.W) D.c = _; unfold mTick; rw [hh, decide_eq_false h1]; rfl
    have hw : (putD D i s).W = D.W ++ [(i, s, D.c)] := h2
    refine ⟨?_, ?_, fun x hx => ?_, fun x hx => ?_⟩
    · rw [hw, List.map_append, List.nodup_append]
      refine ⟨hW.k, by simp, fun a ha b hb => ?_⟩
      simp only [List.map_cons, List.map_nil, List.mem_singleton] at hb
      subst hb
      exact fun e => h1 (e ▸ ha)
    · rw [hw, List.map_append, List.nodup_append]
      refine ⟨hW.b, by simp, fun a ha b hb => ?_⟩
      simp only [List.map_cons, List.map_nil, List.mem_singleton] at hb
      subst hb
      obtain ⟨y, hy, rfl⟩ := List.mem_map.1 ha
      have := hW.bc y hy
      omega
    · rw [hc]
      rw [hw] at hx
      rcases List.mem_append.1 hx with hx | hx
      · have := hW.bc x hx; omega
      · simp only [List.mem_singleton] at hx; subst hx; simp
    · rw [hw] at hx
      show 0 ≤ x.1 ∧ x.1 < (D.lasts.length : Int)
      rcases List.mem_append.1 hx with hx | hx
      · exact hW.kr x hx
      · simp only [List.mem_singleton] at hx; subst hx; exact hi

/-- The first i sectors wait, with these. -/
structure At (D : Dk) (base : List (List UInt8)) (i : Nat) (f : Nat → List UInt8) : Prop where
  off : D.off = false
  left : D.left = 0
  limit : D.limit = 20
  lasts : D.lasts = base
  n : base.length = 20
  ok : D.Ok
  wk : D.Wk
  get : ∀ j : Nat, wGet D.W (j : Int) = if j < i then some (f j) else none
theorem flushAt_len {D : Dk} (hD : D.Ok) {i : Nat} (hi : i < D.lasts.length) : (flushAt D.W D.lasts i).length = 128 := by
  have hx : (strAt D.lasts i).length = 128 := by unfold strAt; simp [hi, hD.l]
  unfold flushAt
  cases hw : wGet D.W (i : Int) with
  | none => exact hx
  | some s => exact wGet_len hD.w hw
end Go.Proofs.Ytpcfnhjeacahdaa
