/- Package disk: what was flushed stays: the plain law. -/
import Derived.Test.YtpcfnhjeacahdaaDkE
import Derived.Test.YtpcfnhjeacahdaaDkF
namespace Go.Proofs.Ytpcfnhjeacahdaa
set_option linter.all false
open Go.RowKit

theorem wPut_keys (q : Int) (s : List UInt8) (c : Nat) : ∀ W : Wl, (q ∈ W.map (·.1) ∧ (wPut q s W c).map (·.1) = W.map (·.1) ∧ (wPut q s W c).map (·.2.2) = W.map (·.2.2)) ∨ (q ∉ W.map (·.1) ∧ wPut q s W c = W ++ [(q, s, c)])
  | [] => .inr ⟨by simp, rfl⟩
  | (j, x, b) :: W => by
    by_cases h : q = j
    · subst h
      exact .inl ⟨by simp, by simp [wPut], by simp [wPut]⟩
    · rcases wPut_keys q s c W with ⟨h1, h2, h3⟩ | ⟨h1, h2⟩
      · refine .inl ⟨by simp only [List.map_cons, List.mem_cons]; exact .inr h1, by simp [wPut, h, h2], by simp [wPut, h, h3]⟩
      · refine .inr ⟨by simp only [List.map_cons, List.mem_cons, not_or]; exact ⟨h, h1⟩, by simp [wPut, h, h2]⟩
theorem wGet_isSome (q : Int) : ∀ W : Wl, (wGet W q).isSome = decide (q ∈ W.map (·.1))
  | [] => rfl
  | (j, x, b) :: W => by
    have ih := wGet_isSome q W
    by_cases h : q = j
    · simp [wGet, h]
    · rw [wGet, if_neg h, ih, List.map_cons]
      simp [h]
theorem Dk.Wk.put {D : Dk} (hW : D.Wk) {i : Int} (s : List UInt8) (hi : 0 ≤ i ∧ i < D.lasts.length) : (putD D i s).Wk := by
  have hh : mHas i (wE D.W) = decide (i ∈ D.W.map (·.1)) := by rw [(wE_get i D.W).2, wGet_isSome]
  rcases wPut_keys i s D.c D.W with ⟨h1, h2, h3⟩ | ⟨h1, h2⟩
  · have hc : (putD D i s).c = D.c := by show mTick i (wE D.W) D.c = _; unfold mTick; rw [hh, decide_eq_true h1]; rfl
    have hmem1 : ∀ x ∈ (putD D i s).W, x.1 ∈ D.W.map (·.1) := fun x hx => by rw [← h2]; exact List.mem_map.2 ⟨x, hx, rfl⟩
    have hmem2 : ∀ x ∈ (putD D i s).W, x.2.2 ∈ D.W.map (·.2.2) := fun x hx => by rw [← h3]; exact List.mem_map.2 ⟨x, hx, rfl⟩
    refine ⟨by show ((wPut i s D.W D.c).map (·.1)).Nodup; rw [h2]; exact hW.k, by show ((wPut i s D.W D.c).map (·.2.2)).Nodup; rw [h3]; exact hW.b, fun x hx => ?_, fun x hx => ?_⟩
    · rw [hc]
      obtain ⟨y, hy, e⟩ := List.mem_map.1 (hmem2 x hx)
      rw [← e]; exact hW.bc y hy
    · obtain ⟨y, hy, e⟩ := List.mem_map.1 (hmem1 x hx)
      show 0 ≤ x.1 ∧ x.1 < (D.lasts.length : Int)
      rw [← e]; exact hW.kr y hy
  · have hc : (putD D i s).c = D.c + 1 := by show mTick i (wE D.W) D.c = _; unfold mTick; rw [hh, decide_eq_false h1]; rfl
    have hw : (putD D i s).W = D.W ++ [(i, s, D.c)] := h2
    refine ⟨?_, ?_, fun x hx => ?_, fun x hx => ?_⟩
    · rw [hw, List.map_append, List.nodup_append]
      refine ⟨hW.k, by simp, fun a ha b hb => ?_⟩
      simp only [List.map_cons, List.map_nil, List.mem_singleton] at hb
      subst hb
      exact fun e => h1 (e ▸ ha)
    · rw [hw, List.map_append, List.nodup_append]
      refine ⟨hW.b, by simp, fun a ha b hb => ?_⟩
      simp only [List.map_cons, List.map_nil, List.mem_singleton] at hb
      subst hb
      obtain ⟨y, hy, rfl⟩ := List.mem_map.1 ha
      have := hW.bc y hy
      omega
    · rw [hc]
      rw [hw] at hx
      rcases List.mem_append.1 hx with hx | hx
      · have := hW.bc x hx; omega
      · simp only [List.mem_singleton] at hx; subst hx; simp
    · rw [hw] at hx
      show 0 ≤ x.1 ∧ x.1 < (D.lasts.length : Int)
      rcases List.mem_append.1 hx with hx | hx
      · exact hW.kr x hx
      · simp only [List.mem_singleton] at hx; subst hx; exact hi

/-- The first i sectors wait, with these. -/
structure At (D : Dk) (base : List (List UInt8)) (i : Nat) (f : Nat → List UInt8) : Prop where
  off : D.off = false
  left : D.left = 0
  limit : D.limit = 20
  lasts : D.lasts = base
  n : base.length = 20
  ok : D.Ok
  wk : D.Wk
  get : ∀ j : Nat, wGet D.W (j : Int) = if j < i then some (f j) else none
theorem At.write {D : Dk} {base : List (List UInt8)} {i : Nat} {f : Nat → List UInt8} (a : At D base i f) (hi : i < 20) (hf : (f i).length = 128) : writeM D i (f i) = (putD D i (f i), 0) ∧ At (putD D i (f i)) base (i + 1) f := by
  have hl : D.lasts.length = 20 := by rw [a.lasts]; exact a.n
  have h1 : failsM D i = 0 := by unfold failsM; rw [a.off, if_neg (by decide), if_neg (by rw [hl]; omega)]
  have h2 : ¬ roomM D ≤ i := by unfold roomM; rw [a.limit, hl]; omega
  have h3 : cutM (putD D i (f i)) = (putD D i (f i), false) := by unfold cutM; exact if_pos a.left
  refine ⟨?_, a.off, a.left, a.limit, a.lasts, a.n, a.ok.put i hf, a.wk.put _ ⟨by omega, by rw [hl]; omega⟩, fun j => ?_⟩
  · unfold writeM
    rw [if_neg (by simp [h1]), if_neg (by simp [hf]), if_neg h2, h3]
    rfl
  · show wGet (wPut i (f i) D.W D.c) j = _
    rw [wPut_get, a.get]
    by_cases hj : j = i
    · subst hj; simp
    · rw [if_neg (by omega)]
      by_cases h : j < i
      · rw [if_pos h, if_pos (by omega)]
      · rw [if_neg h, if_neg (by omega)]
theorem at_new (f : Nat → List UInt8) : At (newM 20) (newM 20).lasts 0 f :=
  ⟨rfl, rfl, by decide +kernel, rfl, by decide +kernel, new_ok 20, ⟨by simp [newM], by simp [newM], by simp [newM], by simp [newM]⟩, fun j => rfl⟩
theorem flushAt_len {D : Dk} (hD : D.Ok) {i : Nat} (hi : i < D.lasts.length) : (flushAt D.W D.lasts i).length = 128 := by
  have hx : (strAt D.lasts i).length = 128 := by unfold strAt; simp [hi, hD.l]
  unfold flushAt
  cases hw : wGet D.W (i : Int) with
  | none => exact hx
  | some s => exact wGet_len hD.w hw
theorem At.flush {D : Dk} {base : List (List UInt8)} {i : Nat} {f : Nat → List UInt8} (a : At D base i f) (g : Nat → List UInt8) : flushM D = (flushD D, 0) ∧ At (flushD D) (flushD D).lasts 0 g := by
  have h3 : cutM D = (D, false) := by unfold cutM; rw [if_pos a.left]
  have hl : D.lasts.length = 20 := by rw [a.lasts]; exact a.n
  refine ⟨?_, a.off, a.left, a.limit, rfl, by simp [flushD, hl], ⟨fun x hx => ?_, fun x hx => by simp [flushD] at hx, by simp [flushD, hl], a.ok.left, a.ok.ls⟩, ⟨by simp [flushD], by simp [flushD], by simp [flushD], by simp [flushD]⟩, fun j => rfl⟩
  · unfold flushM
    rw [a.off, if_neg (by decide), h3]
    rfl
  · simp only [flushD, List.mem_map, List.mem_range] at hx
    obtain ⟨j, hj, rfl⟩ := hx
    exact flushAt_len a.ok hj
theorem kAt_all {W : Wl} {i : Nat} : ∀ {j : Nat}, j ≤ i → (∀ q : Nat, q < i → (wGet W (q : Int)).isSome = true) → kAt W j = j
  | 0, _, _ => rfl
  | j + 1, hj, h => by rw [kAt_succ, kAt_all (by omega) h, h j (by omega)]; rfl
theorem At.crash {D : Dk} {base : List (List UInt8)} {n : Nat} {f : Nat → List UInt8} (a : At D base n f) (l : Ls) : (crashM D l).Ok ∧ (crashM D l).lasts.length = 20 ∧
    ∀ i, i < 20 → (n ≤ i → strAt (crashM D l).lasts i = strAt base i) ∧ (i < n → strAt (crashM D l).lasts i = strAt base i ∨ strAt (crashM D l).lasts i = f i ∨ (i : Int) = l.torn) := by
  have hl : D.lasts.length = 20 := by rw [a.lasts]; exact a.n
  have e : crashM D l = { loseM D l with off := false, left := 0 } := by unfold crashM; rw [a.off, if_neg (by decide)]
  have ho := a.ok.lose l
  have hll : (crashM D l).lasts = (List.range 20).map (loseAt D.W l D.lasts) := by rw [e]; show (List.range D.lasts.length).map _ = _; rw [hl]
  refine ⟨?_, by rw [hll]; simp, fun i hi => ?_⟩
  · rw [e]; exact ⟨ho.l, ho.w, ho.n, by simp, ho.ls⟩
  · have hs : strAt (crashM D l).lasts i = loseAt D.W l D.lasts i := by rw [hll]; unfold strAt; simp [hi]
    rw [hs]
    unfold loseAt
    rw [a.get i]
    refine ⟨fun h => by rw [if_neg (by omega)]; simp only; rw [a.lasts], fun h => ?_⟩
    rw [if_pos h]
    have hk : kAt D.W i = i := kAt_all (i := i) (Nat.le_refl _) (fun q hq => by rw [a.get q, if_pos (by omega)]; rfl)
    simp only [hk, loseOne]
    split
    · rename_i h9; exact .inr (.inr h9)
    · split
      · exact .inr (.inl rfl)
      · exact .inl (by rw [a.lasts])
theorem flat_at : ∀ {L : List (List UInt8)}, (∀ x ∈ L, x.length = 128) → ∀ {i : Nat}, i < L.length → (L.flatten.drop (128 * i)).take 128 = strAt L i
  | x :: L, h, 0, _ => by
    have hx := h x (by simp)
    rw [Nat.mul_zero, List.drop_zero, List.flatten_cons, List.take_append_of_le_length (by omega), List.take_of_length_le (by omega)]
    rfl
  | x :: L, h, i + 1, hi => by
    have hx := h x (by simp)
    have ih := flat_at (L := L) (fun y hy => h y (by simp [hy])) (i := i) (by simpa using hi)
    rw [List.flatten_cons, show 128 * (i + 1) = x.length + 128 * i by omega, ← List.drop_drop, List.drop_left, ih]
    simp [strAt]
theorem take_min (s : List UInt8) (n : Nat) : s.take ((min (s.length : Int) n).toNat) = s.take n := by
  rw [show (min (s.length : Int) n).toNat = min s.length n by omega]
  rcases Nat.le_total s.length n with h | h
  · rw [Nat.min_eq_left h, List.take_of_length_le h, List.take_length]
  · rw [Nat.min_eq_right h]
theorem take_100 (s : List UInt8) : s.take ((min (s.length : Int) 100).toNat) = s.take 100 := take_min s 100
end Go.Proofs.Ytpcfnhjeacahdaa
