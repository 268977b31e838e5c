/- Package disk, plain: what stays true of a disk. -/
import Derived.Test.YtmbpjgjajedonaaGreatDoorDkC
import Derived.Test.YtmbpjgjajedonaaGreatDoorDkF
import Derived.Test.YtmbpjgjajedonaaGreatDoorLtP
import Derived.Test.YtmbpjgjajedonaaGreatDoorTy
import Derived.Test.YtmbpjgjajedonaaGreatDoorShR
import Derived.Test.YtmbpjgjajedonaaGreatDoorProg
import Derived.Ground.NamesProg
import Derived.Shelf.Strings.OnBuilder
namespace Go.Proofs.YtmbpjgjajedonaaGreatDoor
set_option linter.all false
set_option maxRecDepth 4000
open Go.RowKit

theorem new_ok (n : Int) : (newM n).Ok := by
  refine ⟨fun x hx => ?_, fun x hx => by simp [newM] at hx, by simp only [newM, layM, List.length_map, List.length_range]; omega, by simp [newM], by simp [newM, inR]⟩
  simp only [newM, layM, List.mem_map, List.mem_range] at hx
  obtain ⟨i, _, rfl⟩ := hx
  simp [layAt]
theorem write_ok {D : Dk} (hD : D.Ok) (i : Int) (s : List UInt8) : (writeM D i s).1.Ok := by
  unfold writeM
  split
  . exact hD
  . split
    . exact hD
    . rename_i h2
      have hs : s.length = 128 := by simpa using h2
      split
      . exact hD
      . split
        . have := ((hD.put i hs).cut).lose (cutM (putD D i s)).1.loss
          exact ⟨this.l, this.w, this.n, this.left, this.ls⟩
        . exact (hD.put i hs).cut
theorem wPut_keys (q : Int) (s : List UInt8) (c : Nat) : ∀ W : Wl, (q ∈ W.map (·.1) /\ (wPut q s W c).map (·.1) = W.map (·.1) /\ (wPut q s W c).map (·.2.2) = W.map (·.2.2)) \/ (q ∉ W.map (·.1) /\ wPut q s W c = W ++ [(q, s, c)])
  | [] => .inr ⟨by simp, rfl⟩
  | (j, x, b) :: W => by
    by_cases h : q = j
    . subst h
      exact .inl ⟨by simp, by simp [wPut], by simp [wPut]⟩
    . rcases wPut_keys q s c W with ⟨h1, h2, h3⟩ | ⟨h1, h2⟩
      . refine .inl ⟨by simp only [List.map_cons, List.mem_cons]; exact .inr h1, by simp [wPut, h, h2], by simp [wPut, h, h3]⟩
      . refine .inr ⟨by simp only [List.map_cons, List.mem_cons, not_or]; exact ⟨h, h1⟩, by simp [wPut, h, h2]⟩
theorem wGet_isSome (q : Int) : ∀ W : Wl, (wGet W q).isSome = decide (q ∈ W.map (·.1))
  | [] => rfl
  | (j, x, b) :: W => by
    have ih := wGet_isSome q W
    by_cases h : q = j
    . simp [wGet, h]
    . rw [wGet, if_neg h, ih, List.map_cons]
      simp [h]
theorem Dk.Wk.put {D : Dk} (hW : D.Wk) {i : Int} (s : List UInt8) (hi : 0 <= i /\ i < D.lasts.length) : (putD D i s).Wk := by
  have hh : mHas i (wE D.W) = decide (i ∈ D.W.map (·.1)) := by rw [(wE_get i D.W).2, wGet_isSome]
  rcases wPut_keys i s D.c D.W with ⟨h1, h2, h3⟩ | ⟨h1, h2⟩
  . have hc : (putD D i s).c = D.c := by show mTick i (wE D.W) D.c = _; unfold mTick; rw [hh, decide_eq_true h1]; rfl
    have hmem1 : ∀ x ∈ (putD D i s).W, x.1 ∈ D.W.map (·.1) := fun x hx => by rw [<- h2]; exact List.mem_map.2 ⟨x, hx, rfl⟩
    have hmem2 : ∀ x ∈ (putD D i s).W, x.2.2 ∈ D.W.map (·.2.2) := fun x hx => by rw [<- h3]; exact List.mem_map.2 ⟨x, hx, rfl⟩
    refine ⟨by show ((wPut i s D.W D.c).map (·.1)).Nodup; rw [h2]; exact hW.k, by show ((wPut i s D.W D.c).map (·.2.2)).Nodup; rw [h3]; exact hW.b, fun x hx => ?_, fun x hx => ?_⟩
    . rw [hc]
      obtain ⟨y, hy, e⟩ := List.mem_map.1 (hmem2 x hx)
      rw [<- e]; exact hW.bc y hy
    . obtain ⟨y, hy, e⟩ := List.mem_map.1 (hmem1 x hx)
      show 0 <= x.1 /\ x.1 < (D.lasts.length : Int)
      rw [<- e]; exact hW.kr y hy
  . have hc : (putD D i s).c = D.c + 1 := by show mTick i (wE D.W) D.c = _; unfold mTick; rw [hh, decide_eq_false h1]; rfl
    have hw : (putD D i s).W = D.W ++ [(i, s, D.c)] := h2
    refine ⟨?_, ?_, fun x hx => ?_, fun x hx => ?_⟩
    . rw [hw, List.map_append, List.nodup_append]
      refine ⟨hW.k, by simp, fun a ha b hb => ?_⟩
      simp only [List.map_cons, List.map_nil, List.mem_singleton] at hb
      subst hb
      exact fun e => h1 (e ▸ ha)
    . rw [hw, List.map_append, List.nodup_append]
      refine ⟨hW.b, by simp, fun a ha b hb => ?_⟩
      simp only [List.map_cons, List.map_nil, List.mem_singleton] at hb
      subst hb
      obtain ⟨y, hy, rfl⟩ := List.mem_map.1 ha
      have := hW.bc y hy
      omega
    . rw [hc]
      rw [hw] at hx
      rcases List.mem_append.1 hx with hx | hx
      . have := hW.bc x hx; omega
      . simp only [List.mem_singleton] at hx; subst hx; simp
    . rw [hw] at hx
      show 0 <= x.1 /\ x.1 < (D.lasts.length : Int)
      rcases List.mem_append.1 hx with hx | hx
      . exact hW.kr x hx
      . simp only [List.mem_singleton] at hx; subst hx; exact hi

theorem flushAt_len {D : Dk} (hD : D.Ok) {i : Nat} (hi : i < D.lasts.length) : (flushAt D.W D.lasts i).length = 128 := by
  have hx : (strAt D.lasts i).length = 128 := by unfold strAt; simp [hi, hD.l]
  unfold flushAt
  cases hw : wGet D.W (i : Int) with
  | none => exact hx
  | some s => exact wGet_len hD.w hw
def Shp (D D' : Dk) : Prop := D'.limit = D.limit /\ D'.lasts.length = D.lasts.length
theorem Shp.refl (D : Dk) : Shp D D := ⟨rfl, rfl⟩
theorem Shp.trans {A B C : Dk} (h : Shp A B) (k : Shp B C) : Shp A C := ⟨k.1.trans h.1, k.2.trans h.2⟩
theorem wk_nil {D : Dk} (h : D.W = []) : D.Wk := by
  refine ⟨?_, ?_, ?_, ?_⟩ <;> rw [h] <;> simp
theorem shp_lose (D : Dk) (l : Ls) : Shp D (loseM D l) := ⟨rfl, by simp [loseM]⟩
theorem shp_fail (D : Dk) : Shp D (failM D) := ⟨rfl, by simp [failM, loseM]⟩
theorem shp_cut (D : Dk) : Shp D (cutM D).1 := by
  unfold cutM
  split <;> exact ⟨rfl, rfl⟩
theorem fail_ok {D : Dk} (hD : D.Ok) : (failM D).Ok := by
  have := hD.lose D.loss
  exact ⟨this.l, this.w, this.n, this.left, this.ls⟩
theorem cut_wk {D : Dk} (hW : D.Wk) : (cutM D).1.Wk := by
  unfold cutM
  split
  . exact hW
  . exact ⟨hW.k, hW.b, hW.bc, hW.kr⟩
theorem write_shp (D : Dk) (i : Int) (s : List UInt8) : Shp D (writeM D i s).1 := by
  unfold writeM
  split
  . exact Shp.refl _
  . split
    . exact Shp.refl _
    . split
      . exact Shp.refl _
      . have h0 : Shp D (putD D i s) := ⟨rfl, rfl⟩
        split
        . exact (h0.trans (shp_cut _)).trans (shp_fail _)
        . exact h0.trans (shp_cut _)
theorem write_wk {D : Dk} (hW : D.Wk) (i : Int) (s : List UInt8) : (writeM D i s).1.Wk := by
  unfold writeM
  split
  . exact hW
  . rename_i hf
    split
    . exact hW
    . split
      . exact hW
      . have hf' : failsM D i = 0 := by simpa using hf
        obtain ⟨_, f2, f3⟩ := fails_ok hf'
        have hp := hW.put s ⟨f2, f3⟩
        split
        . exact wk_nil rfl
        . exact cut_wk hp
theorem flush_shp (D : Dk) : Shp D (flushM D).1 := by
  unfold flushM
  split
  . exact Shp.refl _
  . split
    . exact (shp_cut _).trans (shp_fail _)
    . exact (shp_cut _).trans ⟨rfl, by simp [flushD]⟩
theorem flush_wk {D : Dk} (hW : D.Wk) : (flushM D).1.Wk := by
  unfold flushM
  split
  . exact hW
  . split
    . exact wk_nil rfl
    . exact wk_nil rfl
theorem flush_ok {D : Dk} (hD : D.Ok) : (flushM D).1.Ok := by
  unfold flushM
  split
  . exact hD
  . split
    . exact fail_ok hD.cut
    . have h1 := hD.cut
      refine ⟨fun x hx => ?_, fun x hx => by simp [flushD] at hx, by simp [flushD]; exact h1.n, h1.left, h1.ls⟩
      simp only [flushD, List.mem_map, List.mem_range] at hx
      obtain ⟨i, hi, rfl⟩ := hx
      exact flushAt_len h1 hi
theorem crash_shp (D : Dk) (l : Ls) : Shp D (crashM D l) := by
  unfold crashM
  split
  . exact ⟨rfl, rfl⟩
  . exact ⟨rfl, (shp_lose D l).2⟩
theorem crash_ok {D : Dk} (hD : D.Ok) (l : Ls) : (crashM D l).Ok := by
  have h1 := hD.lose l
  unfold crashM
  split
  . exact ⟨hD.l, hD.w, hD.n, by simp, hD.ls⟩
  . exact ⟨h1.l, h1.w, h1.n, by simp, h1.ls⟩
theorem crash_wk {D : Dk} (hW : D.Wk) (l : Ls) : (crashM D l).Wk := by
  unfold crashM
  split
  . exact ⟨hW.k, hW.b, hW.bc, hW.kr⟩
  . exact wk_nil rfl
end Go.Proofs.YtmbpjgjajedonaaGreatDoor
namespace Go.Proofs.YtmbpjgjajedonaaGreatDoor
set_option linter.all false
set_option maxRecDepth 4000
open Go.RowKit

theorem St.ofBelow {h : Heap} {H : List Chunk} {w w' : World} (s : StI h H w) (b : Below w.heap.size w w') : St ⟨w, keys H, h⟩ h H w' := by
  have hk : ∀ x ∈ H, ∀ g, x.key = some g -> w'.heap[g]? = w.heap[g]? := fun x hx g hg => b.block g (Chunk.holds_lt (s.own x hx) g hg)
  exact ⟨b.os, b.tape, b.output, b.size, fun q hq _ => b.block q hq, Heap.le_refl h, fun q o ho => by
      have h1 := s.imm q o ho
      rw [b.block q (lt_of_get h1)]; exact h1, fun x hx => Chunk.holds_congr (hk x hx) (s.own x hx), s.nodup, s.sep, fun g hg => .inl hg, fun q o ho => .inl ⟨o, ho⟩⟩
end Go.Proofs.YtmbpjgjajedonaaGreatDoor
namespace Go.Proofs.YtmbpjgjajedonaaGreatDoor
set_option linter.all false
set_option maxRecDepth 4000
open Go.RowKit

structure At (D : Dk) (base : List (List UInt8)) (i : Nat) (f : Nat -> List UInt8) : Prop where
  off : D.off = false
  left : D.left = 0
  limit : D.limit = 20
  lasts : D.lasts = base
  n : base.length = 20
  ok : D.Ok
  wk : D.Wk
  get : ∀ j : Nat, wGet D.W (j : Int) = if j < i then some (f j) else none
theorem At.write {D : Dk} {base : List (List UInt8)} {i : Nat} {f : Nat -> List UInt8} (a : At D base i f) (hi : i < 20) (hf : (f i).length = 128) : writeM D i (f i) = (putD D i (f i), 0) /\ At (putD D i (f i)) base (i + 1) f := by
  have hl : D.lasts.length = 20 := by rw [a.lasts]; exact a.n
  have h1 : failsM D i = 0 := by unfold failsM; rw [a.off, if_neg (by decide), if_neg (by rw [hl]; omega)]
  have h2 : ¬ roomM D <= i := by unfold roomM; rw [a.limit, hl]; omega
  have h3 : cutM (putD D i (f i)) = (putD D i (f i), false) := by unfold cutM; exact if_pos a.left
  refine ⟨?_, a.off, a.left, a.limit, a.lasts, a.n, a.ok.put i hf, a.wk.put _ ⟨by omega, by rw [hl]; omega⟩, fun j => ?_⟩
  . unfold writeM
    rw [if_neg (by simp [h1]), if_neg (by simp [hf]), if_neg h2, h3]
    rfl
  . show wGet (wPut i (f i) D.W D.c) j = _
    rw [wPut_get, a.get]
    by_cases hj : j = i
    . subst hj; simp
    . rw [if_neg (by omega)]
      by_cases h : j < i
      . rw [if_pos h, if_pos (by omega)]
      . rw [if_neg h, if_neg (by omega)]
end Go.Proofs.YtmbpjgjajedonaaGreatDoor
