/- What stays true of both disks behind any call. -/
import Derived.Test.YtpcfnhjeacahdaaDkK
namespace Go.Proofs.Ytpcfnhjeacahdaa
set_option linter.all false
open Go.RowKit

/-- As many sectors, and as many of them may be used. -/
def Shp (D D' : Dk) : Prop := D'.limit = D.limit ∧ D'.lasts.length = D.lasts.length
theorem Shp.refl (D : Dk) : Shp D D := ⟨rfl, rfl⟩
theorem Shp.trans {A B C : Dk} (h : Shp A B) (k : Shp B C) : Shp A C := ⟨k.1.trans h.1, k.2.trans h.2⟩
theorem Shp.lim {lim : Bool} {most : Int} {D D' : Dk} (h : Shp D D') (l : LimR lim most D) : LimR lim most D' := by
  unfold LimR at *
  rw [h.1, h.2]; exact l
theorem wk_nil {D : Dk} (h : D.W = []) : D.Wk := by
  refine ⟨?_, ?_, ?_, ?_⟩ <;> rw [h] <;> simp
theorem shp_lose (D : Dk) (l : Ls) : Shp D (loseM D l) := ⟨rfl, by simp [loseM]⟩
theorem shp_fail (D : Dk) : Shp D (failM D) := ⟨rfl, by simp [failM, loseM]⟩
theorem shp_cut (D : Dk) : Shp D (cutM D).1 := by
  unfold cutM
  split <;> exact ⟨rfl, rfl⟩
theorem fail_ok {D : Dk} (hD : D.Ok) : (failM D).Ok := by
  have := hD.lose D.loss
  exact ⟨this.l, this.w, this.n, this.left, this.ls⟩
theorem cut_wk {D : Dk} (hW : D.Wk) : (cutM D).1.Wk := by
  unfold cutM
  split
  · exact hW
  · exact ⟨hW.k, hW.b, hW.bc, hW.kr⟩
theorem write_shp (D : Dk) (i : Int) (s : List UInt8) : Shp D (writeM D i s).1 := by
  unfold writeM
  split
  · exact Shp.refl _
  · split
    · exact Shp.refl _
    · split
      · exact Shp.refl _
      · have h0 : Shp D (putD D i s) := ⟨rfl, rfl⟩
        split
        · exact (h0.trans (shp_cut _)).trans (shp_fail _)
        · exact h0.trans (shp_cut _)
theorem write_wk {D : Dk} (hW : D.Wk) (i : Int) (s : List UInt8) : (writeM D i s).1.Wk := by
  unfold writeM
  split
  · exact hW
  · rename_i hf
    split
    · exact hW
    · split
      · exact hW
      · have hf' : failsM D i = 0 := by simpa using hf
        obtain ⟨_, f2, f3⟩ := fails_ok hf'
        have hp := hW.put s ⟨f2, f3⟩
        split
        · exact wk_nil rfl
        · exact cut_wk hp
theorem flush_shp (D : Dk) : Shp D (flushM D).1 := by
  unfold flushM
  split
  · exact Shp.refl _
  · split
    · exact (shp_cut _).trans (shp_fail _)
    · exact (shp_cut _).trans ⟨rfl, by simp [flushD]⟩
theorem flush_wk {D : Dk} (hW : D.Wk) : (flushM D).1.Wk := by
  unfold flushM
  split
  · exact hW
  · split
    · exact wk_nil rfl
    · exact wk_nil rfl
theorem flush_ok {D : Dk} (hD : D.Ok) : (flushM D).1.Ok := by
  unfold flushM
  split
  · exact hD
  · split
    · exact fail_ok hD.cut
    · have h1 := hD.cut
      refine ⟨fun x hx => ?_, fun x hx => by simp [flushD] at hx, by simp [flushD]; exact h1.n, h1.left, h1.ls⟩
      simp only [flushD, List.mem_map, List.mem_range] at hx
      obtain ⟨i, hi, rfl⟩ := hx
      exact flushAt_len h1 hi
theorem crash_shp (D : Dk) (l : Ls) : Shp D (crashM D l) := by
  unfold crashM
  split
  · exact ⟨rfl, rfl⟩
  · exact ⟨rfl, (shp_lose D l).2⟩
theorem crash_ok {D : Dk} (hD : D.Ok) (l : Ls) : (crashM D l).Ok := by
  have h1 := hD.lose l
  unfold crashM
  split
  · exact ⟨hD.l, hD.w, hD.n, by simp, hD.ls⟩
  · exact ⟨h1.l, h1.w, h1.n, by simp, h1.ls⟩
theorem crash_wk {D : Dk} (hW : D.Wk) (l : Ls) : (crashM D l).Wk := by
  unfold crashM
  split
  · exact ⟨hW.k, hW.b, hW.bc, hW.kr⟩
  · exact wk_nil rfl
theorem lay_ok {D : Dk} (hD : D.Ok) (s : List UInt8) : Dk.Ok { D with lasts := layM D.lasts.length s, W := [] } := by
  refine ⟨fun x hx => ?_, fun x hx => by simp at hx, by simp [layM]; exact hD.n, hD.left, hD.ls⟩
  simp only [layM, List.mem_map, List.mem_range] at hx
  obtain ⟨i, hi, rfl⟩ := hx
  unfold layAt
  rw [List.length_append, List.length_take, List.length_replicate]; omega
theorem lay_shp (D : Dk) (s : List UInt8) : Shp D { D with lasts := layM D.lasts.length s, W := [] } := ⟨rfl, by simp [layM]⟩
/-- One call of a script. -/
structure AV where
  d : Int
  i : Int
  n : Int
  data : List UInt8
  loss : Ls
def AV.vals (a : AV) : List Value := [.int .i64 a.d, .int .i64 a.i, .int .i64 a.n, str a.data, .int .u64 a.loss.keep, .int .i64 a.loss.torn, .int .i64 a.loss.pos]
structure AV.Ok (a : AV) : Prop where
  n : a.n ≤ 9223372036854775807
  s : a.data.length ≤ 9223372036854775807
  l : a.loss.keep < 18446744073709551616 ∧ inR .i64 a.loss.pos
/-- Both disks, and what is true of them. -/
structure DI (lim : Bool) (most : Int) (T : List (List Value)) (b : Nat) (D : Dk) : Prop where
  ok : D.Ok
  wk : D.Wk
  lr : LimR lim most D
  t : T.length ≤ b
def bothC (d m : Nat) (v : Value) (r : Nat) (lv wv tv : Value) (lim : Bool) (most : Int) (T : List (List Value)) (D : Dk) : List Chunk := dkC d m v D ++ rkC r lv wv tv lim most T D D.lasts (waitL D)
theorem callDo5 : Callable Try.prog 32 := ⟨_, Try.func32, by kernel_rfl, rfl⟩
end Go.Proofs.Ytpcfnhjeacahdaa
