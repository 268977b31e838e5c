/- strings.IndexByte, strings.Cut at one byte, strings.Join, as contracts of the light walk. -/
import Derived.Test.YtcghcdnmpjhifaaDoorLtS
import Derived.Test.YtcghcdnmpjhifaaDoorTy
import Derived.Test.YtcghcdnmpjhifaaDoorShI
import Derived.Test.YtcghcdnmpjhifaaDoorShC
import Derived.Shelf.Strings.Search2
namespace Go.Proofs.YtcghcdnmpjhifaaDoor
set_option linter.all false
open Go.RowKit

theorem St.keep {h : Heap} {H : List Chunk} {w : World} (s : StI h H w) : St ⟨w, keys H, h⟩ h H w := s.start
/-- Where a byte stands first; the length: nowhere. -/
def posB (c : UInt8) : List UInt8 → Nat
  | [] => 0
  | b :: l => if b = c then 0 else posB c l + 1
theorem posB_le (c : UInt8) : ∀ s, posB c s ≤ s.length
  | [] => Nat.le_refl _
  | b :: l => by unfold posB; have := posB_le c l; split <;> simp <;> omega
theorem indexByte_pos (c : UInt8) : ∀ s, Lib.indexByte s c = if posB c s < s.length then (posB c s : Int) else -1
  | [] => rfl
  | b :: l => by
    have ih := indexByte_pos c l
    have hl := posB_le c l
    unfold Lib.indexByte posB
    by_cases hb : b = c
    · simp [hb]
    · have hb' : (b == c) = false := by simpa using hb
      rw [if_neg hb, hb']
      simp only [Bool.false_eq_true, if_false]
      rw [ih]
      by_cases h : posB c l < l.length
      · have h2 : posB c l + 1 < (b :: l).length := by simp; omega
        rw [if_pos h, if_pos h2]
        have : (((posB c l : Nat) : Int) == -1) = false := by rw [beq_eq_false_iff_ne]; omega
        rw [this]; simp
      · have h2 : ¬ posB c l + 1 < (b :: l).length := by simp; omega
        rw [if_neg h, if_neg h2]; rfl
theorem posB_get {c : UInt8} : ∀ {s : List UInt8}, posB c s < s.length → s[posB c s]? = some c
  | [], h => absurd h (by simp [posB])
  | b :: l, h => by
    unfold posB at h ⊢
    by_cases hb : b = c
    · rw [if_pos hb]; simp [hb]
    · rw [if_neg hb] at h ⊢
      have := posB_get (c := c) (s := l) (by simpa using h)
      simpa using this
theorem posB_none {c : UInt8} {s : List UInt8} (h : ∀ j, j < s.length → s[j]? ≠ some c) : posB c s = s.length := by
  rcases Nat.lt_or_ge (posB c s) s.length with h1 | h1
  · exact absurd (posB_get h1) (h _ h1)
  · have := posB_le c s; omega
theorem callIdxB : Callable Tryd.prog 46 := ⟨_, Tryd.func46, by kernel_rfl, rfl⟩
theorem callSlIdx : Callable Tryd.prog 64 := ⟨_, Tryd.func64, by kernel_rfl, rfl⟩
theorem callSlCut : Callable Tryd.prog 56 := ⟨_, Tryd.func56, by kernel_rfl, rfl⟩
theorem callCut : Callable Tryd.prog 41 := ⟨_, Tryd.func41, by kernel_rfl, rfl⟩
theorem str_IndexByte (s : List UInt8) (c : Nat) (hc : c < 256) (h : Heap) : Spec Tryd.prog 46 [str s, .int .u8 c] h [] (fun u _ H' => u = .int .i64 (if posB (UInt8.ofNat c) s < s.length then (posB (UInt8.ofNat c) s : Int) else -1) ∧ H' = []) := by
  refine ⟨fun w hw => ?_⟩
  refine (Any.strings_IndexByte laysIdx ⟨s.toArray⟩ c w).mono ?_
  rintro e w' ⟨rfl, rfl⟩
  refine ⟨_, h, [], rfl, ⟨?_, rfl⟩, hw.start⟩
  rw [← indexByte_pos]
  rfl
theorem str_Index1 (s : List UInt8) (c : UInt8) (h : Heap) : Spec Tryd.prog 64 [str s, str [c]] h [] (fun u _ H' => u = .int .i64 (if posB c s < s.length then (posB c s : Int) else -1) ∧ H' = []) := by
  refine ⟨fun w hw => ?_⟩
  refine (Any.stringslite_Index_one { laysCut with } ⟨s.toArray⟩ c w).mono ?_
  rintro e w' ⟨rfl, rfl⟩
  refine ⟨_, h, [], rfl, ⟨?_, rfl⟩, hw.start⟩
  rw [← indexByte_pos]
/-- What is ahead of a byte, what is behind it, whether it is there. -/
def cutV (c : UInt8) (s : List UInt8) : Value := .tuple #[str (s.take (posB c s)), str (s.drop (posB c s + 1)), .bool (decide (posB c s < s.length))]
theorem sl_Cut (s : List UInt8) (hs : s.length ≤ 1000000000) (c : UInt8) (h : Heap) : Spec Tryd.prog 56 [str s, str [c]] h [] (fun u _ H' => u = cutV c s ∧ H' = []) := by
  have hl := posB_le c s
  have h1 : ([c] : List UInt8).length = 1 := rfl
  unfold cutV
  generalize hp : posB c s = p at *
  by_cases hlt : p < s.length
  · rw [decide_eq_true hlt]
    refine Spec.enter Tryd.func56 rfl rfl ?_; intro w0
    repeat' (first | (show G _ (.ops .seq _ (⟨some _, .call { callee := .value (.func 64), args := _, argTypes := _ }, _, _, _, none⟩ :: _) :: _) _ _ _; refine G.call callSlIdx rfl rfl (str_Index1 s c _) (by solve | (repeat (first | apply Takes.nil | apply Take.hd | apply Take.tl | apply Takes.cons))) ?_; rintro _ h2 H2 ⟨rfl, rfl⟩ hle2; rw [hp, if_pos hlt]) | (refine G.atCode ?_; first | refine G.seq ?_ | refine G.region ?_ | refine G.drawAll slB (by decide +kernel) mixedOk (by decide +kernel) ?_ | refine G.ret ?_ | (refine G.cond rfl ?_ ?_ <;> intro hc <;> (try simp only [tests, reduceCtorEq] at hc) <;> (try (exfalso; first | omega | exact absurd hc (by with_reducible assumption) | exact absurd (by with_reducible assumption) hc | exact Bool.noConfusion hc | exact hc | exact hc trivial | fail)))) | refine G.endOps ?_ | refine G.endStill ?_ | (refine G.atBin ?_; first | (refine G.atAdd ?_; first | refine G.arith rfl rfl rfl rfl rfl (by simp only [inR]; omega) ?_) | refine G.op rfl rfl ?_) | refine G.op rfl rfl ?_ | (refine G.atLen ?_; first | refine G.lenStr rfl (tyy rfl) rfl ?_) | (refine G.atSlc ?_; first | refine G.dropStr rfl rfl (tyy rfl) rfl (by first | (simp only [Int.reduceToNat]; rfl) | with_reducible apply Int.toNat_natCast | exact Eq.refl _) (by first | omega | (simp only [lens] at *; omega)) ?_ | refine G.takeStr rfl rfl (tyy rfl) rfl (by first | (simp only [Int.reduceToNat]; rfl) | with_reducible apply Int.toNat_natCast | exact Eq.refl _) (by first | omega | (simp only [lens] at *; omega)) ?_))
    have h3 : ((p : Int) + (([c] : List UInt8).length : Nat)).toNat = p + 1 := by simp only [List.length_cons, List.length_nil]; omega
    rw [h3]
    exact G.done3 rfl rfl rfl rfl _ (SubH.nil _) ⟨rfl, rfl⟩
  · rw [decide_eq_false hlt]
    refine Spec.enter Tryd.func56 rfl rfl ?_; intro w0
    repeat' (first | (show G _ (.ops .seq _ (⟨some _, .call { callee := .value (.func 64), args := _, argTypes := _ }, _, _, _, none⟩ :: _) :: _) _ _ _; refine G.call callSlIdx rfl rfl (str_Index1 s c _) (by solve | (repeat (first | apply Takes.nil | apply Take.hd | apply Take.tl | apply Takes.cons))) ?_; rintro _ h2 H2 ⟨rfl, rfl⟩ hle2; rw [hp, if_neg hlt]) | (refine G.atCode ?_; first | refine G.seq ?_ | refine G.region ?_ | refine G.skip ?_ | refine G.ret ?_ | (refine G.cond rfl ?_ ?_ <;> intro hc <;> (try simp only [tests, reduceCtorEq] at hc) <;> (try (exfalso; first | omega | exact absurd hc (by with_reducible assumption) | exact absurd (by with_reducible assumption) hc | exact Bool.noConfusion hc | exact hc | exact hc trivial | fail)))) | refine G.endOps ?_ | (refine G.atBin ?_; first | refine G.op rfl rfl ?_) | refine G.op rfl rfl ?_)
    rw [List.take_of_length_le (by omega), List.drop_eq_nil_of_le (by omega)]
    exact G.done3 rfl rfl rfl rfl _ (SubH.nil _) ⟨rfl, rfl⟩
theorem str_Cut (s : List UInt8) (hs : s.length ≤ 1000000000) (c : UInt8) (h : Heap) : Spec Tryd.prog 41 [str s, str [c]] h [] (fun u _ H' => u = cutV c s ∧ H' = []) := by
  refine Spec.enter Tryd.func41 rfl rfl ?_; intro w0
  repeat' (first | (show G _ (.ops .seq _ (⟨some _, .call { callee := .value (.func 56), args := _, argTypes := _ }, _, _, _, none⟩ :: _) :: _) _ _ _; refine G.call callSlCut rfl rfl (sl_Cut s hs c _) (by solve | (repeat (first | apply Takes.nil | apply Take.hd | apply Take.tl | apply Takes.cons))) ?_; rintro _ h2 H2 ⟨rfl, rfl⟩ hle2; unfold cutV) | (refine G.atCode ?_; first | refine G.seq ?_ | refine G.region ?_ | refine G.ret ?_) | refine G.endOps ?_ | refine G.op rfl rfl ?_)
  all_goals exact G.done3 rfl rfl rfl rfl _ (SubH.nil _) ⟨rfl, rfl⟩
end Go.Proofs.YtcghcdnmpjhifaaDoor
