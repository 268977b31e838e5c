/- A part of the library, as the kit's shelf has it, for this program. -/
import Derived.Test.YtahpemfnhepgoaaLtA
import Derived.Test.YtahpemfnhepgoaaProg
import Derived.Ground.NamesProg
import Derived.Shelf.Small.Strs
import Derived.Test.YtahpemfnhepgoaaLtT
import Derived.Test.YtahpemfnhepgoaaTy
import Derived.Test.YtahpemfnhepgoaaShC
import Derived.Shelf.Strings.Search2
namespace Go.Proofs.Ytahpemfnhepgoaa
set_option linter.all false
set_option maxRecDepth 4000
open Go.Shelf
def laysIdx_ren : Go.Shelf.Ren := ⟨fun | 137 => 42 | 217 => 54 | 266 => 65 | n => n, fun | 9 => 9 | 5 => 5 | 3 => 3 | n => n, fun | n => n⟩
theorem laysIdx : Go.Proofs.Lays.n137 Try.prog laysIdx_ren := {
  mixed := by kernel_rfl
  f137 := Try.func42.trans (congrArg some (by kernel_rfl))
  f217 := Try.func54.trans (congrArg some (by kernel_rfl))
  f266 := Try.func65.trans (congrArg some (by kernel_rfl))
  t3 := Try.underlying3
  a3 := Try.isAgg3
  z3 := Try.sizeOf3
  v3 := Try.zeroValue3
  t5 := Try.underlying5
  a5 := Try.isAgg5
  z5 := Try.sizeOf5
  v5 := Try.zeroValue5
  t9 := Try.underlying9
  a9 := Try.isAgg9
  z9 := Try.sizeOf9
  v9 := Try.zeroValue9 }
end Go.Proofs.Ytahpemfnhepgoaa
namespace Go.Proofs.Ytahpemfnhepgoaa
set_option linter.all false
set_option maxRecDepth 4000
open Go.RowKit

theorem St.keep {h : Heap} {H : List Chunk} {w : World} (s : StI h H w) : St ⟨w, keys H, h⟩ h H w := s.start
def posB (c : UInt8) : List UInt8 -> Nat
  | [] => 0
  | b :: l => if b = c then 0 else posB c l + 1
theorem posB_le (c : UInt8) : ∀ s, posB c s <= s.length
  | [] => Nat.le_refl _
  | b :: l => by unfold posB; have := posB_le c l; split <;> simp <;> omega
theorem indexByte_pos (c : UInt8) : ∀ s, Lib.indexByte s c = if posB c s < s.length then (posB c s : Int) else -1
  | [] => rfl
  | b :: l => by
    have ih := indexByte_pos c l
    have hl := posB_le c l
    unfold Lib.indexByte posB
    by_cases hb : b = c
    . simp [hb]
    . have hb' : (b == c) = false := by simpa using hb
      rw [if_neg hb, hb']
      simp only [Bool.false_eq_true, if_false]
      rw [ih]
      by_cases h : posB c l < l.length
      . have h2 : posB c l + 1 < (b :: l).length := by simp; omega
        rw [if_pos h, if_pos h2]
        have : (((posB c l : Nat) : Int) == -1) = false := by rw [beq_eq_false_iff_ne]; omega
        rw [this]; simp
      . have h2 : ¬ posB c l + 1 < (b :: l).length := by simp; omega
        rw [if_neg h, if_neg h2]; rfl
theorem posB_get {c : UInt8} : ∀ {s : List UInt8}, posB c s < s.length -> s[posB c s]? = some c
  | [], h => absurd h (by simp [posB])
  | b :: l, h => by
    unfold posB at h ⊢
    by_cases hb : b = c
    . rw [if_pos hb]; simp [hb]
    . rw [if_neg hb] at h ⊢
      have := posB_get (c := c) (s := l) (by simpa using h)
      simpa using this
theorem posB_no {c : UInt8} : ∀ {s : List UInt8} {i : Nat}, i < posB c s -> s[i]? ≠ some c
  | [], i, h => absurd h (by simp [posB])
  | b :: l, i, h => by
    unfold posB at h
    by_cases hb : b = c
    . rw [if_pos hb] at h; exact absurd h (by omega)
    . rw [if_neg hb] at h
      cases i with
      | zero => simpa using hb
      | succ i => have := posB_no (c := c) (s := l) (i := i) (by omega); simpa using this
theorem posB_at {c : UInt8} {s : List UInt8} {i : Nat} (h1 : s[i]? = some c) (h2 : ∀ j, j < i -> s[j]? ≠ some c) : posB c s = i := by
  rcases Nat.lt_trichotomy (posB c s) i with h | h | h
  . exact absurd (posB_get (by have := (List.getElem?_eq_some_iff.1 h1).1; omega)) (h2 _ h)
  . exact h
  . exact absurd h1 (posB_no h)
theorem posB_none {c : UInt8} {s : List UInt8} (h : ∀ j, j < s.length -> s[j]? ≠ some c) : posB c s = s.length := by
  rcases Nat.lt_or_ge (posB c s) s.length with h1 | h1
  . exact absurd (posB_get h1) (h _ h1)
  . have := posB_le c s; omega
theorem callIdxB : Callable Try.prog 42 := ⟨_, Try.func42, by kernel_rfl, rfl⟩
theorem callSlIdx : Callable Try.prog 52 := ⟨_, Try.func52, by kernel_rfl, rfl⟩
theorem callSlCut : Callable Try.prog 38 := ⟨_, Try.func38, by kernel_rfl, rfl⟩
theorem callCut : Callable Try.prog 25 := ⟨_, Try.func25, by kernel_rfl, rfl⟩
theorem str_IndexByte (s : List UInt8) (c : Nat) (hc : c < 256) (h : Heap) : Spec Try.prog 42 [str s, .int .u8 c] h [] (fun u _ H' => u = .int .i64 (if posB (UInt8.ofNat c) s < s.length then (posB (UInt8.ofNat c) s : Int) else -1) /\ H' = []) := by
  refine ⟨fun w hw => ?_⟩
  refine (Any.strings_IndexByte laysIdx ⟨s.toArray⟩ c w).mono ?_
  rintro e w' ⟨rfl, rfl⟩
  refine ⟨_, h, [], rfl, ⟨?_, rfl⟩, hw.start⟩
  rw [<- indexByte_pos]
  rfl
theorem str_Index1 (s : List UInt8) (c : UInt8) (h : Heap) : Spec Try.prog 52 [str s, str [c]] h [] (fun u _ H' => u = .int .i64 (if posB c s < s.length then (posB c s : Int) else -1) /\ H' = []) := by
  refine ⟨fun w hw => ?_⟩
  refine (Any.stringslite_Index_one { laysCut with } ⟨s.toArray⟩ c w).mono ?_
  rintro e w' ⟨rfl, rfl⟩
  refine ⟨_, h, [], rfl, ⟨?_, rfl⟩, hw.start⟩
  rw [<- indexByte_pos]
def cutV (c : UInt8) (s : List UInt8) : Value := .tuple #[str (s.take (posB c s)), str (s.drop (posB c s + 1)), .bool (decide (posB c s < s.length))]
theorem sl_Cut (s : List UInt8) (hs : s.length <= 1000000000) (c : UInt8) (h : Heap) : Spec Try.prog 38 [str s, str [c]] h [] (fun u _ H' => u = cutV c s /\ H' = []) := by
  have hl := posB_le c s
  have h1 : ([c] : List UInt8).length = 1 := rfl
  unfold cutV
  generalize hp : posB c s = p at *
  by_cases hlt : p < s.length
  . rw [decide_eq_true hlt]
    refine Spec.enter Try.func38 rfl rfl ?_; intro w0
    repeat' (first | (show G _ (.ops .seq _ (⟨some _, .call { callee := .value (.func 52), args := _, argTypes := _ }, _, _, _, none⟩ :: _) :: _) _ _ _; refine G.call callSlIdx rfl rfl (str_Index1 s c _) Ze ?_; rintro _ h2 H2 ⟨rfl, rfl⟩ hle2; rw [hp, if_pos hlt]) | (refine G.atCode ?_; first | refine G.seq ?_ | refine G.region ?_ | refine G.drawAll slB Zw mixedOk Zw ?_ | refine G.ret ?_ | (refine G.cond rfl ?_ ?_ <;> intro hc <;> (try simp only [tests, reduceCtorEq] at hc) <;> (try exact Zf))) | refine G.endOps ?_ | refine G.endStill ?_ | (refine G.atBin ?_; first | (refine G.atAdd ?_; first | refine G.arith rfl rfl rfl rfl rfl Zi ?_) | refine G.op rfl rfl ?_) | refine G.op rfl rfl ?_ | (refine G.atLen ?_; first | refine G.lenStr rfl (tyy rfl) rfl ?_) | (refine G.atSlc ?_; first | refine G.dropStr rfl rfl (tyy rfl) rfl Zj Zo ?_ | refine G.takeStr rfl rfl (tyy rfl) rfl Zj Zo ?_))
    have h3 : ((p : Int) + (([c] : List UInt8).length : Nat)).toNat = p + 1 := by simp only [List.length_cons, List.length_nil]; omega
    rw [h3]
    exact G.done3 rfl rfl rfl rfl _ (SubH.nil _) ⟨rfl, rfl⟩
  . rw [decide_eq_false hlt]
    refine Spec.enter Try.func38 rfl rfl ?_; intro w0
    repeat' (first | (show G _ (.ops .seq _ (⟨some _, .call { callee := .value (.func 52), args := _, argTypes := _ }, _, _, _, none⟩ :: _) :: _) _ _ _; refine G.call callSlIdx rfl rfl (str_Index1 s c _) Ze ?_; rintro _ h2 H2 ⟨rfl, rfl⟩ hle2; rw [hp, if_neg hlt]) | (refine G.atCode ?_; first | refine G.seq ?_ | refine G.region ?_ | refine G.skip ?_ | refine G.ret ?_ | (refine G.cond rfl ?_ ?_ <;> intro hc <;> (try simp only [tests, reduceCtorEq] at hc) <;> (try exact Zf))) | refine G.endOps ?_ | (refine G.atBin ?_; first | refine G.op rfl rfl ?_) | refine G.op rfl rfl ?_)
    rw [List.take_of_length_le (by omega), List.drop_eq_nil_of_le (by omega)]
    exact G.done3 rfl rfl rfl rfl _ (SubH.nil _) ⟨rfl, rfl⟩
theorem str_Cut (s : List UInt8) (hs : s.length <= 1000000000) (c : UInt8) (h : Heap) : Spec Try.prog 25 [str s, str [c]] h [] (fun u _ H' => u = cutV c s /\ H' = []) := by
  refine Spec.enter Try.func25 rfl rfl ?_; intro w0
  repeat' (first | (show G _ (.ops .seq _ (⟨some _, .call { callee := .value (.func 38), args := _, argTypes := _ }, _, _, _, none⟩ :: _) :: _) _ _ _; refine G.call callSlCut rfl rfl (sl_Cut s hs c _) Ze ?_; rintro _ h2 H2 ⟨rfl, rfl⟩ hle2; unfold cutV) | (refine G.atCode ?_; first | refine G.seq ?_ | refine G.region ?_ | refine G.ret ?_) | refine G.endOps ?_ | refine G.op rfl rfl ?_)
  all_goals exact G.done3 rfl rfl rfl rfl _ (SubH.nil _) ⟨rfl, rfl⟩
end Go.Proofs.Ytahpemfnhepgoaa
