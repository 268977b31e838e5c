/- A part of the library, as the kit's shelf has it, for this program. -/
import Derived.Test.YtcghcdnmpjhifaaDoorLtA
import Derived.Test.YtcghcdnmpjhifaaDoorProg
import Derived.Ground.NamesProg
import Derived.Shelf.Strings.Cut
import Derived.Shelf.Small.Strs
import Derived.Test.YtcghcdnmpjhifaaDoorLtU
import Derived.Test.YtcghcdnmpjhifaaDoorTy
import Derived.Shelf.Strings.Search2
namespace Go.Proofs.YtcghcdnmpjhifaaDoor
set_option linter.all false
set_option maxRecDepth 4000
open Go.Shelf
def laysCut_ren : Go.Shelf.Ren := ⟨fun | 145 => 41 | 220 => 56 | 219 => 64 | 217 => 60 | 225 => 63 | 224 => 62 | 267 => 70 | 266 => 69 | 314 => 74 | n => n, fun | 9 => 9 | 4 => 4 | 59 => 74 | 3 => 3 | 5 => 5 | 46 => 34 | 146 => 99 | 51 => 98 | n => n, fun | 1 => 2 | n => n⟩
theorem laysCut : Go.Proofs.Lays.n145 Tryd.prog laysCut_ren := {
  mixed := by kernel_rfl
  f145 := Tryd.func41.trans (congrArg some (by kernel_rfl))
  f217 := Tryd.func60.trans (congrArg some (by kernel_rfl))
  f219 := Tryd.func64.trans (congrArg some (by kernel_rfl))
  f220 := Tryd.func56.trans (congrArg some (by kernel_rfl))
  f224 := Tryd.func62.trans (congrArg some (by kernel_rfl))
  f225 := Tryd.func63.trans (congrArg some (by kernel_rfl))
  f266 := Tryd.func69.trans (congrArg some (by kernel_rfl))
  f267 := Tryd.func70.trans (congrArg some (by kernel_rfl))
  f314 := Tryd.func74.trans (congrArg some (by kernel_rfl))
  t3 := Tryd.underlying3
  a3 := Tryd.isAgg3
  z3 := Tryd.sizeOf3
  v3 := Tryd.zeroValue3
  t4 := Tryd.underlying4
  a4 := Tryd.isAgg4
  z4 := Tryd.sizeOf4
  v4 := Tryd.zeroValue4
  t5 := Tryd.underlying5
  a5 := Tryd.isAgg5
  z5 := Tryd.sizeOf5
  v5 := Tryd.zeroValue5
  t9 := Tryd.underlying9
  a9 := Tryd.isAgg9
  z9 := Tryd.sizeOf9
  v9 := Tryd.zeroValue9
  t46 := Tryd.underlying34
  a46 := Tryd.isAgg34
  z46 := Tryd.sizeOf34
  v46 := Tryd.zeroValue34
  t51 := Tryd.underlying98
  a51 := Tryd.isAgg98
  z51 := Tryd.sizeOf98
  v51 := Tryd.zeroValue98
  t59 := Tryd.underlying74
  a59 := Tryd.isAgg74
  z59 := Tryd.sizeOf74
  v59 := Tryd.zeroValue74
  t146 := Tryd.underlying99
  a146 := Tryd.isAgg99
  z146 := Tryd.sizeOf99
  v146 := Tryd.zeroValue99
  g1 := by kernel_rfl }
end Go.Proofs.YtcghcdnmpjhifaaDoor
namespace Go.Proofs.YtcghcdnmpjhifaaDoor
set_option linter.all false
set_option maxRecDepth 4000
open Go.Shelf
def laysIdx_ren : Go.Shelf.Ren := ⟨fun | 137 => 46 | 217 => 60 | 266 => 69 | n => n, fun | 9 => 9 | 5 => 5 | 3 => 3 | n => n, fun | n => n⟩
theorem laysIdx : Go.Proofs.Lays.n137 Tryd.prog laysIdx_ren := {
  mixed := by kernel_rfl
  f137 := Tryd.func46.trans (congrArg some (by kernel_rfl))
  f217 := Tryd.func60.trans (congrArg some (by kernel_rfl))
  f266 := Tryd.func69.trans (congrArg some (by kernel_rfl))
  t3 := Tryd.underlying3
  a3 := Tryd.isAgg3
  z3 := Tryd.sizeOf3
  v3 := Tryd.zeroValue3
  t5 := Tryd.underlying5
  a5 := Tryd.isAgg5
  z5 := Tryd.sizeOf5
  v5 := Tryd.zeroValue5
  t9 := Tryd.underlying9
  a9 := Tryd.isAgg9
  z9 := Tryd.sizeOf9
  v9 := Tryd.zeroValue9 }
end Go.Proofs.YtcghcdnmpjhifaaDoor
namespace Go.Proofs.YtcghcdnmpjhifaaDoor
set_option linter.all false
set_option maxRecDepth 4000
open Go.RowKit

theorem St.keep {h : Heap} {H : List Chunk} {w : World} (s : StI h H w) : St ⟨w, keys H, h⟩ h H w := s.start
def posB (c : UInt8) : List UInt8 -> Nat
  | [] => 0
  | b :: l => if b = c then 0 else posB c l + 1
theorem posB_le (c : UInt8) : ∀ s, posB c s <= s.length
  | [] => Nat.le_refl _
  | b :: l => by unfold posB; have := posB_le c l; split <;> simp <;> omega
theorem indexByte_pos (c : UInt8) : ∀ s, Lib.indexByte s c = if posB c s < s.length then (posB c s : Int) else -1
  | [] => rfl
  | b :: l => by
    have ih := indexByte_pos c l
    have hl := posB_le c l
    unfold Lib.indexByte posB
    by_cases hb : b = c
    . simp [hb]
    . have hb' : (b == c) = false := by simpa using hb
      rw [if_neg hb, hb']
      simp only [Bool.false_eq_true, if_false]
      rw [ih]
      by_cases h : posB c l < l.length
      . have h2 : posB c l + 1 < (b :: l).length := by simp; omega
        rw [if_pos h, if_pos h2]
        have : (((posB c l : Nat) : Int) == -1) = false := by rw [beq_eq_false_iff_ne]; omega
        rw [this]; simp
      . have h2 : ¬ posB c l + 1 < (b :: l).length := by simp; omega
        rw [if_neg h, if_neg h2]; rfl
theorem posB_get {c : UInt8} : ∀ {s : List UInt8}, posB c s < s.length -> s[posB c s]? = some c
  | [], h => absurd h (by simp [posB])
  | b :: l, h => by
    unfold posB at h ⊢
    by_cases hb : b = c
    . rw [if_pos hb]; simp [hb]
    . rw [if_neg hb] at h ⊢
      have := posB_get (c := c) (s := l) (by simpa using h)
      simpa using this
theorem posB_none {c : UInt8} {s : List UInt8} (h : ∀ j, j < s.length -> s[j]? ≠ some c) : posB c s = s.length := by
  rcases Nat.lt_or_ge (posB c s) s.length with h1 | h1
  . exact absurd (posB_get h1) (h _ h1)
  . have := posB_le c s; omega
theorem callIdxB : Callable Tryd.prog 46 := ⟨_, Tryd.func46, by kernel_rfl, rfl⟩
theorem callSlIdx : Callable Tryd.prog 64 := ⟨_, Tryd.func64, by kernel_rfl, rfl⟩
theorem callSlCut : Callable Tryd.prog 56 := ⟨_, Tryd.func56, by kernel_rfl, rfl⟩
theorem callCut : Callable Tryd.prog 41 := ⟨_, Tryd.func41, by kernel_rfl, rfl⟩
theorem str_IndexByte (s : List UInt8) (c : Nat) (hc : c < 256) (h : Heap) : Spec Tryd.prog 46 [str s, .int .u8 c] h [] (fun u _ H' => u = .int .i64 (if posB (UInt8.ofNat c) s < s.length then (posB (UInt8.ofNat c) s : Int) else -1) /\ H' = []) := by
  refine ⟨fun w hw => ?_⟩
  refine (Any.strings_IndexByte laysIdx ⟨s.toArray⟩ c w).mono ?_
  rintro e w' ⟨rfl, rfl⟩
  refine ⟨_, h, [], rfl, ⟨?_, rfl⟩, hw.start⟩
  rw [<- indexByte_pos]
  rfl
theorem str_Index1 (s : List UInt8) (c : UInt8) (h : Heap) : Spec Tryd.prog 64 [str s, str [c]] h [] (fun u _ H' => u = .int .i64 (if posB c s < s.length then (posB c s : Int) else -1) /\ H' = []) := by
  refine ⟨fun w hw => ?_⟩
  refine (Any.stringslite_Index_one { laysCut with } ⟨s.toArray⟩ c w).mono ?_
  rintro e w' ⟨rfl, rfl⟩
  refine ⟨_, h, [], rfl, ⟨?_, rfl⟩, hw.start⟩
  rw [<- indexByte_pos]
def cutV (c : UInt8) (s : List UInt8) : Value := .tuple #[str (s.take (posB c s)), str (s.drop (posB c s + 1)), .bool (decide (posB c s < s.length))]
theorem sl_Cut (s : List UInt8) (hs : s.length <= 1000000000) (c : UInt8) (h : Heap) : Spec Tryd.prog 56 [str s, str [c]] h [] (fun u _ H' => u = cutV c s /\ H' = []) := by
  have hl := posB_le c s
  have h1 : ([c] : List UInt8).length = 1 := rfl
  unfold cutV
  generalize hp : posB c s = p at *
  by_cases hlt : p < s.length
  . rw [decide_eq_true hlt]
    refine Spec.enter Tryd.func56 rfl rfl ?_; intro w0
    repeat' (first | (show G _ (.ops .seq _ (⟨some _, .call { callee := .value (.func 64), args := _, argTypes := _ }, _, _, _, none⟩ :: _) :: _) _ _ _; refine G.call callSlIdx rfl rfl (str_Index1 s c _) Ze ?_; rintro _ h2 H2 ⟨rfl, rfl⟩ hle2; rw [hp, if_pos hlt]) | (refine G.atCode ?_; first | refine G.seq ?_ | refine G.region ?_ | refine G.drawAll slB Zw mixedOk Zw ?_ | refine G.ret ?_ | (refine G.cond rfl ?_ ?_ <;> intro hc <;> (try simp only [tests, reduceCtorEq] at hc) <;> (try exact Zf))) | refine G.endOps ?_ | refine G.endStill ?_ | (refine G.atBin ?_; first | (refine G.atAdd ?_; first | refine G.arith rfl rfl rfl rfl rfl Zi ?_) | refine G.op rfl rfl ?_) | refine G.op rfl rfl ?_ | (refine G.atLen ?_; first | refine G.lenStr rfl (tyy rfl) rfl ?_) | (refine G.atSlc ?_; first | refine G.dropStr rfl rfl (tyy rfl) rfl Zj Zo ?_ | refine G.takeStr rfl rfl (tyy rfl) rfl Zj Zo ?_))
    have h3 : ((p : Int) + (([c] : List UInt8).length : Nat)).toNat = p + 1 := by simp only [List.length_cons, List.length_nil]; omega
    rw [h3]
    exact G.done3 rfl rfl rfl rfl _ (SubH.nil _) ⟨rfl, rfl⟩
  . rw [decide_eq_false hlt]
    refine Spec.enter Tryd.func56 rfl rfl ?_; intro w0
    repeat' (first | (show G _ (.ops .seq _ (⟨some _, .call { callee := .value (.func 64), args := _, argTypes := _ }, _, _, _, none⟩ :: _) :: _) _ _ _; refine G.call callSlIdx rfl rfl (str_Index1 s c _) Ze ?_; rintro _ h2 H2 ⟨rfl, rfl⟩ hle2; rw [hp, if_neg hlt]) | (refine G.atCode ?_; first | refine G.seq ?_ | refine G.region ?_ | refine G.skip ?_ | refine G.ret ?_ | (refine G.cond rfl ?_ ?_ <;> intro hc <;> (try simp only [tests, reduceCtorEq] at hc) <;> (try exact Zf))) | refine G.endOps ?_ | (refine G.atBin ?_; first | refine G.op rfl rfl ?_) | refine G.op rfl rfl ?_)
    rw [List.take_of_length_le (by omega), List.drop_eq_nil_of_le (by omega)]
    exact G.done3 rfl rfl rfl rfl _ (SubH.nil _) ⟨rfl, rfl⟩
theorem str_Cut (s : List UInt8) (hs : s.length <= 1000000000) (c : UInt8) (h : Heap) : Spec Tryd.prog 41 [str s, str [c]] h [] (fun u _ H' => u = cutV c s /\ H' = []) := by
  refine Spec.enter Tryd.func41 rfl rfl ?_; intro w0
  repeat' (first | (show G _ (.ops .seq _ (⟨some _, .call { callee := .value (.func 56), args := _, argTypes := _ }, _, _, _, none⟩ :: _) :: _) _ _ _; refine G.call callSlCut rfl rfl (sl_Cut s hs c _) Ze ?_; rintro _ h2 H2 ⟨rfl, rfl⟩ hle2; unfold cutV) | (refine G.atCode ?_; first | refine G.seq ?_ | refine G.region ?_ | refine G.ret ?_) | refine G.endOps ?_ | refine G.op rfl rfl ?_)
  all_goals exact G.done3 rfl rfl rfl rfl _ (SubH.nil _) ⟨rfl, rfl⟩
end Go.Proofs.YtcghcdnmpjhifaaDoor
