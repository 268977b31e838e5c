/- castellanref09.in, Type. -/
import Derived.Test.YtibkffoeioidlaaDoorOcB
import Derived.Test.YtibkffoeioidlaaDoorNd
import Derived.Test.YtibkffoeioidlaaDoorTy
import Derived.Test.YtibkffoeioidlaaDoorLtY
import Derived.Test.YtibkffoeioidlaaDoorLtA
import Derived.Test.YtibkffoeioidlaaDoorProg
import Derived.Ground.NamesProg
import Derived.Shelf.Small.Strs
import Derived.Shelf.Strings.Cut
import Derived.Shelf.Strings.Search2
import Derived.Shelf.Strings.IndexAnyAll
import Derived.Shelf.Strings.Count
import Derived.Test.YtibkffoeioidlaaDoorLtQ
import Derived.Laws.Runes
import Derived.KernelRfl
namespace Go.Proofs.YtibkffoeioidlaaDoor
set_option linter.all false
set_option maxRecDepth 4000
open Go.RowKit

def inN (c : Nat) (l : List UInt8) : Bool := l.any fun b => decide (b.toNat = c)
theorem ref09_in (c : Nat) (l : List UInt8) (hl : l.length ≤ 1000) (h : Heap) : Spec Tryd.prog 121 [.int .u8 c, str l] h [] (fun u _ H' => u = .bool (inN c l) ∧ H' = []) := by
  refine Spec.enter Tryd.func121 rfl rfl ?_; intro w0
  repeat' (first | (refine G.atCode ?_; refine G.stopLoop ?_) | (refine G.atCode ?_; first | refine G.seq ?_ | refine G.region ?_ | refine G.block ?_) | refine G.endOps ?_ | refine G.op rfl rfl ?_)
  refine G.go ?_
  refine G.loop (σ := Nat) (fun i => [(5, .int .i64 i), (1, str l), (0, .int .u8 c)]) (fun _ => []) (fun i _ => i ≤ l.length ∧ inN c (l.take i) = false) (fun i => l.length - i) 0 ⟨rfl, rfl, rfl, trivial⟩ (by solve | (apply Takes.sub; (repeat (first | apply Takes.nil | apply Take.hd | apply Take.tl | apply Takes.cons)))) ⟨Nat.zero_le _, by simp [inN]⟩ ?_
  rintro i h1 hle1 ⟨hi, hno⟩
  by_cases hlt : i < l.length
  · have hb := byteAt_eq hlt
    have hnext : inN c (l.take (i + 1)) = (inN c (l.take i) || decide (byteAt l i = c)) := by unfold inN; rw [List.take_succ_eq_append_getElem hlt, List.any_append, hb]; simp
    by_cases hc : byteAt l i = c
    · have e : inN c l = true := by
        unfold inN
        rw [List.any_eq_true]
        exact ⟨l[i], List.getElem_mem hlt, by rw [← hb]; simp [hc]⟩
      rw [e]
      repeat' (first | (refine G.atCode ?_; first | refine G.seq ?_ | refine G.region ?_ | refine G.block ?_ | refine G.skip ?_ | refine G.ret ?_ | (refine G.cond rfl ?_ ?_ <;> intro hc <;> (try simp only [tests, reduceCtorEq] at hc) <;> (try (exfalso; first | omega | exact absurd hc (by with_reducible assumption) | exact absurd (by with_reducible assumption) hc | exact Bool.noConfusion hc | exact hc | exact hc trivial | fail)))) | refine G.endOps ?_ | (refine G.atBin ?_; first | (refine G.atEql ?_; first | refine G.op rfl rfl ?_) | refine G.op rfl rfl ?_) | refine G.op rfl rfl ?_ | (refine G.atLen ?_; first | refine G.lenStr rfl (tyy rfl) rfl ?_) | (refine G.atInd ?_; refine G.idxStr rfl rfl (tyy rfl) rfl (by first | (simp only [Int.reduceToNat]; rfl) | with_reducible apply Int.toNat_natCast | exact Eq.refl _) (by first | omega | (simp only [lens] at *; omega)) ?_; intro _))
      all_goals first | (exfalso; omega) | exact G.done1 rfl rfl _ (SubH.nil _) ⟨rfl, rfl⟩
    · have hno' : inN c (l.take (i + 1)) = false := by rw [hnext, hno, decide_eq_false hc]; rfl
      repeat' (first | (refine G.atCode ?_; first | refine G.seq ?_ | refine G.region ?_ | refine G.block ?_ | refine G.skip ?_ | (refine G.cond rfl ?_ ?_ <;> intro hc <;> (try simp only [tests, reduceCtorEq] at hc) <;> (try (exfalso; first | omega | exact absurd hc (by with_reducible assumption) | exact absurd (by with_reducible assumption) hc | exact Bool.noConfusion hc | exact hc | exact hc trivial | fail)))) | refine G.endOps ?_ | refine G.endBlk ?_ | (refine G.atBin ?_; first | (refine G.atAdd ?_; first | refine G.arith rfl rfl rfl rfl rfl (by simp only [inR]; omega) ?_) | (refine G.atEql ?_; first | refine G.op rfl rfl ?_) | refine G.op rfl rfl ?_) | refine G.op rfl rfl ?_ | (refine G.atLen ?_; first | refine G.lenStr rfl (tyy rfl) rfl ?_) | (refine G.atInd ?_; refine G.idxStr rfl rfl (tyy rfl) rfl (by first | (simp only [Int.reduceToNat]; rfl) | with_reducible apply Int.toNat_natCast | exact Eq.refl _) (by first | omega | (simp only [lens] at *; omega)) ?_; intro _))
      all_goals first | (exfalso; omega) | exact G.again (i + 1) ⟨sint (by simp), rfl, rfl, trivial⟩ (SubH.nil _) ⟨by omega, hno'⟩ (by solve | (repeat (first | assumption | exact Heap.le_refl _ | (refine Heap.le_trans ?_ (by assumption))))) (by omega)
  · obtain rfl : i = l.length := by omega
    rw [List.take_length] at hno
    rw [hno]
    repeat' (first | (refine G.atCode ?_; first | refine G.seq ?_ | refine G.region ?_ | refine G.exit rfl ?_ | refine G.ret ?_ | (refine G.cond rfl ?_ ?_ <;> intro hc <;> (try simp only [tests, reduceCtorEq] at hc) <;> (try (exfalso; first | omega | exact absurd hc (by with_reducible assumption) | exact absurd (by with_reducible assumption) hc | exact Bool.noConfusion hc | exact hc | exact hc trivial | fail)))) | refine G.endOps ?_ | (refine G.atBin ?_; first | refine G.op rfl rfl ?_) | refine G.op rfl rfl ?_ | (refine G.atLen ?_; first | refine G.lenStr rfl (tyy rfl) rfl ?_))
    all_goals first | (exfalso; omega) | exact G.done1 rfl rfl _ (SubH.nil _) ⟨rfl, rfl⟩
def abc : List UInt8 := [97, 98, 99, 100, 101, 102, 103, 104, 105, 106, 107, 108, 109, 110, 111, 112, 113, 114, 115, 116, 117, 118, 119, 120, 121, 122]
def nums : List UInt8 := [48, 49, 50, 51, 52, 53, 54, 55, 56, 57, 45]
def lowN (n : Nat) : Nat := if 65 ≤ n ∧ n ≤ 90 then n + 32 else n
theorem low_all : ∀ n : Fin 256, inN (lowN n) abc = isLet (n : Nat) ∧ (isLet (n : Nat) || inN (lowN n) nums) = isTc (n : Nat) := by decide +kernel
theorem low_abc {n : Nat} (h : n < 256) : inN (lowN n) abc = isLet n := (low_all ⟨n, h⟩).1
theorem low_tc {n : Nat} (h : n < 256) : (isLet n || inN (lowN n) nums) = isTc n := (low_all ⟨n, h⟩).2
theorem byteAt_fold {s : List UInt8} {i : Nat} (h : i < s.length) : byteAt (foldM s) i = lowN (byteAt s i) := by
  rw [byteAt_eq (by rw [foldM_len]; exact h), byteAt_eq h]
  simp only [foldM, List.getElem_map, lowB, lowN]
  split
  · have := (s[i]).toNat_lt; simp [UInt8.toNat_ofNat']; omega
  · rfl
set_option maxRecDepth 8000 in
theorem ref09_Type (s : List UInt8) (hs : s.length ≤ 100000000) (h : Heap) : Spec Tryd.prog 118 [str s] h [] (fun u _ H' => u = .bool (typeM s) ∧ H' = []) := by
  have hfl := foldM_len s
  have e0 : ¬ (1 ≤ s.length ∧ s.length ≤ 32) → typeM s = false := fun h1 => by unfold typeM; rw [decide_eq_false h1]; simp
  refine Spec.enter Tryd.func118 rfl rfl ?_; intro w0
  repeat' (first | (show G _ (.ops .seq _ (⟨some _, .call { callee := .value (.func 120), args := _, argTypes := _ }, _, _, _, none⟩ :: _) :: _) _ _ _; refine G.call callRFold rfl rfl (ref01_Fold s hs _) (by solve | (repeat (first | apply Takes.nil | apply Take.hd | apply Take.tl | apply Takes.cons))) ?_; rintro _ h2 H2 ⟨rfl, rfl⟩ hle2) | (refine G.atCode ?_; refine G.stopLoop ?_) | (refine G.atCode ?_; first | refine G.seq ?_ | refine G.region ?_ | refine G.block ?_) | refine G.endOps ?_ | (refine G.atGd ?_; first | refine G.guardYes rfl rfl ?_ | refine G.guardNoS rfl rfl rfl ?_ | (refine G.guardS rfl rfl rfl ?_ ?_ <;> intro hc <;> (try simp only [tests, reduceCtorEq] at hc) <;> (try (exfalso; first | omega | exact absurd hc (by with_reducible assumption) | exact absurd (by with_reducible assumption) hc | exact Bool.noConfusion hc | exact hc | exact hc trivial | fail)))) | (refine G.atBin ?_; first | refine G.op rfl rfl ?_) | refine G.op rfl rfl ?_ | (refine G.atLen ?_; first | refine G.lenStr rfl (tyy rfl) rfl ?_))
  all_goals (
    refine G.go ?_
    refine G.loop (σ := Nat × Bool) (fun x => [(5, .int .i64 x.1), (4, .bool x.2), (3, str (foldM s))]) (fun _ => []) (fun x _ => x.1 ≤ s.length ∧ (x.2 = true → (1 ≤ s.length ∧ s.length ≤ 32) ∧ ∀ j, j < x.1 → isTc (byteAt s j) = true ∧ (j = 0 → isLet (byteAt s 0) = true)) ∧ (x.2 = false → typeM s = false)) (fun x => s.length - x.1) ⟨0, decide (1 ≤ s.length ∧ s.length ≤ 32)⟩
      ⟨rfl, sbool (by first | exact decide_eq_decide.2 (by omega) | exact (decide_eq_false (by omega)).symm), rfl, trivial⟩ (SubH.nil _) ⟨Nat.zero_le _, fun h1 => ⟨by simpa using h1, fun j hj => absurd hj (by simp)⟩, fun h1 => e0 (by simpa using h1)⟩ ?_
    rintro ⟨i, ok⟩ h1 hle1 ⟨hi, hy, hn⟩
    simp only at hi hy hn
    refine G.norm (by (try dsimp only) <;> exact rfl) (by (try dsimp only) <;> exact rfl) ?_
    by_cases hlt : i < s.length
    · cases ok with
      | false =>
        rw [hn rfl]
        repeat' (first | (refine G.atCode ?_; first | refine G.seq ?_ | refine G.region ?_ | refine G.exit rfl ?_ | refine G.ret ?_ | (refine G.cond rfl ?_ ?_ <;> intro hc <;> (try simp only [tests, reduceCtorEq] at hc) <;> (try (exfalso; first | omega | exact absurd hc (by with_reducible assumption) | exact absurd (by with_reducible assumption) hc | exact Bool.noConfusion hc | exact hc | exact hc trivial | fail)))) | refine G.endOps ?_ | (refine G.atGd ?_; first | (refine G.guardS rfl rfl rfl ?_ ?_ <;> intro hc <;> (try simp only [tests, reduceCtorEq] at hc) <;> (try (exfalso; first | omega | exact absurd hc (by with_reducible assumption) | exact absurd (by with_reducible assumption) hc | exact Bool.noConfusion hc | exact hc | exact hc trivial | fail)))) | (refine G.atBin ?_; first | refine G.op rfl rfl ?_) | refine G.op rfl rfl ?_ | (refine G.atLen ?_; first | refine G.lenStr rfl (tyy rfl) rfl ?_))
        all_goals first | (exfalso; omega) | exact G.done1 rfl rfl _ (SubH.nil _) ⟨rfl, rfl⟩
      | true =>
        obtain ⟨hy1, hy2⟩ := hy rfl
        have hbf := byteAt_fold hlt
        have hb := byteAt_lt s i
        have hup : isTc (byteAt s i) = true → (i = 0 → isLet (byteAt s 0) = true) → ∀ j, j < i + 1 → isTc (byteAt s j) = true ∧ (j = 0 → isLet (byteAt s 0) = true) := fun h1 h2 j hj => if hji : j < i then hy2 j hji else (show i = j by omega) ▸ ⟨h1, h2⟩
        have htc := low_tc hb
        cases hlet : isLet (byteAt s i) with
        | true =>
          rw [hlet] at htc
          have htc' : isTc (byteAt s i) = true := by rw [← htc]; rfl
          repeat' (first | (show G _ (.ops .seq _ (⟨some _, .call { callee := .value (.func 121), args := _, argTypes := _ }, _, _, _, none⟩ :: _) :: _) _ _ _; refine G.call callIn9 rfl rfl (ref09_in _ abc (by decide) _) (by solve | (repeat (first | apply Takes.nil | apply Take.hd | apply Take.tl | apply Takes.cons))) ?_; rintro _ h2 H2 ⟨rfl, rfl⟩ hle2; rw [hbf, low_abc hb, hlet]) | (refine G.atCode ?_; first | refine G.seq ?_ | refine G.region ?_ | refine G.block ?_ | refine G.skip ?_ | (refine G.cond rfl ?_ ?_ <;> intro hc <;> (try simp only [tests, reduceCtorEq] at hc) <;> (try (exfalso; first | omega | exact absurd hc (by with_reducible assumption) | exact absurd (by with_reducible assumption) hc | exact Bool.noConfusion hc | exact hc | exact hc trivial | fail)))) | refine G.endOps ?_ | refine G.endBlk ?_ | (refine G.atGd ?_; first | refine G.guardNoS rfl rfl rfl ?_ | refine G.guardU rfl rfl rfl ?_ | (refine G.guardS rfl rfl rfl ?_ ?_ <;> intro hc <;> (try simp only [tests, reduceCtorEq] at hc) <;> (try (exfalso; first | omega | exact absurd hc (by with_reducible assumption) | exact absurd (by with_reducible assumption) hc | exact Bool.noConfusion hc | exact hc | exact hc trivial | fail)))) | (refine G.atBin ?_; first | (refine G.atAdd ?_; first | refine G.arith rfl rfl rfl rfl rfl (by simp only [inR]; omega) ?_) | refine G.op rfl rfl ?_) | refine G.op rfl rfl ?_ | (refine G.atLen ?_; first | refine G.lenStr rfl (tyy rfl) rfl ?_) | (refine G.atInd ?_; refine G.idxStr rfl rfl (tyy rfl) rfl (by first | (simp only [Int.reduceToNat]; rfl) | with_reducible apply Int.toNat_natCast | exact Eq.refl _) (by first | omega | (simp only [lens] at *; omega)) ?_; intro _))
          all_goals first | (exfalso; omega) | exact G.again ⟨i + 1, true⟩ ⟨sint (by simp), rfl, rfl, trivial⟩ (SubH.nil _) ⟨by simp only; omega, fun _ => ⟨hy1, hup htc' (fun e => by subst e; exact hlet)⟩, fun e => Bool.noConfusion e⟩ (by solve | (repeat (first | assumption | exact Heap.le_refl _ | (refine Heap.le_trans ?_ (by assumption))))) (by simp only; omega)
        | false =>
          rw [hlet] at htc
          simp only [Bool.false_or] at htc
          by_cases hi0 : i = 0
          · have e : typeM s = false := by subst hi0; unfold typeM; rw [hlet]; simp
            repeat' (first | (show G _ (.ops .seq _ (⟨some _, .call { callee := .value (.func 121), args := _, argTypes := _ }, _, _, _, none⟩ :: _) :: _) _ _ _; refine G.call callIn9 rfl rfl (ref09_in _ abc (by decide) _) (by solve | (repeat (first | apply Takes.nil | apply Take.hd | apply Take.tl | apply Takes.cons))) ?_; rintro _ h2 H2 ⟨rfl, rfl⟩ hle2; rw [hbf, low_abc hb, hlet]) | (refine G.atCode ?_; first | refine G.seq ?_ | refine G.region ?_ | refine G.block ?_ | refine G.skip ?_ | (refine G.cond rfl ?_ ?_ <;> intro hc <;> (try simp only [tests, reduceCtorEq] at hc) <;> (try (exfalso; first | omega | exact absurd hc (by with_reducible assumption) | exact absurd (by with_reducible assumption) hc | exact Bool.noConfusion hc | exact hc | exact hc trivial | fail)))) | refine G.endOps ?_ | refine G.endBlk ?_ | (refine G.atGd ?_; first | refine G.guardYes rfl rfl ?_ | refine G.guardNoS rfl rfl rfl ?_ | (refine G.guardS rfl rfl rfl ?_ ?_ <;> intro hc <;> (try simp only [tests, reduceCtorEq] at hc) <;> (try (exfalso; first | omega | exact absurd hc (by with_reducible assumption) | exact absurd (by with_reducible assumption) hc | exact Bool.noConfusion hc | exact hc | exact hc trivial | fail)))) | (refine G.atBin ?_; first | (refine G.atAdd ?_; first | refine G.arith rfl rfl rfl rfl rfl (by simp only [inR]; omega) ?_) | refine G.op rfl rfl ?_) | refine G.op rfl rfl ?_ | (refine G.atLen ?_; first | refine G.lenStr rfl (tyy rfl) rfl ?_) | (refine G.atInd ?_; refine G.idxStr rfl rfl (tyy rfl) rfl (by first | (simp only [Int.reduceToNat]; rfl) | with_reducible apply Int.toNat_natCast | exact Eq.refl _) (by first | omega | (simp only [lens] at *; omega)) ?_; intro _))
            all_goals first | (exfalso; omega) | exact G.again ⟨i + 1, false⟩ ⟨sint (by simp), sbool (by first | rfl | exact decide_eq_false (by omega)), rfl, trivial⟩ (SubH.nil _) ⟨by simp only; omega, fun e => Bool.noConfusion e, fun _ => e⟩ (by solve | (repeat (first | assumption | exact Heap.le_refl _ | (refine Heap.le_trans ?_ (by assumption))))) (by simp only; omega)
          · have hinv : (isTc (byteAt s i) = true → (1 ≤ s.length ∧ s.length ≤ 32) ∧ ∀ j, j < i + 1 → isTc (byteAt s j) = true ∧ (j = 0 → isLet (byteAt s 0) = true)) ∧ (isTc (byteAt s i) = false → typeM s = false) := ⟨fun h1 => ⟨hy1, hup h1 (fun e => absurd e hi0)⟩, fun h1 => typeM_no hlt h1⟩
            generalize isTc (byteAt s i) = tc at *
            repeat' (first | (show G _ (.ops .seq _ (⟨some _, .call { callee := .value (.func 121), args := _, argTypes := _ }, _, _, _, none⟩ :: _) :: _) _ _ _; refine G.call callIn9 rfl rfl (ref09_in _ abc (by decide) _) (by solve | (repeat (first | apply Takes.nil | apply Take.hd | apply Take.tl | apply Takes.cons))) ?_; rintro _ h2 H2 ⟨rfl, rfl⟩ hle2; rw [hbf, low_abc hb, hlet]) | (show G _ (.ops .seq _ (⟨some _, .call { callee := .value (.func 121), args := _, argTypes := _ }, _, _, _, none⟩ :: _) :: _) _ _ _; refine G.call callIn9 rfl rfl (ref09_in _ nums (by decide) _) (by solve | (repeat (first | apply Takes.nil | apply Take.hd | apply Take.tl | apply Takes.cons))) ?_; rintro _ h2 H2 ⟨rfl, rfl⟩ hle2; rw [hbf, htc]) | (refine G.atCode ?_; first | refine G.seq ?_ | refine G.region ?_ | refine G.block ?_ | refine G.skip ?_ | (refine G.cond rfl ?_ ?_ <;> intro hc <;> (try simp only [tests, reduceCtorEq] at hc) <;> (try (exfalso; first | omega | exact absurd hc (by with_reducible assumption) | exact absurd (by with_reducible assumption) hc | exact Bool.noConfusion hc | exact hc | exact hc trivial | fail)))) | refine G.endOps ?_ | refine G.endBlk ?_ | (refine G.atGd ?_; first | refine G.guardYes rfl rfl ?_ | (refine G.guardS rfl rfl rfl ?_ ?_ <;> intro hc <;> (try simp only [tests, reduceCtorEq] at hc) <;> (try (exfalso; first | omega | exact absurd hc (by with_reducible assumption) | exact absurd (by with_reducible assumption) hc | exact Bool.noConfusion hc | exact hc | exact hc trivial | fail)))) | (refine G.atBin ?_; first | (refine G.atAdd ?_; first | refine G.arith rfl rfl rfl rfl rfl (by simp only [inR]; omega) ?_) | refine G.op rfl rfl ?_) | refine G.op rfl rfl ?_ | (refine G.atLen ?_; first | refine G.lenStr rfl (tyy rfl) rfl ?_) | (refine G.atInd ?_; refine G.idxStr rfl rfl (tyy rfl) rfl (by first | (simp only [Int.reduceToNat]; rfl) | with_reducible apply Int.toNat_natCast | exact Eq.refl _) (by first | omega | (simp only [lens] at *; omega)) ?_; intro _))
            all_goals first | (exfalso; omega) | exact G.again ⟨i + 1, tc⟩ ⟨sint (by simp), rfl, rfl, trivial⟩ (SubH.nil _) ⟨by simp only; omega, hinv.1, hinv.2⟩ (by solve | (repeat (first | assumption | exact Heap.le_refl _ | (refine Heap.le_trans ?_ (by assumption))))) (by simp only; omega)
    · obtain rfl : i = s.length := by omega
      cases ok with
      | false =>
        rw [hn rfl]
        repeat' (first | (refine G.atCode ?_; first | refine G.seq ?_ | refine G.region ?_ | refine G.exit rfl ?_ | refine G.ret ?_ | (refine G.cond rfl ?_ ?_ <;> intro hc <;> (try simp only [tests, reduceCtorEq] at hc) <;> (try (exfalso; first | omega | exact absurd hc (by with_reducible assumption) | exact absurd (by with_reducible assumption) hc | exact Bool.noConfusion hc | exact hc | exact hc trivial | fail)))) | refine G.endOps ?_ | (refine G.atGd ?_; first | (refine G.guardS rfl rfl rfl ?_ ?_ <;> intro hc <;> (try simp only [tests, reduceCtorEq] at hc) <;> (try (exfalso; first | omega | exact absurd hc (by with_reducible assumption) | exact absurd (by with_reducible assumption) hc | exact Bool.noConfusion hc | exact hc | exact hc trivial | fail)))) | (refine G.atBin ?_; first | refine G.op rfl rfl ?_) | refine G.op rfl rfl ?_ | (refine G.atLen ?_; first | refine G.lenStr rfl (tyy rfl) rfl ?_))
        all_goals first | (exfalso; omega) | exact G.done1 rfl rfl _ (SubH.nil _) ⟨rfl, rfl⟩
      | true =>
        obtain ⟨hy1, hy2⟩ := hy rfl
        have e : typeM s = true := typeM_yes hy1.1 hy1.2 ((hy2 0 (by omega)).2 rfl) (fun j hj => (hy2 j hj).1)
        rw [e]
        repeat' (first | (refine G.atCode ?_; first | refine G.seq ?_ | refine G.region ?_ | refine G.exit rfl ?_ | refine G.ret ?_ | (refine G.cond rfl ?_ ?_ <;> intro hc <;> (try simp only [tests, reduceCtorEq] at hc) <;> (try (exfalso; first | omega | exact absurd hc (by with_reducible assumption) | exact absurd (by with_reducible assumption) hc | exact Bool.noConfusion hc | exact hc | exact hc trivial | fail)))) | refine G.endOps ?_ | (refine G.atGd ?_; first | (refine G.guardS rfl rfl rfl ?_ ?_ <;> intro hc <;> (try simp only [tests, reduceCtorEq] at hc) <;> (try (exfalso; first | omega | exact absurd hc (by with_reducible assumption) | exact absurd (by with_reducible assumption) hc | exact Bool.noConfusion hc | exact hc | exact hc trivial | fail)))) | (refine G.atBin ?_; first | refine G.op rfl rfl ?_) | refine G.op rfl rfl ?_ | (refine G.atLen ?_; first | refine G.lenStr rfl (tyy rfl) rfl ?_))
        all_goals first | (exfalso; omega) | exact G.done1 rfl rfl _ (SubH.nil _) ⟨rfl, rfl⟩)
end Go.Proofs.YtibkffoeioidlaaDoor
namespace Go.Proofs.YtibkffoeioidlaaDoor
set_option linter.all false
set_option maxRecDepth 4000
open Go.RowKit

abbrev Pcs := List (Int × List UInt8)
inductive Fl where
  | mk (kind : Int) (attr value : List UInt8) (pieces : Pcs) (kids : List Fl)
def Fl.kind : Fl → Int | .mk k _ _ _ _ => k
def Fl.attr : Fl → List UInt8 | .mk _ a _ _ _ => a
def Fl.value : Fl → List UInt8 | .mk _ _ v _ _ => v
def Fl.pieces : Fl → Pcs | .mk _ _ _ p _ => p
def Fl.kids : Fl → List Fl | .mk _ _ _ _ k => k
def pcsR (ps : Pcs) : List (List Value) := ps.map fun p => [.int .i64 p.1, str p.2]
theorem pcsR_length (ps : Pcs) : (pcsR ps).length = ps.length := by simp [pcsR]

mutual
def FlC (h : Heap) : Fl → List Value → Prop
  | .mk k a v ps ks, r => ∃ pv kv rows, r = [.int .i64 k, str a, str v, pv, kv] ∧ HSl h pv 2 (pcsR ps) ∧ HSl h kv 5 rows ∧ FlsC h ks rows
def FlsC (h : Heap) : List Fl → List (List Value) → Prop
  | [], rows => rows = []
  | k :: ks, rows => ∃ r rs, rows = r :: rs ∧ FlC h k r ∧ FlsC h ks rs
end
mutual
theorem FlC.mono {h h' : Heap} (hl : Heap.le h h') : ∀ (n : Fl) (r : List Value), FlC h n r → FlC h' n r
  | .mk k a v ps ks, r, hn => by
    simp only [FlC] at hn ⊢
    obtain ⟨pv, kv, rows, e, hp, hs, hk⟩ := hn
    exact ⟨pv, kv, rows, e, hp.mono hl, hs.mono hl, FlsC.mono hl ks rows hk⟩
theorem FlsC.mono {h h' : Heap} (hl : Heap.le h h') : ∀ (l : List Fl) (rows : List (List Value)), FlsC h l rows → FlsC h' l rows
  | [], rows, hk => by simpa only [FlsC] using hk
  | k :: ks, rows, hk => by
    simp only [FlsC] at hk ⊢
    obtain ⟨r, rs, e, h1, h2⟩ := hk
    exact ⟨r, rs, e, FlC.mono hl k r h1, FlsC.mono hl ks rs h2⟩
end
theorem FlsC.append {h : Heap} : ∀ {a b : List Fl} {ra rb : List (List Value)}, FlsC h a ra → FlsC h b rb → FlsC h (a ++ b) (ra ++ rb)
  | [], b, ra, rb, ha, hb => by simp only [FlsC] at ha; subst ha; exact hb
  | k :: ks, b, ra, rb, ha, hb => by
    simp only [FlsC] at ha
    obtain ⟨r, rs, rfl, h1, h2⟩ := ha
    simp only [List.cons_append, FlsC]
    exact ⟨r, rs ++ rb, rfl, h1, FlsC.append h2 hb⟩
theorem FlsC.one {h : Heap} {n : Fl} {r : List Value} (hn : FlC h n r) : FlsC h [n] [r] := by
  simp only [FlsC]
  exact ⟨r, [], rfl, hn, rfl⟩
theorem FlsC.nil (h : Heap) : FlsC h [] [] := by simp only [FlsC]
theorem FlsC.len {h : Heap} : ∀ {a : List Fl} {ra : List (List Value)}, FlsC h a ra → ra.length = a.length
  | [], ra, ha => by simp only [FlsC] at ha; subst ha; rfl
  | k :: ks, ra, ha => by
    simp only [FlsC] at ha
    obtain ⟨r, rs, rfl, _, h2⟩ := ha
    simp [FlsC.len h2]
theorem FlsC.get {h : Heap} : ∀ {a : List Fl} {ra : List (List Value)} {i : Nat} {n : Fl}, FlsC h a ra → a[i]? = some n → ∃ r, ra[i]? = some r ∧ FlC h n r
  | [], ra, i, n, _, hi => by simp at hi
  | k :: ks, ra, i, n, ha, hi => by
    simp only [FlsC] at ha
    obtain ⟨r, rs, rfl, h1, h2⟩ := ha
    cases i with
    | zero => simp at hi; subst hi; exact ⟨r, rfl, h1⟩
    | succ i => simp at hi; obtain ⟨r', h3, h4⟩ := FlsC.get h2 hi; exact ⟨r', by simpa using h3, h4⟩
theorem FlC.mk_ {h : Heap} {k : Int} {a v : List UInt8} {ps : Pcs} {ks : List Fl} {pv kv : Value} {rows : List (List Value)} (hp : HSl h pv 2 (pcsR ps)) (hs : HSl h kv 5 rows) (hk : FlsC h ks rows) : FlC h (.mk k a v ps ks) [.int .i64 k, str a, str v, pv, kv] := by
  simp only [FlC]
  exact ⟨pv, kv, rows, rfl, hp, hs, hk⟩
theorem FlC.open_ {h : Heap} {k : Int} {a v : List UInt8} {ps : Pcs} {ks : List Fl} {r : List Value} (hn : FlC h (.mk k a v ps ks) r) : ∃ pv kv rows, r = [.int .i64 k, str a, str v, pv, kv] ∧ HSl h pv 2 (pcsR ps) ∧ HSl h kv 5 rows ∧ FlsC h ks rows := by
  simpa only [FlC] using hn
theorem FlC.shape {h : Heap} {f : Fl} {r : List Value} (hn : FlC h f r) : ∃ pv kv rows, r = [.int .i64 f.kind, str f.attr, str f.value, pv, kv] ∧ HSl h pv 2 (pcsR f.pieces) ∧ HSl h kv 5 rows ∧ FlsC h f.kids rows := by
  cases f
  exact hn.open_
def zF : Fl := .mk 0 [] [] [] []
theorem zF_C (h : Heap) : FlC h zF [.int .i64 0, str [], str [], .slice none 0 0, .slice none 0 0] := FlC.mk_ (HSl.nil h 2) (HSl.nil h 5) (FlsC.nil h)
end Go.Proofs.YtibkffoeioidlaaDoor
namespace Go.Proofs.YtibkffoeioidlaaDoor
set_option linter.all false
set_option maxRecDepth 4000
open Go.RowKit

theorem St.keep {h : Heap} {H : List Chunk} {w : World} (s : StI h H w) : St ⟨w, keys H, h⟩ h H w := s.start
end Go.Proofs.YtibkffoeioidlaaDoor
namespace Go.Proofs.YtibkffoeioidlaaDoor
set_option linter.all false
set_option maxRecDepth 4000
open Go.RowKit

theorem four {i : Nat} (h : i < 4) : i = 0 ∨ i = 1 ∨ i = 2 ∨ i = 3 := by omega
end Go.Proofs.YtibkffoeioidlaaDoor
namespace Go.Proofs.YtibkffoeioidlaaDoor
set_option linter.all false
set_option maxRecDepth 4000
open Go.RowKit

theorem FlC.shp {h : Heap} {f : Fl} {r : List Value} (hn : FlC h f r) : ∃ k a v A m c B p q, r = [.int .i64 k, str a, str v, .slice A m c, .slice B p q] := by
  obtain ⟨pv, kv, rows, rfl, h1, h2, _⟩ := hn.shape
  obtain ⟨A, c, rfl, _⟩ := h1.form
  obtain ⟨B, q, rfl, _⟩ := h2.form
  exact ⟨_, _, _, _, _, _, _, _, _, rfl⟩
theorem FlC.mono' {h h' : Heap} {n : Fl} {r : List Value} (hn : FlC h n r) (hl : Heap.le h h') : FlC h' n r := FlC.mono hl n r hn
theorem FlsC.mono' {h h' : Heap} {l : List Fl} {r : List (List Value)} (hn : FlsC h l r) (hl : Heap.le h h') : FlsC h' l r := FlsC.mono hl l r hn
theorem three {i : Nat} (h : i < 3) : i = 0 ∨ i = 1 ∨ i = 2 := by omega
end Go.Proofs.YtibkffoeioidlaaDoor
namespace Go.Proofs.YtibkffoeioidlaaDoor
set_option linter.all false
set_option maxRecDepth 4000
open Go.RowKit

-- AS IT IS WRITTEN
def isEsc (b : UInt8) : Prop := b.toNat = 0 ∨ b.toNat = 40 ∨ b.toNat = 41 ∨ b.toNat = 42 ∨ b.toNat = 92
instance (b : UInt8) : Decidable (isEsc b) := by unfold isEsc; infer_instance
def pcsOkF : Bool → Pcs → Bool
  | _, [] => true
  | fst, (k, t) :: ps => decide (t ≠ []) && decide (k = 1 ∨ (k = 0 ∧ fst = true) ∨ (k = 2 ∧ ps = [])) && pcsOkF false ps
def pcsOk (ps : Pcs) : Bool := decide (ps ≠ []) && pcsOkF true ps
mutual
def bareF : Fl → Fl
  | .mk k a v ps ks => if k < 0 ∨ 8 < k then .mk k [] [] [] [] else if k ≤ 2 then .mk k [] [] [] (bareFs ks) else .mk k a (if k = 4 ∨ k = 7 then [] else v) (if k = 4 then ps else []) []
def bareFs : List Fl → List Fl
  | [] => []
  | k :: ks => bareF k :: bareFs ks
end
def chkKs (f : Nat → Fl → Except Int Nat) : Nat → List Fl → Except Int Nat
  | n, [] => .ok n
  | n, k :: ks => match f n k with
    | .error e => .error e
    | .ok n' => chkKs f n' ks
def chkM : Nat → Nat → Fl → Except Int Nat
  | 0, _, _ => .error 6
  | d + 1, n, .mk k a _ ps ks => if 1000 < n + 1 then .error 9 else if k < 0 ∨ 8 < k then .error 24 else if k = 2 ∧ ks.length ≠ 1 then .error 2
    else if k ≤ 2 then chkKs (chkM d) (n + 1) ks else if typeM a = false then .error 20 else if k = 4 ∧ pcsOk ps = false then .error 4 else .ok (n + 1)
end Go.Proofs.YtibkffoeioidlaaDoor
namespace Go.Proofs.YtibkffoeioidlaaDoor
set_option linter.all false
set_option maxRecDepth 4000
open Go.RowKit

theorem pcsR_get {ps : Pcs} {i : Nat} {k : Int} {t : List UInt8} (h : ps[i]? = some (k, t)) : (pcsR ps)[i]? = some [.int .i64 k, str t] := by
  unfold pcsR
  rw [List.getElem?_map, h]; rfl
mutual
def Fl.sz : Fl → Nat
  | .mk _ _ _ _ ks => 1 + flsz ks
def flsz : List Fl → Nat
  | [] => 0
  | k :: ks => Fl.sz k + flsz ks
end
theorem flsz_mem : ∀ {ks : List Fl} {k : Fl}, k ∈ ks → k.sz ≤ flsz ks
  | [], _, h => by cases h
  | q :: ks, k, h => by
    simp only [flsz]
    rcases List.mem_cons.1 h with rfl | h
    · omega
    · have := flsz_mem h; omega
theorem flsz_kid {k : Int} {a v : List UInt8} {ps : Pcs} {ks : List Fl} {i : Nat} {f : Fl} (h : ks[i]? = some f) : f.sz < (Fl.mk k a v ps ks).sz := by
  have := flsz_mem (List.mem_of_getElem? h)
  simp only [Fl.sz]; omega
theorem FlC.box {h : Heap} {f : Fl} {r : List Value} (hn : FlC h f r) : ∃ k a v ps ks A c B d rows, f = .mk k a v ps ks ∧ r = [.int .i64 k, str a, str v, .slice A ps.length c, .slice B ks.length d] ∧ HSl h (.slice A ps.length c) 2 (pcsR ps) ∧ HSl h (.slice B ks.length d) 5 rows ∧ FlsC h ks rows ∧ rows.length = ks.length := by
  cases f with
  | mk k a v ps ks =>
    obtain ⟨pv, kv, rows, rfl, h1, h2, h3⟩ := hn.open_
    obtain ⟨A, c, rfl, _⟩ := h1.form
    obtain ⟨B, d, rfl, _⟩ := h2.form
    rw [pcsR_length] at h1
    rw [h3.len] at h2
    refine ⟨k, a, v, ps, ks, A, c, B, d, rows, rfl, ?_, h1, h2, h3, h3.len⟩
    rw [pcsR_length, h3.len]
end Go.Proofs.YtibkffoeioidlaaDoor
