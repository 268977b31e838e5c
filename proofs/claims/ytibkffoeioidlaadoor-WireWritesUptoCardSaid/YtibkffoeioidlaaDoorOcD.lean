/- castellanref09.in, Type. -/
import Derived.Test.YtibkffoeioidlaaDoorOcB
namespace Go.Proofs.YtibkffoeioidlaaDoor
set_option linter.all false
set_option maxRecDepth 4000
open Go.RowKit

def inN (c : Nat) (l : List UInt8) : Bool := l.any fun b => decide (b.toNat = c)
theorem ref09_in (c : Nat) (l : List UInt8) (hl : l.length <= 1000) (h : Heap) : Spec Tryd.prog 121 [.int .u8 c, str l] h [] (fun u _ H' => u = .bool (inN c l) /\ H' = []) := by
  refine Spec.enter Tryd.func121 rfl rfl ?_; intro w0
  repeat' (first | (refine G.atCode ?_; refine G.stopLoop ?_) | (refine G.atCode ?_; first | refine G.seq ?_ | refine G.region ?_ | refine G.block ?_) | refine G.endOps ?_ | refine G.op rfl rfl ?_)
  refine G.go ?_
  refine G.loop (σ := Nat) (fun i => [(5, .int .i64 i), (1, str l), (0, .int .u8 c)]) (fun _ => []) (fun i _ => i <= l.length /\ inN c (l.take i) = false) (fun i => l.length - i) 0 ⟨rfl, rfl, rfl, trivial⟩ Zu ⟨Nat.zero_le _, by simp [inN]⟩ ?_
  rintro i h1 hle1 ⟨hi, hno⟩
  by_cases hlt : i < l.length
  . have hb := byteAt_eq hlt
    have hnext : inN c (l.take (i + 1)) = (inN c (l.take i) || decide (byteAt l i = c)) := by unfold inN; rw [List.take_succ_eq_append_getElem hlt, List.any_append, hb]; simp
    by_cases hc : byteAt l i = c
    . have e : inN c l = true := by
        unfold inN
        rw [List.any_eq_true]
        exact ⟨l[i], List.getElem_mem hlt, by rw [<- hb]; simp [hc]⟩
      rw [e]
      repeat' (first | (refine G.atCode ?_; first | refine G.seq ?_ | refine G.region ?_ | refine G.block ?_ | refine G.skip ?_ | refine G.ret ?_ | (refine G.cond rfl ?_ ?_ <;> intro hc <;> (try simp only [tests, reduceCtorEq] at hc) <;> (try exact Zf))) | refine G.endOps ?_ | (refine G.atBin ?_; first | (refine G.atEql ?_; first | refine G.op rfl rfl ?_) | refine G.op rfl rfl ?_) | refine G.op rfl rfl ?_ | (refine G.atLen ?_; first | refine G.lenStr rfl (tyy rfl) rfl ?_) | (refine G.atInd ?_; refine G.idxStr rfl rfl (tyy rfl) rfl Zj Zo ?_; intro _))
      all_goals first | (exfalso; omega) | exact G.done1 rfl rfl _ (SubH.nil _) ⟨rfl, rfl⟩
    . have hno' : inN c (l.take (i + 1)) = false := by rw [hnext, hno, decide_eq_false hc]; rfl
      repeat' (first | (refine G.atCode ?_; first | refine G.seq ?_ | refine G.region ?_ | refine G.block ?_ | refine G.skip ?_ | (refine G.cond rfl ?_ ?_ <;> intro hc <;> (try simp only [tests, reduceCtorEq] at hc) <;> (try exact Zf))) | refine G.endOps ?_ | refine G.endBlk ?_ | (refine G.atBin ?_; first | (refine G.atAdd ?_; first | refine G.arith rfl rfl rfl rfl rfl Zi ?_) | (refine G.atEql ?_; first | refine G.op rfl rfl ?_) | refine G.op rfl rfl ?_) | refine G.op rfl rfl ?_ | (refine G.atLen ?_; first | refine G.lenStr rfl (tyy rfl) rfl ?_) | (refine G.atInd ?_; refine G.idxStr rfl rfl (tyy rfl) rfl Zj Zo ?_; intro _))
      all_goals first | (exfalso; omega) | exact G.again (i + 1) ⟨sint (by simp), rfl, rfl, trivial⟩ (SubH.nil _) ⟨by omega, hno'⟩ (by solve | repeat first | assumption | exact Zr _ | refine Zq ?_ Zp) (by omega)
  . obtain rfl : i = l.length := by omega
    rw [List.take_length] at hno
    rw [hno]
    repeat' (first | (refine G.atCode ?_; first | refine G.seq ?_ | refine G.region ?_ | refine G.exit rfl ?_ | refine G.ret ?_ | (refine G.cond rfl ?_ ?_ <;> intro hc <;> (try simp only [tests, reduceCtorEq] at hc) <;> (try exact Zf))) | refine G.endOps ?_ | (refine G.atBin ?_; first | refine G.op rfl rfl ?_) | refine G.op rfl rfl ?_ | (refine G.atLen ?_; first | refine G.lenStr rfl (tyy rfl) rfl ?_))
    all_goals first | (exfalso; omega) | exact G.done1 rfl rfl _ (SubH.nil _) ⟨rfl, rfl⟩
def abc : List UInt8 := [97, 98, 99, 100, 101, 102, 103, 104, 105, 106, 107, 108, 109, 110, 111, 112, 113, 114, 115, 116, 117, 118, 119, 120, 121, 122]
def nums : List UInt8 := [48, 49, 50, 51, 52, 53, 54, 55, 56, 57, 45]
def lowN (n : Nat) : Nat := if 65 <= n /\ n <= 90 then n + 32 else n
theorem low_all : ∀ n : Fin 256, inN (lowN n) abc = isLet (n : Nat) /\ (isLet (n : Nat) || inN (lowN n) nums) = isTc (n : Nat) := by decide +kernel
theorem low_abc {n : Nat} (h : n < 256) : inN (lowN n) abc = isLet n := (low_all ⟨n, h⟩).1
theorem low_tc {n : Nat} (h : n < 256) : (isLet n || inN (lowN n) nums) = isTc n := (low_all ⟨n, h⟩).2
theorem byteAt_fold {s : List UInt8} {i : Nat} (h : i < s.length) : byteAt (foldM s) i = lowN (byteAt s i) := by
  rw [byteAt_eq (by rw [foldM_len]; exact h), byteAt_eq h]
  simp only [foldM, List.getElem_map, lowB, lowN]
  split
  . have := (s[i]).toNat_lt; simp [UInt8.toNat_ofNat']; omega
  . rfl
set_option maxRecDepth 8000 in
theorem ref09_Type (s : List UInt8) (hs : s.length <= 100000000) (h : Heap) : Spec Tryd.prog 118 [str s] h [] (fun u _ H' => u = .bool (typeM s) /\ H' = []) := by
  have hfl := foldM_len s
  have e0 : ¬ (1 <= s.length /\ s.length <= 32) -> typeM s = false := fun h1 => by unfold typeM; rw [decide_eq_false h1]; simp
  refine Spec.enter Tryd.func118 rfl rfl ?_; intro w0
  repeat' (first | (show G _ (.ops .seq _ (⟨some _, .call { callee := .value (.func 120), args := _, argTypes := _ }, _, _, _, none⟩ :: _) :: _) _ _ _; refine G.call callRFold rfl rfl (ref01_Fold s hs _) Ze ?_; rintro _ h2 H2 ⟨rfl, rfl⟩ hle2) | (refine G.atCode ?_; refine G.stopLoop ?_) | (refine G.atCode ?_; first | refine G.seq ?_ | refine G.region ?_ | refine G.block ?_) | refine G.endOps ?_ | (refine G.atGd ?_; first | refine G.guardYes rfl rfl ?_ | refine G.guardNoS rfl rfl rfl ?_ | (refine G.guardS rfl rfl rfl ?_ ?_ <;> intro hc <;> (try simp only [tests, reduceCtorEq] at hc) <;> (try exact Zf))) | (refine G.atBin ?_; first | refine G.op rfl rfl ?_) | refine G.op rfl rfl ?_ | (refine G.atLen ?_; first | refine G.lenStr rfl (tyy rfl) rfl ?_))
  all_goals (
    refine G.go ?_
    refine G.loop (σ := Nat × Bool) (fun x => [(5, .int .i64 x.1), (4, .bool x.2), (3, str (foldM s))]) (fun _ => []) (fun x _ => x.1 <= s.length /\ (x.2 = true -> (1 <= s.length /\ s.length <= 32) /\ ∀ j, j < x.1 -> isTc (byteAt s j) = true /\ (j = 0 -> isLet (byteAt s 0) = true)) /\ (x.2 = false -> typeM s = false)) (fun x => s.length - x.1) ⟨0, decide (1 <= s.length /\ s.length <= 32)⟩
      ⟨rfl, sbool (by first | exact decide_eq_decide.2 (by omega) | exact (decide_eq_false (by omega)).symm), rfl, trivial⟩ (SubH.nil _) ⟨Nat.zero_le _, fun h1 => ⟨by simpa using h1, fun j hj => absurd hj (by simp)⟩, fun h1 => e0 (by simpa using h1)⟩ ?_
    rintro ⟨i, ok⟩ h1 hle1 ⟨hi, hy, hn⟩
    simp only at hi hy hn
    refine G.norm (by (try dsimp only) <;> exact rfl) (by (try dsimp only) <;> exact rfl) ?_
    by_cases hlt : i < s.length
    . cases ok with
      | false =>
        rw [hn rfl]
        repeat' (first | (refine G.atCode ?_; first | refine G.seq ?_ | refine G.region ?_ | refine G.exit rfl ?_ | refine G.ret ?_ | (refine G.cond rfl ?_ ?_ <;> intro hc <;> (try simp only [tests, reduceCtorEq] at hc) <;> (try exact Zf))) | refine G.endOps ?_ | (refine G.atGd ?_; first | (refine G.guardS rfl rfl rfl ?_ ?_ <;> intro hc <;> (try simp only [tests, reduceCtorEq] at hc) <;> (try exact Zf))) | (refine G.atBin ?_; first | refine G.op rfl rfl ?_) | refine G.op rfl rfl ?_ | (refine G.atLen ?_; first | refine G.lenStr rfl (tyy rfl) rfl ?_))
        all_goals first | (exfalso; omega) | exact G.done1 rfl rfl _ (SubH.nil _) ⟨rfl, rfl⟩
      | true =>
        obtain ⟨hy1, hy2⟩ := hy rfl
        have hbf := byteAt_fold hlt
        have hb := byteAt_lt s i
        have hup : isTc (byteAt s i) = true -> (i = 0 -> isLet (byteAt s 0) = true) -> ∀ j, j < i + 1 -> isTc (byteAt s j) = true /\ (j = 0 -> isLet (byteAt s 0) = true) := fun h1 h2 j hj => if hji : j < i then hy2 j hji else (show i = j by omega) ▸ ⟨h1, h2⟩
        have htc := low_tc hb
        cases hlet : isLet (byteAt s i) with
        | true =>
          rw [hlet] at htc
          have htc' : isTc (byteAt s i) = true := by rw [<- htc]; rfl
          repeat' (first | (show G _ (.ops .seq _ (⟨some _, .call { callee := .value (.func 121), args := _, argTypes := _ }, _, _, _, none⟩ :: _) :: _) _ _ _; refine G.call callIn9 rfl rfl (ref09_in _ abc (by decide) _) Ze ?_; rintro _ h2 H2 ⟨rfl, rfl⟩ hle2; rw [hbf, low_abc hb, hlet]) | (refine G.atCode ?_; first | refine G.seq ?_ | refine G.region ?_ | refine G.block ?_ | refine G.skip ?_ | (refine G.cond rfl ?_ ?_ <;> intro hc <;> (try simp only [tests, reduceCtorEq] at hc) <;> (try exact Zf))) | refine G.endOps ?_ | refine G.endBlk ?_ | (refine G.atGd ?_; first | refine G.guardNoS rfl rfl rfl ?_ | refine G.guardU rfl rfl rfl ?_ | (refine G.guardS rfl rfl rfl ?_ ?_ <;> intro hc <;> (try simp only [tests, reduceCtorEq] at hc) <;> (try exact Zf))) | (refine G.atBin ?_; first | (refine G.atAdd ?_; first | refine G.arith rfl rfl rfl rfl rfl Zi ?_) | refine G.op rfl rfl ?_) | refine G.op rfl rfl ?_ | (refine G.atLen ?_; first | refine G.lenStr rfl (tyy rfl) rfl ?_) | (refine G.atInd ?_; refine G.idxStr rfl rfl (tyy rfl) rfl Zj Zo ?_; intro _))
          all_goals first | (exfalso; omega) | exact G.again ⟨i + 1, true⟩ ⟨sint (by simp), rfl, rfl, trivial⟩ (SubH.nil _) ⟨by simp only; omega, fun _ => ⟨hy1, hup htc' (fun e => by subst e; exact hlet)⟩, fun e => Bool.noConfusion e⟩ (by solve | repeat first | assumption | exact Zr _ | refine Zq ?_ Zp) (by simp only; omega)
        | false =>
          rw [hlet] at htc
          simp only [Bool.false_or] at htc
          by_cases hi0 : i = 0
          . have e : typeM s = false := by subst hi0; unfold typeM; rw [hlet]; simp
            repeat' (first | (show G _ (.ops .seq _ (⟨some _, .call { callee := .value (.func 121), args := _, argTypes := _ }, _, _, _, none⟩ :: _) :: _) _ _ _; refine G.call callIn9 rfl rfl (ref09_in _ abc (by decide) _) Ze ?_; rintro _ h2 H2 ⟨rfl, rfl⟩ hle2; rw [hbf, low_abc hb, hlet]) | (refine G.atCode ?_; first | refine G.seq ?_ | refine G.region ?_ | refine G.block ?_ | refine G.skip ?_ | (refine G.cond rfl ?_ ?_ <;> intro hc <;> (try simp only [tests, reduceCtorEq] at hc) <;> (try exact Zf))) | refine G.endOps ?_ | refine G.endBlk ?_ | (refine G.atGd ?_; first | refine G.guardYes rfl rfl ?_ | refine G.guardNoS rfl rfl rfl ?_ | (refine G.guardS rfl rfl rfl ?_ ?_ <;> intro hc <;> (try simp only [tests, reduceCtorEq] at hc) <;> (try exact Zf))) | (refine G.atBin ?_; first | (refine G.atAdd ?_; first | refine G.arith rfl rfl rfl rfl rfl Zi ?_) | refine G.op rfl rfl ?_) | refine G.op rfl rfl ?_ | (refine G.atLen ?_; first | refine G.lenStr rfl (tyy rfl) rfl ?_) | (refine G.atInd ?_; refine G.idxStr rfl rfl (tyy rfl) rfl Zj Zo ?_; intro _))
            all_goals first | (exfalso; omega) | exact G.again ⟨i + 1, false⟩ ⟨sint (by simp), sbool (by first | rfl | exact decide_eq_false (by omega)), rfl, trivial⟩ (SubH.nil _) ⟨by simp only; omega, fun e => Bool.noConfusion e, fun _ => e⟩ (by solve | repeat first | assumption | exact Zr _ | refine Zq ?_ Zp) (by simp only; omega)
          . have hinv : (isTc (byteAt s i) = true -> (1 <= s.length /\ s.length <= 32) /\ ∀ j, j < i + 1 -> isTc (byteAt s j) = true /\ (j = 0 -> isLet (byteAt s 0) = true)) /\ (isTc (byteAt s i) = false -> typeM s = false) := ⟨fun h1 => ⟨hy1, hup h1 (fun e => absurd e hi0)⟩, fun h1 => typeM_no hlt h1⟩
            generalize isTc (byteAt s i) = tc at *
            repeat' (first | (show G _ (.ops .seq _ (⟨some _, .call { callee := .value (.func 121), args := _, argTypes := _ }, _, _, _, none⟩ :: _) :: _) _ _ _; refine G.call callIn9 rfl rfl (ref09_in _ abc (by decide) _) Ze ?_; rintro _ h2 H2 ⟨rfl, rfl⟩ hle2; rw [hbf, low_abc hb, hlet]) | (show G _ (.ops .seq _ (⟨some _, .call { callee := .value (.func 121), args := _, argTypes := _ }, _, _, _, none⟩ :: _) :: _) _ _ _; refine G.call callIn9 rfl rfl (ref09_in _ nums (by decide) _) Ze ?_; rintro _ h2 H2 ⟨rfl, rfl⟩ hle2; rw [hbf, htc]) | (refine G.atCode ?_; first | refine G.seq ?_ | refine G.region ?_ | refine G.block ?_ | refine G.skip ?_ | (refine G.cond rfl ?_ ?_ <;> intro hc <;> (try simp only [tests, reduceCtorEq] at hc) <;> (try exact Zf))) | refine G.endOps ?_ | refine G.endBlk ?_ | (refine G.atGd ?_; first | refine G.guardYes rfl rfl ?_ | (refine G.guardS rfl rfl rfl ?_ ?_ <;> intro hc <;> (try simp only [tests, reduceCtorEq] at hc) <;> (try exact Zf))) | (refine G.atBin ?_; first | (refine G.atAdd ?_; first | refine G.arith rfl rfl rfl rfl rfl Zi ?_) | refine G.op rfl rfl ?_) | refine G.op rfl rfl ?_ | (refine G.atLen ?_; first | refine G.lenStr rfl (tyy rfl) rfl ?_) | (refine G.atInd ?_; refine G.idxStr rfl rfl (tyy rfl) rfl Zj Zo ?_; intro _))
            all_goals first | (exfalso; omega) | exact G.again ⟨i + 1, tc⟩ ⟨sint (by simp), rfl, rfl, trivial⟩ (SubH.nil _) ⟨by simp only; omega, hinv.1, hinv.2⟩ (by solve | repeat first | assumption | exact Zr _ | refine Zq ?_ Zp) (by simp only; omega)
    . obtain rfl : i = s.length := by omega
      cases ok with
      | false =>
        rw [hn rfl]
        repeat' (first | (refine G.atCode ?_; first | refine G.seq ?_ | refine G.region ?_ | refine G.exit rfl ?_ | refine G.ret ?_ | (refine G.cond rfl ?_ ?_ <;> intro hc <;> (try simp only [tests, reduceCtorEq] at hc) <;> (try exact Zf))) | refine G.endOps ?_ | (refine G.atGd ?_; first | (refine G.guardS rfl rfl rfl ?_ ?_ <;> intro hc <;> (try simp only [tests, reduceCtorEq] at hc) <;> (try exact Zf))) | (refine G.atBin ?_; first | refine G.op rfl rfl ?_) | refine G.op rfl rfl ?_ | (refine G.atLen ?_; first | refine G.lenStr rfl (tyy rfl) rfl ?_))
        all_goals first | (exfalso; omega) | exact G.done1 rfl rfl _ (SubH.nil _) ⟨rfl, rfl⟩
      | true =>
        obtain ⟨hy1, hy2⟩ := hy rfl
        have e : typeM s = true := typeM_yes hy1.1 hy1.2 ((hy2 0 (by omega)).2 rfl) (fun j hj => (hy2 j hj).1)
        rw [e]
        repeat' (first | (refine G.atCode ?_; first | refine G.seq ?_ | refine G.region ?_ | refine G.exit rfl ?_ | refine G.ret ?_ | (refine G.cond rfl ?_ ?_ <;> intro hc <;> (try simp only [tests, reduceCtorEq] at hc) <;> (try exact Zf))) | refine G.endOps ?_ | (refine G.atGd ?_; first | (refine G.guardS rfl rfl rfl ?_ ?_ <;> intro hc <;> (try simp only [tests, reduceCtorEq] at hc) <;> (try exact Zf))) | (refine G.atBin ?_; first | refine G.op rfl rfl ?_) | refine G.op rfl rfl ?_ | (refine G.atLen ?_; first | refine G.lenStr rfl (tyy rfl) rfl ?_))
        all_goals first | (exfalso; omega) | exact G.done1 rfl rfl _ (SubH.nil _) ⟨rfl, rfl⟩)
end Go.Proofs.YtibkffoeioidlaaDoor
