/- Names: castellanref09.value. -/
import Derived.Test.YtahpemfnhepgoaaDnC
namespace Go.Proofs.Ytahpemfnhepgoaa
set_option linter.all false
set_option maxRecDepth 4000
open Go.RowKit

theorem comb_blank {b : List UInt8} {s : List UInt8} : (endB s = true -> comb b true s = none) /\ (endB s = false -> comb b true s = comb b false s) := by
  unfold comb
  constructor
  . intro h; rw [h]; rfl
  . intro h; rw [h]; rfl
theorem inZ_two (c : Nat) : 0 <= inZ c [32, 35] ↔ (c = 32 \/ c = 35) := by
  have h := inZ_bool c [32, 35]
  by_cases h2 : c = 32 \/ c = 35
  . have h3 : inN c [32, 35] = true := by unfold inN; simp; rcases h2 with h | h <;> simp [h]
    rw [h3] at h
    have := of_decide_eq_true h.symm
    simp [h2, this]
  . have h3 : inN c [32, 35] = false := by unfold inN; simp; omega
    rw [h3] at h
    have := of_decide_eq_false h.symm
    simp [h2, this]
def RValR (s : List UInt8) (at_ : Nat) (R : Option (List UInt8 × List UInt8)) (u : Value) : Prop := match R with
  | some (v, r) => ∃ e, u = .tuple #[str v, .int .i64 (e : Nat), .bool true] /\ s.drop e = r /\ at_ <= e /\ e <= s.length
  | none => ∃ x y, u = .tuple #[str x, .int .i64 y, .bool false]
set_option maxRecDepth 8000 in
set_option maxHeartbeats 2000000 in
theorem ref09_value (s : List UInt8) (hs : s.length <= 10000000) (a : Nat) (ha : a <= s.length) (h : Heap) : Spec Try.prog 29 [str s, .int .i64 a] h [] (fun u _ H' => RValR s a (valM (s.drop a).length true (s.drop a)) u /\ H' = []) := by
  rw [<- comb_start]
  generalize hR0 : comb [] false (s.drop a) = R
  refine Spec.enter Try.func29 rfl rfl ?_; intro w0
  repeat' (first | (refine G.atCode ?_; refine G.stopLoop ?_) | (refine G.atCode ?_; first | refine G.seq ?_ | refine G.region ?_ | refine G.block ?_) | refine G.endOps ?_ | refine G.op rfl rfl ?_)
  refine G.nilRowB 5 ?_
  refine G.go ?_
  refine G.loop (σ := Nat × Bool × Value × List UInt8) (fun x => [(1, .int .i64 x.1), (8, .bool x.2.1), (7, x.2.2.1), (0, str s)])
    (fun x => [.row x.2.2.1 5 1 (bytesR x.2.2.2)])
    (fun x _ => a <= x.1 /\ x.1 <= s.length /\ x.2.2.2.length <= x.1 /\ x.2.1 = x.2.2.2.isEmpty /\ comb x.2.2.2 false (s.drop x.1) = R) (fun x => s.length - x.1) ⟨a, true, .slice none 0 0, []⟩ ⟨rfl, rfl, rfl, rfl, trivial⟩ Zu ⟨Nat.le_refl _, ha, Nat.zero_le _, rfl, hR0⟩ ?_
  rintro ⟨i, fb, v, b⟩ h1 hle1 ⟨hai, hi, hbl, hfb, hR⟩
  simp only at hai hi hbl hfb hR
  refine G.norm (by (try dsimp only) <;> exact rfl) (by (try dsimp only) <;> exact rfl) ?_
  have hE := endB_at (s := s) (i := i)
  cases he : endB (s.drop i) with
  | true =>
    rw [comb_end he] at hR
    have hE := hE.1 he
    clear he
    simp only [Bool.false_eq_true, if_false] at hR
    subst hR
    repeat' (first | (refine G.atCode ?_; first | refine G.seq ?_ | refine G.region ?_ | refine G.exit rfl ?_ | refine G.ret ?_ | (refine G.cond rfl ?_ ?_ <;> intro hc <;> (try simp only [tests, reduceCtorEq] at hc) <;> (try exact Zf))) | refine G.endOps ?_ | (refine G.atGd ?_; first | refine G.guardYes rfl rfl ?_ | refine G.guardNoS rfl rfl rfl ?_ | (refine G.guardS rfl rfl rfl ?_ ?_ <;> intro hc <;> (try simp only [tests, reduceCtorEq] at hc) <;> (try exact Zf))) | (refine G.atBin ?_; first | (refine G.atNeq ?_; first | refine G.op rfl rfl ?_) | refine G.op rfl rfl ?_) | refine G.op rfl rfl ?_ | (refine G.atLen ?_; first | refine G.lenStr rfl (tyy rfl) rfl ?_) | (refine G.atInd ?_; refine G.idxStr rfl rfl (tyy rfl) rfl Zj Zo ?_; intro _) | (refine G.atConv ?_; first | refine G.convStr rfl (tyy rfl) (tyy rfl) (tyy rfl) Za rfl ?_))
    all_goals first | (exfalso; omega) | exact G.done3 rfl rfl rfl rfl _ (SubH.nil _) ⟨⟨i, rfl, rfl, hai, hi⟩, rfl⟩
  | false =>
    have hE : ¬ (s.length <= i \/ byteAt s i = 44 \/ byteAt s i = 43) := fun e => by rw [hE.2 e] at he; cases he
    have hlt : i < s.length := by omega
    have hcb := byteAt_lt s i
    have hof := ofNat_byteAt hlt
    have hI1 : ((i : Int) + 1).toNat = i + 1 := by omega
    have hq1 : byteAt s ((i : Int) + 1).toNat = byteAt s (i + 1) := by rw [hI1]
    have hb2 : ∀ x : UInt8, false = (b ++ [x]).isEmpty := fun x => by simp
    by_cases h92 : byteAt s i = 92
    . have hdb := byteAt_lt s ((i : Int) + 1).toNat
      have hno : ¬ i + 2 < s.length -> (i + 1 < s.length -> ¬ 0 <= inZ (byteAt s (i + 1)) spB) -> R = none := fun h1 h2 => by rw [<- hR]; exact comb_none he (unit_no hlt h92 h1 h2)
      have hesc : ∀ (h1 : i + 1 < s.length), 0 <= inZ (byteAt s (i + 1)) spB -> comb (b ++ [UInt8.ofNat (byteAt s (i + 1))]) false (s.drop (i + 2)) = R := fun h1 h2 => by
        rw [<- hR, comb_some he (unit_esc hlt h92 h1 h2), List.drop_drop, ofNat_byteAt h1]
      by_cases h2 : i + 2 < s.length
      . have hhex := fun hz => unit_hex (f := b.isEmpty) hlt h92 h2 hz
        have hsl : List.take (((i : Int) + 1 + 2).toNat - ((i : Int) + 1).toNat) (List.drop ((i : Int) + 1).toNat s) = [s[i + 1], s[i + 2]] := by
          rw [show ((i : Int) + 1 + 2).toNat - ((i : Int) + 1).toNat = 2 by omega, hI1, List.drop_eq_getElem_cons (by omega), List.drop_eq_getElem_cons (by omega)]; rfl
        generalize s[i + 1] = c1 at *
        generalize s[i + 2] = c2 at *
        generalize hz : inZ (byteAt s (i + 1)) spB = z at *
        cases hx : hexM c1 c2 with
        | none =>
          have hxn : ¬ 0 <= z -> R = none := fun h => by rw [<- hR]; exact comb_none he (by rw [hhex h, hx]; rfl)
          have hxs : hexS c1 c2 = [] := by unfold hexS; rw [hx]
          repeat' (first | (show G _ (.ops .seq _ (⟨some _, .call { callee := .value (.func 32), args := _, argTypes := _ }, _, _, _, none⟩ :: _) :: _) _ _ _; refine G.call callIn9 rfl rfl (ref09_inZ (byteAt s ((i : Int) + 1).toNat) spB (by decide) _) Ze ?_; rintro _ h3 H3 ⟨rfl, rfl⟩ hle3; rw [hI1, hz]) | (show G _ (.ops .seq _ (⟨some _, .call { callee := .value (.func 44), args := _, argTypes := _ }, _, _, _, none⟩ :: _) :: _) _ _ _; rw [hsl]; refine G.call callRUnhex rfl rfl (ref01_Unhex c1 c2 _) Ze ?_; rintro _ h4 H4 ⟨rfl, rfl⟩ hle4; rw [hx, hxs]) | (refine G.atCode ?_; first | refine G.seq ?_ | refine G.region ?_ | refine G.block ?_ | refine G.skip ?_ | refine G.ret ?_ | (refine G.cond rfl ?_ ?_ <;> intro hc <;> (try simp only [tests, reduceCtorEq] at hc) <;> (try exact Zf))) | refine G.endOps ?_ | refine G.endBlk ?_ | (refine G.atGd ?_; first | refine G.guardYes rfl rfl ?_ | refine G.guardNoS rfl rfl rfl ?_ | (refine G.guardS rfl rfl rfl ?_ ?_ <;> intro hc <;> (try simp only [tests, reduceCtorEq] at hc) <;> (try exact Zf))) | (refine G.atBin ?_; first | (refine G.atAdd ?_; first | refine G.arith rfl rfl rfl rfl rfl Zi ?_) | (refine G.atEql ?_; first | refine G.op rfl rfl ?_) | (refine G.atNeq ?_; first | refine G.op rfl rfl ?_) | refine G.op rfl rfl ?_) | refine G.op rfl rfl ?_ | (refine G.atLen ?_; first | refine G.lenStr rfl (tyy rfl) rfl ?_) | (refine G.atBsl ?_; refine G.buildSlice (tyy rfl) (tyy rfl) rfl rfl rfl rfl ?_; intro _) | (refine G.atApp ?_; first | (refine G.append1B rfl rfl (tyy rfl) (tyy rfl) rfl rfl Za Za rfl Zo Zo ?_; intro _)) | (refine G.atInd ?_; refine G.idxStr rfl rfl (tyy rfl) rfl Zj Zo ?_; intro _) | (refine G.atSlc ?_; first | refine G.sliceStr rfl rfl rfl (tyy rfl) rfl Zj Zj Zo rfl ?_))
          all_goals first
            | (have e := hxn (by omega)
               subst e
               exact G.done3 rfl rfl rfl rfl _ (SubH.nil _) ⟨⟨[], 0, rfl⟩, rfl⟩)
            | (have e := hesc (by omega) (by omega)
               rw [Int.toNat_natCast, hq1]
               exact G.again ⟨i + 2, false, _, b ++ [UInt8.ofNat (byteAt s (i + 1))]⟩ ⟨sint (by omega), rfl, rfl, rfl, trivial⟩ Zu ⟨by simp only; omega, by simp only; omega, by simp only [List.length_append, List.length_cons, List.length_nil]; omega, hb2 _, e⟩ (by solve | repeat first | assumption | exact Zr _ | refine Zq ?_ Zp) (by simp only; omega))
        | some x =>
          have hxy : ¬ 0 <= z -> comb (b ++ [x]) false (s.drop (i + 3)) = R := fun h => by rw [<- hR, comb_some he (by rw [hhex h, hx]; rfl), List.drop_drop]
          have hxs : hexS c1 c2 = [x] := by unfold hexS; rw [hx]
          repeat' (first | (show G _ (.ops .seq _ (⟨some _, .call { callee := .value (.func 32), args := _, argTypes := _ }, _, _, _, none⟩ :: _) :: _) _ _ _; refine G.call callIn9 rfl rfl (ref09_inZ (byteAt s ((i : Int) + 1).toNat) spB (by decide) _) Ze ?_; rintro _ h3 H3 ⟨rfl, rfl⟩ hle3; rw [hI1, hz]) | (show G _ (.ops .seq _ (⟨some _, .call { callee := .value (.func 44), args := _, argTypes := _ }, _, _, _, none⟩ :: _) :: _) _ _ _; rw [hsl]; refine G.call callRUnhex rfl rfl (ref01_Unhex c1 c2 _) Ze ?_; rintro _ h4 H4 ⟨rfl, rfl⟩ hle4; rw [hx, hxs]) | (refine G.atCode ?_; first | refine G.seq ?_ | refine G.region ?_ | refine G.block ?_ | refine G.skip ?_ | (refine G.cond rfl ?_ ?_ <;> intro hc <;> (try simp only [tests, reduceCtorEq] at hc) <;> (try exact Zf))) | refine G.endOps ?_ | refine G.endBlk ?_ | (refine G.atGd ?_; first | refine G.guardYes rfl rfl ?_ | refine G.guardNoS rfl rfl rfl ?_ | (refine G.guardS rfl rfl rfl ?_ ?_ <;> intro hc <;> (try simp only [tests, reduceCtorEq] at hc) <;> (try exact Zf))) | (refine G.atBin ?_; first | (refine G.atAdd ?_; first | refine G.arith rfl rfl rfl rfl rfl Zi ?_) | (refine G.atEql ?_; first | refine G.op rfl rfl ?_) | (refine G.atNeq ?_; first | refine G.op rfl rfl ?_) | refine G.op rfl rfl ?_) | refine G.op rfl rfl ?_ | (refine G.atLen ?_; first | refine G.lenStr rfl (tyy rfl) rfl ?_) | (refine G.atBsl ?_; refine G.buildSlice (tyy rfl) (tyy rfl) rfl rfl rfl rfl ?_; intro _) | (refine G.atApp ?_; first | (refine G.append1B rfl rfl (tyy rfl) (tyy rfl) rfl rfl Za Za rfl Zo Zo ?_; intro _)) | (refine G.atInd ?_; refine G.idxStr rfl rfl (tyy rfl) rfl Zj Zo ?_; intro _) | (refine G.atSlc ?_; first | refine G.sliceStr rfl rfl rfl (tyy rfl) rfl Zj Zj Zo rfl ?_))
          all_goals first
            | (have e := hxy (by omega)
               rw [Int.toNat_natCast, show UInt8.ofNat (byteAt [x] 0) = x by simp [byteAt]]
               exact G.again ⟨i + 3, false, _, b ++ [x]⟩ ⟨sint (by omega), rfl, rfl, rfl, trivial⟩ Zu ⟨by simp only; omega, by simp only; omega, by simp only [List.length_append, List.length_cons, List.length_nil]; omega, hb2 _, e⟩ (by solve | repeat first | assumption | exact Zr _ | refine Zq ?_ Zp) (by simp only; omega))
            | (have e := hesc (by omega) (by omega)
               rw [Int.toNat_natCast, hq1]
               exact G.again ⟨i + 2, false, _, b ++ [UInt8.ofNat (byteAt s (i + 1))]⟩ ⟨sint (by omega), rfl, rfl, rfl, trivial⟩ Zu ⟨by simp only; omega, by simp only; omega, by simp only [List.length_append, List.length_cons, List.length_nil]; omega, hb2 _, e⟩ (by solve | repeat first | assumption | exact Zr _ | refine Zq ?_ Zp) (by simp only; omega))
      . generalize hz : inZ (byteAt s (i + 1)) spB = z at *
        repeat' (first | (show G _ (.ops .seq _ (⟨some _, .call { callee := .value (.func 32), args := _, argTypes := _ }, _, _, _, none⟩ :: _) :: _) _ _ _; refine G.call callIn9 rfl rfl (ref09_inZ (byteAt s ((i : Int) + 1).toNat) spB (by decide) _) Ze ?_; rintro _ h3 H3 ⟨rfl, rfl⟩ hle3; rw [hI1, hz]) | (refine G.atCode ?_; first | refine G.seq ?_ | refine G.region ?_ | refine G.block ?_ | refine G.skip ?_ | refine G.ret ?_ | (refine G.cond rfl ?_ ?_ <;> intro hc <;> (try simp only [tests, reduceCtorEq] at hc) <;> (try exact Zf))) | refine G.endOps ?_ | refine G.endBlk ?_ | (refine G.atGd ?_; first | refine G.guardYes rfl rfl ?_ | refine G.guardNoS rfl rfl rfl ?_ | (refine G.guardS rfl rfl rfl ?_ ?_ <;> intro hc <;> (try simp only [tests, reduceCtorEq] at hc) <;> (try exact Zf))) | (refine G.atBin ?_; first | (refine G.atAdd ?_; first | refine G.arith rfl rfl rfl rfl rfl Zi ?_) | (refine G.atEql ?_; first | refine G.op rfl rfl ?_) | (refine G.atNeq ?_; first | refine G.op rfl rfl ?_) | refine G.op rfl rfl ?_) | refine G.op rfl rfl ?_ | (refine G.atLen ?_; first | refine G.lenStr rfl (tyy rfl) rfl ?_) | (refine G.atBsl ?_; refine G.buildSlice (tyy rfl) (tyy rfl) rfl rfl rfl rfl ?_; intro _) | (refine G.atApp ?_; first | (refine G.append1B rfl rfl (tyy rfl) (tyy rfl) rfl rfl Za Za rfl Zo Zo ?_; intro _)) | (refine G.atInd ?_; refine G.idxStr rfl rfl (tyy rfl) rfl Zj Zo ?_; intro _))
        all_goals first
          | (have e := hno (by omega) (by omega)
             subst e
             exact G.done3 rfl rfl rfl rfl _ (SubH.nil _) ⟨⟨[], 0, rfl⟩, rfl⟩)
          | (have e := hesc (by omega) (by omega)
             rw [Int.toNat_natCast, hq1]
             exact G.again ⟨i + 2, false, _, b ++ [UInt8.ofNat (byteAt s (i + 1))]⟩ ⟨sint (by omega), rfl, rfl, rfl, trivial⟩ Zu ⟨by simp only; omega, by simp only; omega, by simp only [List.length_append, List.length_cons, List.length_nil]; omega, hb2 _, e⟩ (by solve | repeat first | assumption | exact Zr _ | refine Zq ?_ Zp) (by simp only; omega))
    . have hu := unit_raw (f := b.isEmpty) hlt h92
      have hbe : b.isEmpty = true ↔ b.length = 0 := by simp
      have hz3 := inZ_two (byteAt s i)
      have hE1 := endB_at (s := s) (i := i + 1)
      have hbad : byteAt s i = 0 \/ 0 <= inZ (byteAt s i) bdB \/ b.length = 0 /\ (byteAt s i = 32 \/ byteAt s i = 35) -> R = none := fun h => by
        rw [if_pos (h.imp id fun h => h.imp id fun h => ⟨hbe.2 h.1, h.2⟩)] at hu; rw [<- hR]; exact comb_none he hu
      have hok : ¬ (byteAt s i = 0 \/ 0 <= inZ (byteAt s i) bdB \/ b.length = 0 /\ (byteAt s i = 32 \/ byteAt s i = 35)) -> comb (b ++ [s[i]]) (decide (byteAt s i = 32)) (s.drop (i + 1)) = R := fun h => by
        rw [if_neg (fun h' => h (h'.imp id fun h => h.imp id fun h => ⟨hbe.1 h.1, h.2⟩))] at hu; rw [<- hR, comb_some he hu, List.drop_drop]
      have hbad2 : ¬ (byteAt s i = 0 \/ 0 <= inZ (byteAt s i) bdB \/ b.length = 0 /\ (byteAt s i = 32 \/ byteAt s i = 35)) -> byteAt s i = 32 -> (s.length <= i + 1 \/ byteAt s (i + 1) = 44 \/ byteAt s (i + 1) = 43) -> R = none := fun h1 h2 h3 => by
        rw [<- hok h1, decide_eq_true h2]; exact comb_blank.1 (hE1.2 h3)
      have hok2 : ¬ (byteAt s i = 0 \/ 0 <= inZ (byteAt s i) bdB \/ b.length = 0 /\ (byteAt s i = 32 \/ byteAt s i = 35)) -> ¬ (byteAt s i = 32 /\ (s.length <= i + 1 \/ byteAt s (i + 1) = 44 \/ byteAt s (i + 1) = 43)) -> comb (b ++ [s[i]]) false (s.drop (i + 1)) = R := fun h1 h2 => by
        have h3 := hok h1
        by_cases h4 : byteAt s i = 32
        . rw [decide_eq_true h4] at h3
          rw [<- h3]
          exact (comb_blank.2 (by rw [Bool.eq_false_iff]; exact fun e => h2 ⟨h4, hE1.1 e⟩)).symm
        . rw [decide_eq_false h4] at h3; exact h3
      clear hu hok hE1
      generalize hz : inZ (byteAt s i) bdB = z at *
      generalize hz' : inZ (byteAt s i) [32, 35] = z3 at *
      cases fb with
      | true =>
        have hb0 := hbe.1 hfb.symm
        repeat' (first | (show G _ (.ops .seq _ (⟨some _, .call { callee := .value (.func 32), args := _, argTypes := _ }, _, _, _, none⟩ :: _) :: _) _ _ _; refine G.call callIn9 rfl rfl (ref09_inZ (byteAt s i) bdB (by decide) _) Ze ?_; rintro _ h3 H3 ⟨rfl, rfl⟩ hle3; rw [hz]) | (show G _ (.ops .seq _ (⟨some _, .call { callee := .value (.func 32), args := _, argTypes := _ }, _, _, _, none⟩ :: _) :: _) _ _ _; refine G.call callIn9 rfl rfl (ref09_inZ (byteAt s i) [32, 35] (by decide) _) Ze ?_; rintro _ h3 H3 ⟨rfl, rfl⟩ hle3; rw [hz']) | (refine G.atCode ?_; first | refine G.seq ?_ | refine G.region ?_ | refine G.block ?_ | refine G.skip ?_ | refine G.ret ?_ | (refine G.cond rfl ?_ ?_ <;> intro hc <;> (try simp only [tests, reduceCtorEq] at hc) <;> (try exact Zf))) | refine G.endOps ?_ | refine G.endBlk ?_ | (refine G.atGd ?_; first | refine G.guardYes rfl rfl ?_ | refine G.guardNoS rfl rfl rfl ?_ | refine G.guardU rfl rfl rfl ?_ | (refine G.guardS rfl rfl rfl ?_ ?_ <;> intro hc <;> (try simp only [tests, reduceCtorEq] at hc) <;> (try exact Zf))) | (refine G.atBin ?_; first | (refine G.atAdd ?_; first | refine G.arith rfl rfl rfl rfl rfl Zi ?_) | (refine G.atEql ?_; first | refine G.op rfl rfl ?_) | (refine G.atNeq ?_; first | refine G.op rfl rfl ?_) | refine G.op rfl rfl ?_) | refine G.op rfl rfl ?_ | (refine G.atLen ?_; first | refine G.lenStr rfl (tyy rfl) rfl ?_) | (refine G.atBsl ?_; refine G.buildSlice (tyy rfl) (tyy rfl) rfl rfl rfl rfl ?_; intro _) | (refine G.atApp ?_; first | (refine G.append1B rfl rfl (tyy rfl) (tyy rfl) rfl rfl Za Za rfl Zo Zo ?_; intro _)) | (refine G.atInd ?_; refine G.idxStr rfl rfl (tyy rfl) rfl Zj Zo ?_; intro _))
        all_goals first
          | (have e := hbad (by omega)
             subst e
             exact G.done3 rfl rfl rfl rfl _ (SubH.nil _) ⟨⟨[], 0, rfl⟩, rfl⟩)
          | (have e := hbad2 (by omega) (by omega) (by omega)
             subst e
             exact G.done3 rfl rfl rfl rfl _ (SubH.nil _) ⟨⟨[], 0, rfl⟩, rfl⟩)
          | (have e := hok2 (by omega) (by omega)
             rw [Int.toNat_natCast, hof]
             exact G.again ⟨i + 1, false, _, b ++ [s[i]]⟩ ⟨sint (by omega), rfl, rfl, rfl, trivial⟩ Zu ⟨by simp only; omega, by simp only; omega, by simp only [List.length_append, List.length_cons, List.length_nil]; omega, hb2 _, e⟩ (by solve | repeat first | assumption | exact Zr _ | refine Zq ?_ Zp) (by simp only; omega))
      | false =>
        have hb0 : ¬ b.length = 0 := fun e => by rw [hbe.2 e] at hfb; cases hfb
        repeat' (first | (show G _ (.ops .seq _ (⟨some _, .call { callee := .value (.func 32), args := _, argTypes := _ }, _, _, _, none⟩ :: _) :: _) _ _ _; refine G.call callIn9 rfl rfl (ref09_inZ (byteAt s i) bdB (by decide) _) Ze ?_; rintro _ h3 H3 ⟨rfl, rfl⟩ hle3; rw [hz]) | (refine G.atCode ?_; first | refine G.seq ?_ | refine G.region ?_ | refine G.block ?_ | refine G.skip ?_ | refine G.ret ?_ | (refine G.cond rfl ?_ ?_ <;> intro hc <;> (try simp only [tests, reduceCtorEq] at hc) <;> (try exact Zf))) | refine G.endOps ?_ | refine G.endBlk ?_ | (refine G.atGd ?_; first | refine G.guardYes rfl rfl ?_ | refine G.guardNoS rfl rfl rfl ?_ | refine G.guardU rfl rfl rfl ?_ | (refine G.guardS rfl rfl rfl ?_ ?_ <;> intro hc <;> (try simp only [tests, reduceCtorEq] at hc) <;> (try exact Zf))) | (refine G.atBin ?_; first | (refine G.atAdd ?_; first | refine G.arith rfl rfl rfl rfl rfl Zi ?_) | (refine G.atEql ?_; first | refine G.op rfl rfl ?_) | (refine G.atNeq ?_; first | refine G.op rfl rfl ?_) | refine G.op rfl rfl ?_) | refine G.op rfl rfl ?_ | (refine G.atLen ?_; first | refine G.lenStr rfl (tyy rfl) rfl ?_) | (refine G.atBsl ?_; refine G.buildSlice (tyy rfl) (tyy rfl) rfl rfl rfl rfl ?_; intro _) | (refine G.atApp ?_; first | (refine G.append1B rfl rfl (tyy rfl) (tyy rfl) rfl rfl Za Za rfl Zo Zo ?_; intro _)) | (refine G.atInd ?_; refine G.idxStr rfl rfl (tyy rfl) rfl Zj Zo ?_; intro _))
        all_goals first
          | (have e := hbad (by omega)
             subst e
             exact G.done3 rfl rfl rfl rfl _ (SubH.nil _) ⟨⟨[], 0, rfl⟩, rfl⟩)
          | (have e := hbad2 (by omega) (by omega) (by omega)
             subst e
             exact G.done3 rfl rfl rfl rfl _ (SubH.nil _) ⟨⟨[], 0, rfl⟩, rfl⟩)
          | (have e := hok2 (by omega) (by omega)
             rw [Int.toNat_natCast, hof]
             exact G.again ⟨i + 1, false, _, b ++ [s[i]]⟩ ⟨sint (by omega), rfl, rfl, rfl, trivial⟩ Zu ⟨by simp only; omega, by simp only; omega, by simp only [List.length_append, List.length_cons, List.length_nil]; omega, hb2 _, e⟩ (by solve | repeat first | assumption | exact Zr _ | refine Zq ?_ Zp) (by simp only; omega))
end Go.Proofs.Ytahpemfnhepgoaa
