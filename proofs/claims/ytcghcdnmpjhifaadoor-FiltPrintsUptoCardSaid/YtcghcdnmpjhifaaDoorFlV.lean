/- Filters' tables; the reader's take; a value as it is written. -/
import Derived.Test.YtcghcdnmpjhifaaDoorFlM
import Derived.Test.YtcghcdnmpjhifaaDoorLtU
namespace Go.Proofs.YtcghcdnmpjhifaaDoor
set_option linter.all false
set_option maxRecDepth 4000
open Go.RowKit

theorem callTake : Callable Tryd.prog 27 := ⟨_, Tryd.func27, by kernel_rfl, rfl⟩
theorem callFPlain : Callable Tryd.prog 43 := ⟨_, Tryd.func43, by kernel_rfl, rfl⟩
abbrev frd (g : Nat) (s : List UInt8) (n : Int) : Chunk := .blk g [str s, .int .i64 n] 47
theorem filt_take (g : Nat) (s p : List UInt8) (n : Int) (hs : s.length <= 1000000000) (hp : p.length <= 1000000000) (h : Heap) :
    Spec Tryd.prog 27 [.pointer (some ⟨g, 0, none⟩), str p] h [frd g s n] (fun u _ H' => u = .bool (preM p s) /\ H' = [frd g (cutP p s) n]) := by
  unfold frd
  cases hm : preM p s with
  | false =>
    have e : cutP p s = s := by unfold cutP; rw [hm]; rfl
    rw [e]
    refine Spec.enter Tryd.func27 rfl rfl ?_; intro w0
    repeat' (first | (show G _ (.ops .seq _ (⟨some _, .call { callee := .value (.func 38), args := _, argTypes := _ }, _, _, _, none⟩ :: _) :: _) _ _ _; refine G.call callCutP rfl rfl (str_CutPrefix s p hs hp _) Ze ?_; rintro _ h2 H2 ⟨rfl, rfl⟩ hle2; rw [hm]) | (refine G.atCode ?_; first | refine G.seq ?_ | refine G.region ?_ | refine G.skip ?_ | refine G.ret ?_ | (refine G.cond rfl ?_ ?_ <;> intro hc <;> (try simp only [tests, reduceCtorEq] at hc) <;> (try exact Zf))) | refine G.endOps ?_ | refine G.op rfl rfl ?_ | (refine G.atLoad ?_; first | refine G.loadOwn1 rfl (tyy rfl) rfl rfl Za rfl rfl ?_) | (refine G.atFld ?_; first | refine G.fieldAddr rfl (tyy rfl) rfl rfl ?_))
    all_goals exact G.done1 rfl rfl [frd g s n] Zu ⟨rfl, rfl⟩
  | true =>
    refine Spec.enter Tryd.func27 rfl rfl ?_; intro w0
    repeat' (first | (show G _ (.ops .seq _ (⟨some _, .call { callee := .value (.func 38), args := _, argTypes := _ }, _, _, _, none⟩ :: _) :: _) _ _ _; refine G.call callCutP rfl rfl (str_CutPrefix s p hs hp _) Ze ?_; rintro _ h2 H2 ⟨rfl, rfl⟩ hle2; rw [hm]) | (refine G.atCode ?_; first | refine G.seq ?_ | refine G.region ?_ | refine G.ret ?_ | (refine G.cond rfl ?_ ?_ <;> intro hc <;> (try simp only [tests, reduceCtorEq] at hc) <;> (try exact Zf))) | refine G.endOps ?_ | refine G.op rfl rfl ?_ | (refine G.atLoad ?_; first | refine G.loadOwn1 rfl (tyy rfl) rfl rfl Za rfl rfl ?_) | (refine G.atFld ?_; first | refine G.fieldAddr rfl (tyy rfl) rfl rfl ?_) | (refine G.atSto ?_; refine G.storeOwn rfl rfl (tyy rfl) Za rfl rfl rfl rfl ?_))
    all_goals exact G.done1 rfl rfl [frd g (cutP p s) n] Zu ⟨rfl, rfl⟩
set_option maxRecDepth 8000 in
set_option maxHeartbeats 1000000 in
theorem filt_plain (s : List UInt8) (hs : s.length <= 10000000) (h : Heap) : Spec Tryd.prog 43 [str s] h [] (fun u _ H' => u = .tuple #[str ((plainM s).getD []), .bool (plainM s).isSome] /\ H' = []) := by
  generalize hR1 : plainM s = R
  have hR0 : (plainM s).map (([] : List UInt8) ++ ·) = R := by rw [<- hR1]; cases plainM s <;> rfl
  clear hR1
  refine Spec.enter Tryd.func43 rfl rfl ?_; intro w0
  repeat' (first | (refine G.atCode ?_; refine G.stopLoop ?_) | (refine G.atCode ?_; first | refine G.seq ?_ | refine G.region ?_ | refine G.block ?_) | refine G.endOps ?_ | refine G.op rfl rfl ?_)
  refine G.nilRowB 5 ?_
  refine G.go ?_
  refine G.loop (σ := Nat × Value × List UInt8) (fun x => [(5, .int .i64 x.1), (4, x.2.1), (0, str s)])
    (fun x => [.row x.2.1 5 1 (bytesR x.2.2)])
    (fun x _ => x.1 <= s.length /\ x.2.2.length <= x.1 /\ (plainM (s.drop x.1)).map (x.2.2 ++ ·) = R) (fun x => s.length - x.1) ⟨0, .slice none 0 0, []⟩ ⟨rfl, rfl, rfl, trivial⟩ Zu ⟨Nat.zero_le _, Nat.le_refl _, hR0⟩ ?_
  rintro ⟨i, v, b⟩ h1 hle1 ⟨hi, hbl, hR⟩
  simp only at hi hbl hR
  refine G.norm (by (try dsimp only) <;> exact rfl) (by (try dsimp only) <;> exact rfl) ?_
  by_cases hlt : i < s.length
  . have hbe := byteAt_eq hlt
    have hof := ofNat_byteAt hlt
    rw [List.drop_eq_getElem_cons hlt, plainM_eq] at hR
    by_cases h0 : byteAt s i = 0 \/ byteAt s i = 40
    . rw [if_pos (by rw [<- hbe]; exact h0)] at hR
      subst hR
      repeat' (first | (refine G.atCode ?_; first | refine G.seq ?_ | refine G.region ?_ | refine G.block ?_ | refine G.skip ?_ | refine G.ret ?_ | (refine G.cond rfl ?_ ?_ <;> intro hc <;> (try simp only [tests, reduceCtorEq] at hc) <;> (try exact Zf))) | refine G.endOps ?_ | (refine G.atGd ?_; first | refine G.guardYes rfl rfl ?_ | refine G.guardNoS rfl rfl rfl ?_ | (refine G.guardS rfl rfl rfl ?_ ?_ <;> intro hc <;> (try simp only [tests, reduceCtorEq] at hc) <;> (try exact Zf))) | (refine G.atBin ?_; first | (refine G.atEql ?_; first | refine G.op rfl rfl ?_) | refine G.op rfl rfl ?_) | refine G.op rfl rfl ?_ | (refine G.atLen ?_; first | refine G.lenStr rfl (tyy rfl) rfl ?_) | (refine G.atInd ?_; refine G.idxStr rfl rfl (tyy rfl) rfl Zj Zo ?_; intro _))
      all_goals first | (exfalso; omega) | exact G.done2 rfl rfl rfl _ (SubH.nil _) ⟨rfl, rfl⟩
    rw [if_neg (by rw [<- hbe]; exact h0)] at hR
    by_cases h92 : byteAt s i = 92
    . rw [if_pos (by rw [<- hbe]; exact h92)] at hR
      by_cases h2 : i + 2 < s.length
      . have hsl : List.take (((i : Int) + 3).toNat - ((i : Int) + 1).toNat) (List.drop ((i : Int) + 1).toNat s) = [s[i + 1], s[i + 2]] := by
          rw [show ((i : Int) + 3).toNat - ((i : Int) + 1).toNat = 2 by omega, show ((i : Int) + 1).toNat = i + 1 by omega, List.drop_eq_getElem_cons (by omega), List.drop_eq_getElem_cons (by omega)]; rfl
        rw [List.drop_eq_getElem_cons (show i + 1 < s.length by omega), List.drop_eq_getElem_cons (show i + 1 + 1 < s.length by omega)] at hR
        simp only at hR
        generalize s[i + 1] = c1 at *
        generalize s[i + 2] = c2 at *
        cases hx : hexM c1 c2 with
        | none =>
          have hxs : hexS c1 c2 = [] := by unfold hexS; rw [hx]
          rw [hx] at hR
          simp only [Option.map_none] at hR
          subst hR
          repeat' (first | (show G _ (.ops .seq _ (⟨some _, .call { callee := .value (.func 58), args := _, argTypes := _ }, _, _, _, none⟩ :: _) :: _) _ _ _; rw [hsl]; refine G.call callUnhex rfl rfl (octet_Unhex c1 c2 _) Ze ?_; rintro _ h4 H4 ⟨rfl, rfl⟩ hle4; rw [hx, hxs]) | (refine G.atCode ?_; first | refine G.seq ?_ | refine G.region ?_ | refine G.block ?_ | refine G.skip ?_ | refine G.ret ?_ | (refine G.cond rfl ?_ ?_ <;> intro hc <;> (try simp only [tests, reduceCtorEq] at hc) <;> (try exact Zf))) | refine G.endOps ?_ | (refine G.atGd ?_; first | refine G.guardYes rfl rfl ?_ | (refine G.guardS rfl rfl rfl ?_ ?_ <;> intro hc <;> (try simp only [tests, reduceCtorEq] at hc) <;> (try exact Zf))) | (refine G.atBin ?_; first | (refine G.atAdd ?_; first | refine G.arith rfl rfl rfl rfl rfl Zi ?_) | (refine G.atEql ?_; first | refine G.op rfl rfl ?_) | refine G.op rfl rfl ?_) | refine G.op rfl rfl ?_ | (refine G.atLen ?_; first | refine G.lenStr rfl (tyy rfl) rfl ?_) | (refine G.atInd ?_; refine G.idxStr rfl rfl (tyy rfl) rfl Zj Zo ?_; intro _) | (refine G.atSlc ?_; first | refine G.sliceStr rfl rfl rfl (tyy rfl) rfl Zj Zj Zo rfl ?_))
          all_goals first | (exfalso; omega) | exact G.done2 rfl rfl rfl _ (SubH.nil _) ⟨rfl, rfl⟩
        | some x =>
          have hxs : hexS c1 c2 = [x] := by unfold hexS; rw [hx]
          rw [hx] at hR
          repeat' (first | (show G _ (.ops .seq _ (⟨some _, .call { callee := .value (.func 58), args := _, argTypes := _ }, _, _, _, none⟩ :: _) :: _) _ _ _; rw [hsl]; refine G.call callUnhex rfl rfl (octet_Unhex c1 c2 _) Ze ?_; rintro _ h4 H4 ⟨rfl, rfl⟩ hle4; rw [hx, hxs]) | (refine G.atCode ?_; first | refine G.seq ?_ | refine G.region ?_ | refine G.block ?_ | refine G.skip ?_ | (refine G.cond rfl ?_ ?_ <;> intro hc <;> (try simp only [tests, reduceCtorEq] at hc) <;> (try exact Zf))) | refine G.endOps ?_ | refine G.endBlk ?_ | (refine G.atGd ?_; first | refine G.guardYes rfl rfl ?_ | (refine G.guardS rfl rfl rfl ?_ ?_ <;> intro hc <;> (try simp only [tests, reduceCtorEq] at hc) <;> (try exact Zf))) | (refine G.atBin ?_; first | (refine G.atAdd ?_; first | refine G.arith rfl rfl rfl rfl rfl Zi ?_) | (refine G.atEql ?_; first | refine G.op rfl rfl ?_) | refine G.op rfl rfl ?_) | refine G.op rfl rfl ?_ | (refine G.atLen ?_; first | refine G.lenStr rfl (tyy rfl) rfl ?_) | (refine G.atApp ?_; first | (refine G.appendStr rfl rfl (tyy rfl) (tyy rfl) (tyy rfl) rfl rfl Za rfl Zo ?_; intro _)) | (refine G.atInd ?_; refine G.idxStr rfl rfl (tyy rfl) rfl Zj Zo ?_; intro _) | (refine G.atSlc ?_; first | refine G.sliceStr rfl rfl rfl (tyy rfl) rfl Zj Zj Zo rfl ?_))
          all_goals first | (exfalso; omega) | exact G.again ⟨i + 3, _, b ++ [x]⟩ ⟨sint (by omega), rfl, rfl, trivial⟩ Zu ⟨by simp only; omega, by simp only [List.length_append, List.length_cons, List.length_nil]; omega, by rw [<- hR]; simp only [opt_map2, List.append_assoc, List.singleton_append]⟩ (by solve | repeat first | assumption | exact Zr _ | refine Zq ?_ Zp) (by simp only; omega)
      . have hn : R = none := by
          rw [<- hR]
          have hd : (s.drop (i + 1)).length = s.length - (i + 1) := by rw [List.length_drop]
          generalize s.drop (i + 1) = q at hd ⊢
          match q, hd with
          | [], _ => rfl
          | [x], _ => rfl
          | x :: y :: r, hd => simp only [List.length_cons] at hd; omega
        subst hn
        repeat' (first | (refine G.atCode ?_; first | refine G.seq ?_ | refine G.region ?_ | refine G.block ?_ | refine G.skip ?_ | refine G.ret ?_ | (refine G.cond rfl ?_ ?_ <;> intro hc <;> (try simp only [tests, reduceCtorEq] at hc) <;> (try exact Zf))) | refine G.endOps ?_ | (refine G.atGd ?_; first | refine G.guardYes rfl rfl ?_ | (refine G.guardS rfl rfl rfl ?_ ?_ <;> intro hc <;> (try simp only [tests, reduceCtorEq] at hc) <;> (try exact Zf))) | (refine G.atBin ?_; first | (refine G.atAdd ?_; first | refine G.arith rfl rfl rfl rfl rfl Zi ?_) | (refine G.atEql ?_; first | refine G.op rfl rfl ?_) | refine G.op rfl rfl ?_) | refine G.op rfl rfl ?_ | (refine G.atLen ?_; first | refine G.lenStr rfl (tyy rfl) rfl ?_) | (refine G.atInd ?_; refine G.idxStr rfl rfl (tyy rfl) rfl Zj Zo ?_; intro _))
        all_goals first | (exfalso; omega) | exact G.done2 rfl rfl rfl _ (SubH.nil _) ⟨rfl, rfl⟩
    . rw [if_neg (by rw [<- hbe]; exact h92)] at hR
      repeat' (first | (refine G.atCode ?_; first | refine G.seq ?_ | refine G.region ?_ | refine G.block ?_ | refine G.skip ?_ | (refine G.cond rfl ?_ ?_ <;> intro hc <;> (try simp only [tests, reduceCtorEq] at hc) <;> (try exact Zf))) | refine G.endOps ?_ | refine G.endBlk ?_ | (refine G.atGd ?_; first | refine G.guardYes rfl rfl ?_ | (refine G.guardS rfl rfl rfl ?_ ?_ <;> intro hc <;> (try simp only [tests, reduceCtorEq] at hc) <;> (try exact Zf))) | (refine G.atBin ?_; first | (refine G.atAdd ?_; first | refine G.arith rfl rfl rfl rfl rfl Zi ?_) | (refine G.atEql ?_; first | refine G.op rfl rfl ?_) | refine G.op rfl rfl ?_) | refine G.op rfl rfl ?_ | (refine G.atLen ?_; first | refine G.lenStr rfl (tyy rfl) rfl ?_) | (refine G.atBsl ?_; refine G.buildSlice (tyy rfl) (tyy rfl) rfl rfl rfl rfl ?_; intro _) | (refine G.atApp ?_; first | (refine G.append1B rfl rfl (tyy rfl) (tyy rfl) rfl rfl Za Za rfl Zo Zo ?_; intro _)) | (refine G.atInd ?_; refine G.idxStr rfl rfl (tyy rfl) rfl Zj Zo ?_; intro _))
      all_goals try (exfalso; omega)
      rw [Int.toNat_natCast, hof]
      exact G.again ⟨i + 1, _, b ++ [s[i]]⟩ ⟨sint (by simp), rfl, rfl, trivial⟩ Zu ⟨by simp only; omega, by simp only [List.length_append, List.length_cons, List.length_nil]; omega, by rw [<- hR]; simp only [opt_map2, List.append_assoc, List.singleton_append]⟩ (by solve | repeat first | assumption | exact Zr _ | refine Zq ?_ Zp) (by simp only; omega)
  . rw [List.drop_eq_nil_of_le (by omega)] at hR
    simp only [plainM, Option.map_some, List.append_nil] at hR
    subst hR
    repeat' (first | (refine G.atCode ?_; first | refine G.seq ?_ | refine G.region ?_ | refine G.exit rfl ?_ | refine G.ret ?_ | (refine G.cond rfl ?_ ?_ <;> intro hc <;> (try simp only [tests, reduceCtorEq] at hc) <;> (try exact Zf))) | refine G.endOps ?_ | (refine G.atBin ?_; first | refine G.op rfl rfl ?_) | refine G.op rfl rfl ?_ | (refine G.atLen ?_; first | refine G.lenStr rfl (tyy rfl) rfl ?_) | (refine G.atConv ?_; first | refine G.convStr rfl (tyy rfl) (tyy rfl) (tyy rfl) Za rfl ?_))
    all_goals first | (exfalso; omega) | exact G.done2 rfl rfl rfl _ (SubH.nil _) ⟨rfl, rfl⟩
end Go.Proofs.YtcghcdnmpjhifaaDoor
