/- Names: a value as it is written; dn.written, castellanref09.written. -/
import Derived.Test.YtahpemfnhepgoaaDnD
namespace Go.Proofs.Ytahpemfnhepgoaa
set_option linter.all false
set_option maxRecDepth 4000
open Go.RowKit

def esB : List UInt8 := [34, 43, 44, 59, 60, 62, 92]
def wrU (first last : Bool) (c : UInt8) : List UInt8 := if c.toNat = 0 then [92, 48, 48] else if inN c.toNat esB = true \/ (first = true /\ (c.toNat = 32 \/ c.toNat = 35)) \/ (last = true /\ c.toNat = 32) then [92, c] else [c]
def wrTo (v : List UInt8) : Nat -> List UInt8
  | 0 => []
  | i + 1 => wrTo v i ++ (match v[i]? with | none => [] | some c => wrU (decide (i = 0)) (decide (i + 1 = v.length)) c)
def wrM (v : List UInt8) : List UInt8 := wrTo v v.length
theorem wrU_len (f l : Bool) (c : UInt8) : 1 <= (wrU f l c).length /\ (wrU f l c).length <= 3 := by
  unfold wrU; split
  . simp
  . split <;> simp
theorem wrTo_len (v : List UInt8) : ∀ i, i <= v.length -> i <= (wrTo v i).length /\ (wrTo v i).length <= 3 * i
  | 0, _ => by simp [wrTo]
  | i + 1, h => by
    have ih := wrTo_len v i (by omega)
    rw [wrTo, List.getElem?_eq_getElem (by omega), List.length_append]
    have := wrU_len (decide (i = 0)) (decide (i + 1 = v.length)) (v[i]'(by omega))
    simp only
    omega
theorem wrM_len (v : List UInt8) : v.length <= (wrM v).length /\ (wrM v).length <= 3 * v.length := wrTo_len v v.length (Nat.le_refl _)
theorem wrTo_step {v : List UInt8} {i : Nat} (h : i < v.length) : wrTo v (i + 1) = wrTo v i ++ (if byteAt v i = 0 then [92, 48, 48] else if 0 <= inZ (byteAt v i) esB \/ (i = 0 /\ (byteAt v i = 32 \/ byteAt v i = 35)) \/ (i + 1 = v.length /\ byteAt v i = 32) then [92, v[i]'h] else [v[i]'h]) := by
  rw [wrTo, List.getElem?_eq_getElem h, byteAt_eq h]
  have hz := inZ_bool (v[i]'h).toNat esB
  simp only [wrU, hz, decide_eq_true_eq]
theorem callWritten : Callable Try.prog 46 := ⟨_, Try.func46, by kernel_rfl, rfl⟩
theorem callRWritten : Callable Try.prog 49 := ⟨_, Try.func49, by kernel_rfl, rfl⟩
set_option maxRecDepth 8000 in
set_option maxHeartbeats 1000000 in
theorem dn_written (s : List UInt8) (hs : s.length <= 10000000) (h : Heap) : Spec Try.prog 46 [str s] h [] (fun u _ H' => u = str (wrM s) /\ H' = []) := by
  unfold wrM
  refine Spec.enter Try.func46 rfl rfl ?_; intro w0
  repeat' (first | (refine G.atCode ?_; refine G.stopLoop ?_) | (refine G.atCode ?_; first | refine G.seq ?_ | refine G.region ?_ | refine G.block ?_) | refine G.endOps ?_ | refine G.op rfl rfl ?_ | (refine G.atLen ?_; first | refine G.lenRowB rfl (tyy rfl) Za rfl ?_) | (refine G.atConv ?_; first | (refine G.convBytes rfl (tyy rfl) (tyy rfl) (tyy rfl) rfl Zo ?_; intro _)))
  rename_i v
  refine G.nilRowB 5 ?_
  refine G.go ?_
  refine G.loop (σ := Nat × Value) (fun x => [(10, .int .i64 x.1), (9, .int .i64 s.length), (8, v), (3, x.2), (0, str s)])
    (fun x => [.row v 5 1 (bytesR s), .row x.2 5 1 (bytesR (wrTo s x.1))])
    (fun x _ => x.1 <= s.length) (fun x => s.length - x.1) ⟨0, .slice none 0 0⟩ ⟨rfl, rfl, rfl, rfl, rfl, trivial⟩ Zu (Nat.zero_le _) ?_
  rintro ⟨i, v2⟩ h1 hle1 hi
  simp only at hi
  refine G.norm (by (try dsimp only) <;> exact rfl) (by (try dsimp only) <;> exact rfl) ?_
  have hwl := wrTo_len s i hi
  by_cases hlt : i < s.length
  . have hst := wrTo_step hlt
    have hof := ofNat_byteAt hlt
    have hcb := byteAt_lt s i
    generalize hz : inZ (byteAt s i) esB = z at *
    generalize wrTo s i = B at *
    repeat' (first | (refine G.atIdx ?_; refine G.idxRow' rfl rfl (tyy rfl) (tyy rfl) Za Zj rfl (by rw [bytesR_length]; omega) ?_; intro _ _) | (show G _ (.ops .seq _ (⟨some _, .call { callee := .value (.func 42), args := _, argTypes := _ }, _, _, _, none⟩ :: _) :: _) _ _ _; refine G.call callIdxB rfl rfl (str_IndexZ esB (byteAt s i) hcb _) Ze ?_; rintro _ h2 H2 ⟨⟨j, rfl, hj⟩, rfl⟩ hle2; rw [hz] at hj) | (refine G.atCode ?_; first | refine G.seq ?_ | refine G.region ?_ | refine G.block ?_ | refine G.skip ?_ | refine G.exit rfl ?_ | (refine G.cond rfl ?_ ?_ <;> intro hc <;> (try simp only [tests, reduceCtorEq] at hc) <;> (try exact Zf))) | refine G.endOps ?_ | refine G.endBlk ?_ | (refine G.atGd ?_; first | refine G.guardYes rfl rfl ?_ | refine G.guardNoS rfl rfl rfl ?_ | refine G.guardU rfl rfl rfl ?_ | (refine G.guardS rfl rfl rfl ?_ ?_ <;> intro hc <;> (try simp only [tests, reduceCtorEq] at hc) <;> (try exact Zf))) | (refine G.atBin ?_; first | (refine G.atAdd ?_; first | refine G.arith rfl rfl rfl rfl rfl Zi ?_) | (refine G.atSub ?_; first | refine G.arith rfl rfl rfl rfl rfl Zi ?_) | (refine G.atEql ?_; first | refine G.op rfl rfl ?_) | refine G.op rfl rfl ?_) | refine G.op rfl rfl ?_ | (refine G.atLen ?_; first | refine G.lenStr rfl (tyy rfl) rfl ?_) | (refine G.atLoad ?_; first | (refine G.loadRowB rfl (tyy rfl) Zp Za Zo rfl ?_; intro _)) | (refine G.atBsl ?_; refine G.buildSlice (tyy rfl) (tyy rfl) rfl rfl rfl rfl ?_; intro _) | (refine G.atApp ?_; first | (refine G.append1B rfl rfl (tyy rfl) (tyy rfl) rfl rfl Za Za rfl Zo Zo ?_; intro _) | (refine G.appendStr rfl rfl (tyy rfl) (tyy rfl) (tyy rfl) rfl rfl Za rfl Zo ?_; intro _)))
    all_goals first
      | (rw [if_pos (by omega)] at hst
         exact G.again ⟨i + 1, _⟩ ⟨sint (by omega), rfl, rfl, rfl, rfl, trivial⟩ (by rw [hst]; exact Zu) (by simp only; omega) (by solve | repeat first | assumption | exact Zr _ | refine Zq ?_ Zp) (by simp only; omega))
      | (rw [if_neg (by omega), if_pos (by omega)] at hst
         have e2 : B ++ [UInt8.ofNat (92 : Int).toNat] ++ [UInt8.ofNat ((byteAt s i : Nat) : Int).toNat] = wrTo s (i + 1) := by rw [hst, Int.toNat_natCast, hof, List.append_assoc]; rfl
         rw [e2]
         exact G.again ⟨i + 1, _⟩ ⟨sint (by omega), rfl, rfl, rfl, rfl, trivial⟩ Zu (by simp only; omega) (by solve | repeat first | assumption | exact Zr _ | refine Zq ?_ Zp) (by simp only; omega))
      | (rw [if_neg (by omega), if_neg (by omega)] at hst
         rw [Int.toNat_natCast, hof, ← hst]
         exact G.again ⟨i + 1, _⟩ ⟨sint (by omega), rfl, rfl, rfl, rfl, trivial⟩ Zu (by simp only; omega) (by solve | repeat first | assumption | exact Zr _ | refine Zq ?_ Zp) (by simp only; omega))
  . obtain rfl : i = s.length := by omega
    repeat' (first | (refine G.atCode ?_; first | refine G.seq ?_ | refine G.region ?_ | refine G.exit rfl ?_ | refine G.ret ?_ | (refine G.cond rfl ?_ ?_ <;> intro hc <;> (try simp only [tests, reduceCtorEq] at hc) <;> (try exact Zf))) | refine G.endOps ?_ | (refine G.atBin ?_; first | refine G.op rfl rfl ?_) | refine G.op rfl rfl ?_ | (refine G.atConv ?_; first | refine G.convStr rfl (tyy rfl) (tyy rfl) (tyy rfl) Za rfl ?_))
    all_goals first | (exfalso; omega) | exact G.done1 rfl rfl _ (SubH.nil _) ⟨rfl, rfl⟩
set_option maxRecDepth 8000 in
set_option maxHeartbeats 1000000 in
theorem ref09_written (s : List UInt8) (hs : s.length <= 10000000) (h : Heap) : Spec Try.prog 49 [str s] h [] (fun u _ H' => u = str (wrM s) /\ H' = []) := by
  unfold wrM
  refine Spec.enter Try.func49 rfl rfl ?_; intro w0
  repeat' (first | (refine G.atCode ?_; refine G.stopLoop ?_) | (refine G.atCode ?_; first | refine G.seq ?_ | refine G.region ?_ | refine G.block ?_) | refine G.endOps ?_ | refine G.op rfl rfl ?_)
  refine G.nilRowB 5 ?_
  refine G.go ?_
  refine G.loop (σ := Nat × Value) (fun x => [(4, .int .i64 x.1), (3, x.2), (0, str s)])
    (fun x => [.row x.2 5 1 (bytesR (wrTo s x.1))])
    (fun x _ => x.1 <= s.length) (fun x => s.length - x.1) ⟨0, .slice none 0 0⟩ ⟨rfl, rfl, rfl, trivial⟩ Zu (Nat.zero_le _) ?_
  rintro ⟨i, v2⟩ h1 hle1 hi
  simp only at hi
  refine G.norm (by (try dsimp only) <;> exact rfl) (by (try dsimp only) <;> exact rfl) ?_
  have hwl := wrTo_len s i hi
  by_cases hlt : i < s.length
  . have hst := wrTo_step hlt
    have hof := ofNat_byteAt hlt
    have hcb := byteAt_lt s i
    have hz2 := inZ_two (byteAt s i)
    generalize hz : inZ (byteAt s i) esB = z at *
    generalize hz' : inZ (byteAt s i) [32, 35] = z3 at *
    generalize wrTo s i = B at *
    repeat' (first | (show G _ (.ops .seq _ (⟨some _, .call { callee := .value (.func 32), args := _, argTypes := _ }, _, _, _, none⟩ :: _) :: _) _ _ _; refine G.call callIn9 rfl rfl (ref09_inZ (byteAt s i) esB (by decide) _) Ze ?_; rintro _ h3 H3 ⟨rfl, rfl⟩ hle3; rw [hz]) | (show G _ (.ops .seq _ (⟨some _, .call { callee := .value (.func 32), args := _, argTypes := _ }, _, _, _, none⟩ :: _) :: _) _ _ _; refine G.call callIn9 rfl rfl (ref09_inZ (byteAt s i) [32, 35] (by decide) _) Ze ?_; rintro _ h3 H3 ⟨rfl, rfl⟩ hle3; rw [hz']) | (refine G.atCode ?_; first | refine G.seq ?_ | refine G.region ?_ | refine G.block ?_ | refine G.skip ?_ | refine G.exit rfl ?_ | (refine G.cond rfl ?_ ?_ <;> intro hc <;> (try simp only [tests, reduceCtorEq] at hc) <;> (try exact Zf))) | refine G.endOps ?_ | refine G.endBlk ?_ | (refine G.atGd ?_; first | refine G.guardYes rfl rfl ?_ | refine G.guardNoS rfl rfl rfl ?_ | refine G.guardU rfl rfl rfl ?_ | (refine G.guardS rfl rfl rfl ?_ ?_ <;> intro hc <;> (try simp only [tests, reduceCtorEq] at hc) <;> (try exact Zf))) | (refine G.atBin ?_; first | (refine G.atAdd ?_; first | refine G.arith rfl rfl rfl rfl rfl Zi ?_) | (refine G.atEql ?_; first | refine G.op rfl rfl ?_) | refine G.op rfl rfl ?_) | refine G.op rfl rfl ?_ | (refine G.atLen ?_; first | refine G.lenStr rfl (tyy rfl) rfl ?_) | (refine G.atBsl ?_; refine G.buildSlice (tyy rfl) (tyy rfl) rfl rfl rfl rfl ?_; intro _) | (refine G.atApp ?_; first | (refine G.append1B rfl rfl (tyy rfl) (tyy rfl) rfl rfl Za Za rfl Zo Zo ?_; intro _) | (refine G.appendStr rfl rfl (tyy rfl) (tyy rfl) (tyy rfl) rfl rfl Za rfl Zo ?_; intro _)) | (refine G.atInd ?_; refine G.idxStr rfl rfl (tyy rfl) rfl Zj Zo ?_; intro _))
    all_goals first
      | (rw [if_pos (by omega)] at hst
         exact G.again ⟨i + 1, _⟩ ⟨sint (by omega), rfl, rfl, trivial⟩ (by rw [hst]; exact Zu) (by simp only; omega) (by solve | repeat first | assumption | exact Zr _ | refine Zq ?_ Zp) (by simp only; omega))
      | (rw [if_neg (by omega), if_pos (by omega)] at hst
         have e2 : B ++ [UInt8.ofNat (92 : Int).toNat] ++ [UInt8.ofNat ((byteAt s i : Nat) : Int).toNat] = wrTo s (i + 1) := by rw [hst, Int.toNat_natCast, hof, List.append_assoc]; rfl
         rw [e2]
         exact G.again ⟨i + 1, _⟩ ⟨sint (by omega), rfl, rfl, trivial⟩ Zu (by simp only; omega) (by solve | repeat first | assumption | exact Zr _ | refine Zq ?_ Zp) (by simp only; omega))
      | (rw [if_neg (by omega), if_neg (by omega)] at hst
         rw [Int.toNat_natCast, hof, ← hst]
         exact G.again ⟨i + 1, _⟩ ⟨sint (by omega), rfl, rfl, trivial⟩ Zu (by simp only; omega) (by solve | repeat first | assumption | exact Zr _ | refine Zq ?_ Zp) (by simp only; omega))
  . obtain rfl : i = s.length := by omega
    repeat' (first | (refine G.atCode ?_; first | refine G.seq ?_ | refine G.region ?_ | refine G.exit rfl ?_ | refine G.ret ?_ | (refine G.cond rfl ?_ ?_ <;> intro hc <;> (try simp only [tests, reduceCtorEq] at hc) <;> (try exact Zf))) | refine G.endOps ?_ | (refine G.atBin ?_; first | refine G.op rfl rfl ?_) | refine G.op rfl rfl ?_ | (refine G.atLen ?_; first | refine G.lenStr rfl (tyy rfl) rfl ?_) | (refine G.atConv ?_; first | refine G.convStr rfl (tyy rfl) (tyy rfl) (tyy rfl) Za rfl ?_))
    all_goals first | (exfalso; omega) | exact G.done1 rfl rfl _ (SubH.nil _) ⟨rfl, rfl⟩
end Go.Proofs.Ytahpemfnhepgoaa
