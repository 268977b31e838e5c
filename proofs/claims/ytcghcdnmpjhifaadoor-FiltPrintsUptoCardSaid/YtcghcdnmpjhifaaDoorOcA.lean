/- Small letters, hexadecimal digits, types of attributes: what octet, castellanref01, dn and castellanref09 do on bytes. -/
import Derived.Test.YtcghcdnmpjhifaaDoorLtU
import Derived.Test.YtcghcdnmpjhifaaDoorTy
namespace Go.Proofs.YtcghcdnmpjhifaaDoor
set_option linter.all false
set_option maxRecDepth 4000
open Go.RowKit

def lowB (b : UInt8) : UInt8 := if 65 <= b.toNat /\ b.toNat <= 90 then UInt8.ofNat (b.toNat + 32) else b
def foldM (s : List UInt8) : List UInt8 := s.map lowB
theorem foldM_len (s : List UInt8) : (foldM s).length = s.length := by simp [foldM]
theorem byteAt_eq {s : List UInt8} {i : Nat} (h : i < s.length) : byteAt s i = (s[i]'h).toNat := by unfold byteAt; simp [h]
theorem ofNat_byteAt {s : List UInt8} {i : Nat} (h : i < s.length) : UInt8.ofNat (byteAt s i) = s[i]'h := by rw [byteAt_eq h]; simp
theorem lowB_up {s : List UInt8} {i : Nat} (h : i < s.length) (hc : 65 <= byteAt s i /\ byteAt s i <= 90) : lowB (s[i]'h) = UInt8.ofNat (byteAt s i + 32) := by
  rw [byteAt_eq h] at hc ⊢; unfold lowB; rw [if_pos hc]
theorem lowB_no {s : List UInt8} {i : Nat} (h : i < s.length) (hc : ¬ (65 <= byteAt s i /\ byteAt s i <= 90)) : lowB (s[i]'h) = s[i]'h := by
  rw [byteAt_eq h] at hc; unfold lowB; rw [if_neg hc]
theorem callRFold : Callable Tryd.prog 49 := ⟨_, Tryd.func49, by kernel_rfl, rfl⟩
theorem callLetter : Callable Tryd.prog 45 := ⟨_, Tryd.func45, by kernel_rfl, rfl⟩
theorem callType9 : Callable Tryd.prog 33 := ⟨_, Tryd.func33, by kernel_rfl, rfl⟩
theorem callRType9 : Callable Tryd.prog 37 := ⟨_, Tryd.func37, by kernel_rfl, rfl⟩
theorem callIn9 : Callable Tryd.prog 50 := ⟨_, Tryd.func50, by kernel_rfl, rfl⟩
theorem callHalf : Callable Tryd.prog 68 := ⟨_, Tryd.func68, by kernel_rfl, rfl⟩
theorem callDigit : Callable Tryd.prog 59 := ⟨_, Tryd.func59, by kernel_rfl, rfl⟩
theorem callUnhex : Callable Tryd.prog 58 := ⟨_, Tryd.func58, by kernel_rfl, rfl⟩
theorem callRUnhex : Callable Tryd.prog 44 := ⟨_, Tryd.func44, by kernel_rfl, rfl⟩

theorem ref01_Fold (s : List UInt8) (hs : s.length <= 100000000) (h : Heap) : Spec Tryd.prog 49 [str s] h [] (fun u _ H' => u = str (foldM s) /\ H' = []) := by
  refine Spec.enter Tryd.func49 rfl rfl ?_; intro w0
  repeat' (first | (refine G.atCode ?_; refine G.stopLoop ?_) | (refine G.atCode ?_; first | refine G.seq ?_ | refine G.region ?_ | refine G.block ?_) | refine G.endOps ?_ | refine G.op rfl rfl ?_)
  refine G.nilRowB 5 ?_
  refine G.go ?_
  refine G.loop (σ := Nat × Value) (fun x => [(4, .int .i64 x.1), (3, x.2), (0, str s)])
    (fun x => [.row x.2 5 1 (bytesR (foldM (s.take x.1)))])
    (fun x _ => x.1 <= s.length) (fun x => s.length - x.1) ⟨0, .slice none 0 0⟩ ⟨rfl, rfl, rfl, trivial⟩ Zu (Nat.zero_le _) ?_
  rintro ⟨i, v⟩ h1 hle1 hi
  simp only at hi
  refine G.norm (by (try dsimp only) <;> exact rfl) (by (try dsimp only) <;> exact rfl) ?_
  have hfl : (foldM (s.take i)).length = i := by rw [foldM_len, List.length_take]; omega
  by_cases hlt : i < s.length
  . have hnext : foldM (s.take (i + 1)) = foldM (s.take i) ++ [lowB (s[i]'hlt)] := by rw [List.take_succ_eq_append_getElem hlt]; simp only [foldM, List.map_append, List.map_cons, List.map_nil]
    have hup := fun hc => lowB_up hlt hc
    have hno := fun hc => lowB_no hlt hc
    have hof := ofNat_byteAt hlt
    generalize foldM (s.take i) = B at *
    repeat' (first | (refine G.atCode ?_; first | refine G.seq ?_ | refine G.region ?_ | refine G.block ?_ | refine G.skip ?_ | (refine G.cond rfl ?_ ?_ <;> intro hc <;> (try simp only [tests, reduceCtorEq] at hc) <;> (try exact Zf))) | refine G.endOps ?_ | refine G.endBlk ?_ | (refine G.atGd ?_; first | refine G.guardYes rfl rfl ?_ | refine G.guardNoS rfl rfl rfl ?_ | (refine G.guardS rfl rfl rfl ?_ ?_ <;> intro hc <;> (try simp only [tests, reduceCtorEq] at hc) <;> (try exact Zf))) | (refine G.atBin ?_; first | (refine G.atAdd ?_; first | refine G.arith rfl rfl rfl rfl rfl Zi ?_) | (refine G.atSub ?_; first | refine G.arith rfl rfl rfl rfl rfl Zi ?_) | refine G.op rfl rfl ?_) | refine G.op rfl rfl ?_ | (refine G.atLen ?_; first | refine G.lenStr rfl (tyy rfl) rfl ?_) | (refine G.atBsl ?_; refine G.buildSlice (tyy rfl) (tyy rfl) rfl rfl rfl rfl ?_; intro _) | (refine G.atApp ?_; first | (refine G.append1B rfl rfl (tyy rfl) (tyy rfl) rfl rfl Za Za rfl Zo Zo ?_; intro _)) | (refine G.atInd ?_; refine G.idxStr rfl rfl (tyy rfl) rfl Zj Zo ?_; intro _))
    . have e : UInt8.ofNat ((byteAt s i : Int) - 65 + 97).toNat = lowB (s[i]'hlt) := by rw [hup (by omega), show ((byteAt s i : Int) - 65 + 97).toNat = byteAt s i + 32 by omega]
      rw [e, ← hnext]
      exact G.again ⟨i + 1, _⟩ ⟨sint (by simp), rfl, rfl, trivial⟩ Zu (by simp only; omega) (Heap.le_refl _) (by simp only; omega)
    all_goals (
      have e : UInt8.ofNat ((byteAt s i : Nat) : Int).toNat = lowB (s[i]'hlt) := by rw [hno (by omega), Int.toNat_natCast, hof]
      rw [e, ← hnext]
      exact G.again ⟨i + 1, _⟩ ⟨sint (by simp), rfl, rfl, trivial⟩ Zu (by simp only; omega) (Heap.le_refl _) (by simp only; omega))
  . obtain rfl : i = s.length := by omega
    rw [List.take_length]
    repeat' (first | (refine G.atCode ?_; first | refine G.seq ?_ | refine G.region ?_ | refine G.exit rfl ?_ | refine G.ret ?_ | (refine G.cond rfl ?_ ?_ <;> intro hc <;> (try simp only [tests, reduceCtorEq] at hc) <;> (try exact Zf))) | refine G.endOps ?_ | (refine G.atBin ?_; first | refine G.op rfl rfl ?_) | refine G.op rfl rfl ?_ | (refine G.atLen ?_; first | refine G.lenStr rfl (tyy rfl) rfl ?_) | (refine G.atConv ?_; first | refine G.convStr rfl (tyy rfl) (tyy rfl) (tyy rfl) Za rfl ?_))
    all_goals exact G.done1 rfl rfl _ (SubH.nil _) ⟨rfl, rfl⟩
end Go.Proofs.YtcghcdnmpjhifaaDoor
