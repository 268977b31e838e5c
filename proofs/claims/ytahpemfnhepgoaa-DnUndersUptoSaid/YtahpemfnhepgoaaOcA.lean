/- Small letters, hexadecimal digits, types of attributes: what octet, castellanref01, dn and castellanref09 do on bytes. -/
import Derived.Test.YtahpemfnhepgoaaLtT
import Derived.Test.YtahpemfnhepgoaaTy
namespace Go.Proofs.Ytahpemfnhepgoaa
set_option linter.all false
set_option maxRecDepth 4000
open Go.RowKit

def lowB (b : UInt8) : UInt8 := if 65 <= b.toNat /\ b.toNat <= 90 then UInt8.ofNat (b.toNat + 32) else b
def foldM (s : List UInt8) : List UInt8 := s.map lowB
theorem foldM_len (s : List UInt8) : (foldM s).length = s.length := by simp [foldM]
theorem byteAt_eq {s : List UInt8} {i : Nat} (h : i < s.length) : byteAt s i = (s[i]'h).toNat := by unfold byteAt; simp [h]
theorem ofNat_byteAt {s : List UInt8} {i : Nat} (h : i < s.length) : UInt8.ofNat (byteAt s i) = s[i]'h := by rw [byteAt_eq h]; simp
theorem lowB_up {s : List UInt8} {i : Nat} (h : i < s.length) (hc : 65 <= byteAt s i /\ byteAt s i <= 90) : lowB (s[i]'h) = UInt8.ofNat (byteAt s i + 32) := by
  rw [byteAt_eq h] at hc ⊢; unfold lowB; rw [if_pos hc]
theorem lowB_no {s : List UInt8} {i : Nat} (h : i < s.length) (hc : ¬ (65 <= byteAt s i /\ byteAt s i <= 90)) : lowB (s[i]'h) = s[i]'h := by
  rw [byteAt_eq h] at hc; unfold lowB; rw [if_neg hc]
def foldTo (s : List UInt8) (i : Nat) : List UInt8 := foldM (s.take i) ++ s.drop i
theorem foldTo_len (s : List UInt8) (i : Nat) : (foldTo s i).length = s.length := by simp [foldTo, foldM]; omega
theorem foldTo_zero (s : List UInt8) : foldTo s 0 = s := by simp [foldTo, foldM]
theorem foldTo_end (s : List UInt8) : foldTo s s.length = foldM s := by simp [foldTo]
theorem foldTo_get {s : List UInt8} {i : Nat} (h : i < s.length) : byteAt (foldTo s i) i = byteAt s i := by
  have hl : (foldM (s.take i)).length = i := by rw [foldM_len, List.length_take]; omega
  unfold byteAt foldTo
  rw [List.getElem?_append_right (by omega), hl]
  simp
theorem foldTo_set {s : List UInt8} {i : Nat} (h : i < s.length) : (foldTo s i).set i (lowB (s[i]'h)) = foldTo s (i + 1) := by
  have hl : (foldM (s.take i)).length = i := by rw [foldM_len, List.length_take]; omega
  unfold foldTo
  rw [List.set_append_right _ _ (by omega), hl, Nat.sub_self, List.drop_eq_getElem_cons h, List.set_cons_zero, List.take_succ_eq_append_getElem h]
  simp only [foldM, List.map_append, List.map_cons, List.map_nil, List.append_assoc, List.cons_append, List.nil_append]
theorem foldTo_same {s : List UInt8} {i : Nat} (h : i < s.length) (e : lowB (s[i]'h) = s[i]'h) : foldTo s i = foldTo s (i + 1) := by
  rw [<- foldTo_set h, e]
  have hl : (foldM (s.take i)).length = i := by rw [foldM_len, List.length_take]; omega
  unfold foldTo
  rw [List.set_append_right _ _ (by omega), hl, Nat.sub_self, List.drop_eq_getElem_cons h, List.set_cons_zero]
theorem bytesR_setO (l : List UInt8) (i n : Nat) (hn : n < 256) : (bytesR l).set i [.int .u8 (n : Nat)] = bytesR (l.set i (UInt8.ofNat n)) := by
  have : (UInt8.ofNat n).toNat = n := by simp [UInt8.toNat_ofNat']; omega
  simp [bytesR, List.map_set, this]
theorem callFold : Callable Try.prog 41 := ⟨_, Try.func41, by kernel_rfl, rfl⟩
theorem callRFold : Callable Try.prog 31 := ⟨_, Try.func31, by kernel_rfl, rfl⟩
theorem callLetter : Callable Try.prog 30 := ⟨_, Try.func30, by kernel_rfl, rfl⟩
theorem callType9 : Callable Try.prog 13 := ⟨_, Try.func13, by kernel_rfl, rfl⟩
theorem callRType9 : Callable Try.prog 14 := ⟨_, Try.func14, by kernel_rfl, rfl⟩
theorem callIn9 : Callable Try.prog 32 := ⟨_, Try.func32, by kernel_rfl, rfl⟩
theorem callHalf : Callable Try.prog 55 := ⟨_, Try.func55, by kernel_rfl, rfl⟩
theorem callDigit : Callable Try.prog 56 := ⟨_, Try.func56, by kernel_rfl, rfl⟩
theorem callUnhex : Callable Try.prog 43 := ⟨_, Try.func43, by kernel_rfl, rfl⟩
theorem callRUnhex : Callable Try.prog 44 := ⟨_, Try.func44, by kernel_rfl, rfl⟩

theorem octet_Fold (s : List UInt8) (hs : s.length <= 100000000) (h : Heap) : Spec Try.prog 41 [str s] h [] (fun u _ H' => u = str (foldM s) /\ H' = []) := by
  refine Spec.enter Try.func41 rfl rfl ?_; intro w0
  repeat' (first | (refine G.atCode ?_; refine G.stopLoop ?_) | (refine G.atCode ?_; first | refine G.seq ?_ | refine G.region ?_ | refine G.block ?_ | refine G.skip ?_ | refine G.exit rfl ?_ | refine G.ret ?_ | (refine G.cond rfl ?_ ?_ <;> intro hc <;> (try simp only [tests, reduceCtorEq] at hc) <;> (try exact Zf))) | refine G.endOps ?_ | refine G.endStill ?_ | refine G.endHeld ?_ | refine G.back ?_ | refine G.endBlk ?_ | (refine G.atGd ?_; first | refine G.guardYes rfl rfl ?_ | refine G.guardNoS rfl rfl rfl ?_ | refine G.guardU rfl rfl rfl ?_ | (refine G.guardS rfl rfl rfl ?_ ?_ <;> intro hc <;> (try simp only [tests, reduceCtorEq] at hc) <;> (try exact Zf)) | refine G.guardNo rfl rfl ?_ (by rintro i ⟨⟩; rfl) | (refine G.guard rfl rfl ?_ ?_ (by rintro i ⟨⟩; rfl) <;> intro hc <;> (try simp only [tests, reduceCtorEq] at hc) <;> (try exact Zf))) | (refine G.atBin ?_; first | (refine G.atAdd ?_; first | refine G.arith rfl rfl rfl rfl rfl Zi ?_ | refine G.catStr rfl rfl rfl Zo ?_ | refine G.op rfl rfl ?_) | refine G.op rfl rfl ?_ ) | refine G.op rfl rfl ?_ | (refine G.atLen ?_; first | refine G.lenStr rfl (tyy rfl) rfl ?_ | refine G.lenSlice rfl (tyy rfl) rfl ?_ | refine G.lenRowB rfl (tyy rfl) Za rfl ?_ | refine G.lenRowS rfl (tyy rfl) Za rfl ?_ | refine G.lenRow rfl (tyy rfl) Za rfl ?_ | refine G.lenImmB rfl (tyy rfl) Zl rfl ?_ | refine G.lenImmI rfl (tyy rfl) Zl rfl ?_ | refine G.lenImmS rfl (tyy rfl) Zl rfl ?_ | refine G.lenImm rfl (tyy rfl) Zl rfl ?_) | (refine G.atLoad ?_; first | refine G.loadOwn1 rfl (tyy rfl) rfl rfl Za rfl rfl ?_ | refine G.loadOwnA rfl (tyy rfl) rfl rfl Za rfl rfl ?_ | refine G.loadImm1 rfl (tyy rfl) rfl rfl Zp rfl ?_ | refine G.loadImmA rfl (tyy rfl) rfl rfl Zp Zp rfl ?_ | refine G.loadRowS rfl (tyy rfl) Zp Za Zo rfl ?_ | (refine G.loadRowB rfl (tyy rfl) Zp Za Zo rfl ?_; intro _)) | (refine G.atSto ?_; refine G.storeOwn rfl rfl (tyy rfl) Za rfl rfl rfl rfl ?_) | (refine G.atIdx ?_; first | (refine G.idxImmI rfl rfl (tyy rfl) (tyy rfl) Zl Zp Zj rfl Zo ?_; intro _ _ _) | (refine G.idxImmS rfl rfl (tyy rfl) (tyy rfl) Zl Zj rfl Zo ?_; intro _ _) | (refine G.idxImmB rfl rfl (tyy rfl) (tyy rfl) Zl Zj rfl Zo ?_; intro _ _ _) | (refine G.idxRow' rfl rfl (tyy rfl) (tyy rfl) Za Zj rfl Zo ?_; intro _ _) | (refine G.idxImmN rfl rfl (tyy rfl) (tyy rfl) Zl Zj rfl Zo ?_; intro _ _ _ _ _)) | (refine G.atConv ?_; first | refine G.conv rfl (tyy rfl) (tyy rfl) rfl Zi ?_ | (refine G.convBytes rfl (tyy rfl) (tyy rfl) (tyy rfl) rfl Zo ?_; intro _) | refine G.convStr rfl (tyy rfl) (tyy rfl) (tyy rfl) Za rfl ?_ | refine G.convStrBlk1 rfl (tyy rfl) (tyy rfl) (tyy rfl) Za Zo rfl ?_ | refine G.convStrBlk2 rfl (tyy rfl) (tyy rfl) (tyy rfl) Za Zo Zo rfl ?_ | (refine G.convW rfl (tyy rfl) (tyy rfl) rfl ?_; intro hcw; (try simp only [inR] at hcw))) )
  rename_i v
  refine G.go ?_
  refine G.loop (σ := Nat) (fun i => [(10, .int .i64 i), (9, .int .i64 s.length), (8, v), (3, v)])
    (fun i => [.row v 5 1 (bytesR (foldTo s i))])
    (fun i _ => i <= s.length) (fun i => s.length - i) 0 ⟨rfl, rfl, rfl, rfl, trivial⟩ (by rw [foldTo_zero]; exact Zu) (Nat.zero_le _) ?_
  rintro i h1 hle1 hi
  have hfl := foldTo_len s i
  by_cases hlt : i < s.length
  . have hat := foldTo_get hlt
    have hset := foldTo_set hlt
    have hsame := foldTo_same hlt
    have hup := fun hc => lowB_up hlt hc
    have hno := fun hc => lowB_no hlt hc
    have hb := byteAt_lt s i
    generalize foldTo s i = B at *
    repeat' (first | (refine G.atLoad ?_; refine G.loadRowB rfl (tyy rfl) Zp Za (by omega) rfl ?_; intro _; rw [hat]) | (refine G.atIdx ?_; refine G.idxRow' rfl rfl (tyy rfl) (tyy rfl) Za Zj rfl (by rw [bytesR_length]; omega) ?_; intro _ _) | (refine G.atSto ?_; refine G.storeRow rfl rfl (tyy rfl) Zp Za rfl rfl rfl (by rw [bytesR_length]; omega) ?_) | (refine G.atCode ?_; first | refine G.seq ?_ | refine G.region ?_ | refine G.block ?_ | refine G.skip ?_ | refine G.exit rfl ?_ | refine G.ret ?_ | (refine G.cond rfl ?_ ?_ <;> intro hc <;> (try simp only [tests, reduceCtorEq] at hc) <;> (try exact Zf))) | refine G.endOps ?_ | refine G.endStill ?_ | refine G.endHeld ?_ | refine G.back ?_ | refine G.endBlk ?_ | (refine G.atGd ?_; first | refine G.guardYes rfl rfl ?_ | refine G.guardNoS rfl rfl rfl ?_ | refine G.guardU rfl rfl rfl ?_ | (refine G.guardS rfl rfl rfl ?_ ?_ <;> intro hc <;> (try simp only [tests, reduceCtorEq] at hc) <;> (try exact Zf)) | refine G.guardNo rfl rfl ?_ (by rintro i ⟨⟩; rfl) | (refine G.guard rfl rfl ?_ ?_ (by rintro i ⟨⟩; rfl) <;> intro hc <;> (try simp only [tests, reduceCtorEq] at hc) <;> (try exact Zf))) | (refine G.atBin ?_; first | (refine G.atAdd ?_; first | refine G.arith rfl rfl rfl rfl rfl Zi ?_ | refine G.catStr rfl rfl rfl Zo ?_ | refine G.op rfl rfl ?_) | refine G.op rfl rfl ?_ ) | refine G.op rfl rfl ?_ | (refine G.atLen ?_; first | refine G.lenStr rfl (tyy rfl) rfl ?_ | refine G.lenSlice rfl (tyy rfl) rfl ?_ | refine G.lenRowB rfl (tyy rfl) Za rfl ?_ | refine G.lenRowS rfl (tyy rfl) Za rfl ?_ | refine G.lenRow rfl (tyy rfl) Za rfl ?_ | refine G.lenImmB rfl (tyy rfl) Zl rfl ?_ | refine G.lenImmI rfl (tyy rfl) Zl rfl ?_ | refine G.lenImmS rfl (tyy rfl) Zl rfl ?_ | refine G.lenImm rfl (tyy rfl) Zl rfl ?_) | (refine G.atLoad ?_; first | refine G.loadOwn1 rfl (tyy rfl) rfl rfl Za rfl rfl ?_ | refine G.loadOwnA rfl (tyy rfl) rfl rfl Za rfl rfl ?_ | refine G.loadImm1 rfl (tyy rfl) rfl rfl Zp rfl ?_ | refine G.loadImmA rfl (tyy rfl) rfl rfl Zp Zp rfl ?_ | refine G.loadRowS rfl (tyy rfl) Zp Za Zo rfl ?_ | (refine G.loadRowB rfl (tyy rfl) Zp Za Zo rfl ?_; intro _)) | (refine G.atSto ?_; refine G.storeOwn rfl rfl (tyy rfl) Za rfl rfl rfl rfl ?_) | (refine G.atIdx ?_; first | (refine G.idxImmI rfl rfl (tyy rfl) (tyy rfl) Zl Zp Zj rfl Zo ?_; intro _ _ _) | (refine G.idxImmS rfl rfl (tyy rfl) (tyy rfl) Zl Zj rfl Zo ?_; intro _ _) | (refine G.idxImmB rfl rfl (tyy rfl) (tyy rfl) Zl Zj rfl Zo ?_; intro _ _ _) | (refine G.idxRow' rfl rfl (tyy rfl) (tyy rfl) Za Zj rfl Zo ?_; intro _ _) | (refine G.idxImmN rfl rfl (tyy rfl) (tyy rfl) Zl Zj rfl Zo ?_; intro _ _ _ _ _)) | (refine G.atConv ?_; first | refine G.conv rfl (tyy rfl) (tyy rfl) rfl Zi ?_ | (refine G.convBytes rfl (tyy rfl) (tyy rfl) (tyy rfl) rfl Zo ?_; intro _) | refine G.convStr rfl (tyy rfl) (tyy rfl) (tyy rfl) Za rfl ?_ | refine G.convStrBlk1 rfl (tyy rfl) (tyy rfl) (tyy rfl) Za Zo rfl ?_ | refine G.convStrBlk2 rfl (tyy rfl) (tyy rfl) (tyy rfl) Za Zo Zo rfl ?_ | (refine G.convW rfl (tyy rfl) (tyy rfl) rfl ?_; intro hcw; (try simp only [inR] at hcw))) )
    . rw [show ((byteAt s i : Nat) : Int) + 32 = ((byteAt s i + 32 : Nat) : Int) by omega, bytesR_setO _ _ _ (by omega), ← hup (by omega), hset]
      exact G.again (i + 1) ⟨sint (by simp), rfl, rfl, rfl, trivial⟩ Zu (by omega) (Heap.le_refl _) (by omega)
    all_goals (
      rw [hsame (hno (by omega))]
      exact G.again (i + 1) ⟨sint (by simp), rfl, rfl, rfl, trivial⟩ Zu (by omega) (Heap.le_refl _) (by omega))
  . obtain rfl : i = s.length := by omega
    rw [foldTo_end]
    repeat' (first | (refine G.atCode ?_; first | refine G.seq ?_ | refine G.region ?_ | refine G.block ?_ | refine G.skip ?_ | refine G.exit rfl ?_ | refine G.ret ?_ | (refine G.cond rfl ?_ ?_ <;> intro hc <;> (try simp only [tests, reduceCtorEq] at hc) <;> (try exact Zf))) | refine G.endOps ?_ | refine G.endStill ?_ | refine G.endHeld ?_ | refine G.back ?_ | refine G.endBlk ?_ | (refine G.atGd ?_; first | refine G.guardYes rfl rfl ?_ | refine G.guardNoS rfl rfl rfl ?_ | refine G.guardU rfl rfl rfl ?_ | (refine G.guardS rfl rfl rfl ?_ ?_ <;> intro hc <;> (try simp only [tests, reduceCtorEq] at hc) <;> (try exact Zf)) | refine G.guardNo rfl rfl ?_ (by rintro i ⟨⟩; rfl) | (refine G.guard rfl rfl ?_ ?_ (by rintro i ⟨⟩; rfl) <;> intro hc <;> (try simp only [tests, reduceCtorEq] at hc) <;> (try exact Zf))) | (refine G.atBin ?_; first | (refine G.atAdd ?_; first | refine G.arith rfl rfl rfl rfl rfl Zi ?_ | refine G.catStr rfl rfl rfl Zo ?_ | refine G.op rfl rfl ?_) | refine G.op rfl rfl ?_ ) | refine G.op rfl rfl ?_ | (refine G.atLen ?_; first | refine G.lenStr rfl (tyy rfl) rfl ?_ | refine G.lenSlice rfl (tyy rfl) rfl ?_ | refine G.lenRowB rfl (tyy rfl) Za rfl ?_ | refine G.lenRowS rfl (tyy rfl) Za rfl ?_ | refine G.lenRow rfl (tyy rfl) Za rfl ?_ | refine G.lenImmB rfl (tyy rfl) Zl rfl ?_ | refine G.lenImmI rfl (tyy rfl) Zl rfl ?_ | refine G.lenImmS rfl (tyy rfl) Zl rfl ?_ | refine G.lenImm rfl (tyy rfl) Zl rfl ?_) | (refine G.atLoad ?_; first | refine G.loadOwn1 rfl (tyy rfl) rfl rfl Za rfl rfl ?_ | refine G.loadOwnA rfl (tyy rfl) rfl rfl Za rfl rfl ?_ | refine G.loadImm1 rfl (tyy rfl) rfl rfl Zp rfl ?_ | refine G.loadImmA rfl (tyy rfl) rfl rfl Zp Zp rfl ?_ | refine G.loadRowS rfl (tyy rfl) Zp Za Zo rfl ?_ | (refine G.loadRowB rfl (tyy rfl) Zp Za Zo rfl ?_; intro _)) | (refine G.atSto ?_; refine G.storeOwn rfl rfl (tyy rfl) Za rfl rfl rfl rfl ?_) | (refine G.atIdx ?_; first | (refine G.idxImmI rfl rfl (tyy rfl) (tyy rfl) Zl Zp Zj rfl Zo ?_; intro _ _ _) | (refine G.idxImmS rfl rfl (tyy rfl) (tyy rfl) Zl Zj rfl Zo ?_; intro _ _) | (refine G.idxImmB rfl rfl (tyy rfl) (tyy rfl) Zl Zj rfl Zo ?_; intro _ _ _) | (refine G.idxRow' rfl rfl (tyy rfl) (tyy rfl) Za Zj rfl Zo ?_; intro _ _) | (refine G.idxImmN rfl rfl (tyy rfl) (tyy rfl) Zl Zj rfl Zo ?_; intro _ _ _ _ _)) | (refine G.atConv ?_; first | refine G.conv rfl (tyy rfl) (tyy rfl) rfl Zi ?_ | (refine G.convBytes rfl (tyy rfl) (tyy rfl) (tyy rfl) rfl Zo ?_; intro _) | refine G.convStr rfl (tyy rfl) (tyy rfl) (tyy rfl) Za rfl ?_ | refine G.convStrBlk1 rfl (tyy rfl) (tyy rfl) (tyy rfl) Za Zo rfl ?_ | refine G.convStrBlk2 rfl (tyy rfl) (tyy rfl) (tyy rfl) Za Zo Zo rfl ?_ | (refine G.convW rfl (tyy rfl) (tyy rfl) rfl ?_; intro hcw; (try simp only [inR] at hcw))) )
    all_goals exact G.done1 rfl rfl _ (SubH.nil _) ⟨rfl, rfl⟩
theorem ref01_Fold (s : List UInt8) (hs : s.length <= 100000000) (h : Heap) : Spec Try.prog 31 [str s] h [] (fun u _ H' => u = str (foldM s) /\ H' = []) := by
  refine Spec.enter Try.func31 rfl rfl ?_; intro w0
  repeat' (first | (refine G.atCode ?_; refine G.stopLoop ?_) | (refine G.atCode ?_; first | refine G.seq ?_ | refine G.region ?_ | refine G.block ?_) | refine G.endOps ?_ | refine G.op rfl rfl ?_)
  refine G.nilRowB 5 ?_
  refine G.go ?_
  refine G.loop (σ := Nat × Value) (fun x => [(4, .int .i64 x.1), (3, x.2), (0, str s)])
    (fun x => [.row x.2 5 1 (bytesR (foldM (s.take x.1)))])
    (fun x _ => x.1 <= s.length) (fun x => s.length - x.1) ⟨0, .slice none 0 0⟩ ⟨rfl, rfl, rfl, trivial⟩ Zu (Nat.zero_le _) ?_
  rintro ⟨i, v⟩ h1 hle1 hi
  simp only at hi
  refine G.norm (by (try dsimp only) <;> exact rfl) (by (try dsimp only) <;> exact rfl) ?_
  have hfl : (foldM (s.take i)).length = i := by rw [foldM_len, List.length_take]; omega
  by_cases hlt : i < s.length
  . have hnext : foldM (s.take (i + 1)) = foldM (s.take i) ++ [lowB (s[i]'hlt)] := by rw [List.take_succ_eq_append_getElem hlt]; simp only [foldM, List.map_append, List.map_cons, List.map_nil]
    have hup := fun hc => lowB_up hlt hc
    have hno := fun hc => lowB_no hlt hc
    have hof := ofNat_byteAt hlt
    generalize foldM (s.take i) = B at *
    repeat' (first | (refine G.atCode ?_; first | refine G.seq ?_ | refine G.region ?_ | refine G.block ?_ | refine G.skip ?_ | (refine G.cond rfl ?_ ?_ <;> intro hc <;> (try simp only [tests, reduceCtorEq] at hc) <;> (try exact Zf))) | refine G.endOps ?_ | refine G.endBlk ?_ | (refine G.atGd ?_; first | refine G.guardYes rfl rfl ?_ | refine G.guardNoS rfl rfl rfl ?_ | (refine G.guardS rfl rfl rfl ?_ ?_ <;> intro hc <;> (try simp only [tests, reduceCtorEq] at hc) <;> (try exact Zf))) | (refine G.atBin ?_; first | (refine G.atAdd ?_; first | refine G.arith rfl rfl rfl rfl rfl Zi ?_) | (refine G.atSub ?_; first | refine G.arith rfl rfl rfl rfl rfl Zi ?_) | refine G.op rfl rfl ?_) | refine G.op rfl rfl ?_ | (refine G.atLen ?_; first | refine G.lenStr rfl (tyy rfl) rfl ?_) | (refine G.atBsl ?_; refine G.buildSlice (tyy rfl) (tyy rfl) rfl rfl rfl rfl ?_; intro _) | (refine G.atApp ?_; first | (refine G.append1B rfl rfl (tyy rfl) (tyy rfl) rfl rfl Za Za rfl Zo Zo ?_; intro _)) | (refine G.atInd ?_; refine G.idxStr rfl rfl (tyy rfl) rfl Zj Zo ?_; intro _))
    . have e : UInt8.ofNat ((byteAt s i : Int) - 65 + 97).toNat = lowB (s[i]'hlt) := by rw [hup (by omega), show ((byteAt s i : Int) - 65 + 97).toNat = byteAt s i + 32 by omega]
      rw [e, ← hnext]
      exact G.again ⟨i + 1, _⟩ ⟨sint (by simp), rfl, rfl, trivial⟩ Zu (by simp only; omega) (Heap.le_refl _) (by simp only; omega)
    all_goals (
      have e : UInt8.ofNat ((byteAt s i : Nat) : Int).toNat = lowB (s[i]'hlt) := by rw [hno (by omega), Int.toNat_natCast, hof]
      rw [e, ← hnext]
      exact G.again ⟨i + 1, _⟩ ⟨sint (by simp), rfl, rfl, trivial⟩ Zu (by simp only; omega) (Heap.le_refl _) (by simp only; omega))
  . obtain rfl : i = s.length := by omega
    rw [List.take_length]
    repeat' (first | (refine G.atCode ?_; first | refine G.seq ?_ | refine G.region ?_ | refine G.exit rfl ?_ | refine G.ret ?_ | (refine G.cond rfl ?_ ?_ <;> intro hc <;> (try simp only [tests, reduceCtorEq] at hc) <;> (try exact Zf))) | refine G.endOps ?_ | (refine G.atBin ?_; first | refine G.op rfl rfl ?_) | refine G.op rfl rfl ?_ | (refine G.atLen ?_; first | refine G.lenStr rfl (tyy rfl) rfl ?_) | (refine G.atConv ?_; first | refine G.convStr rfl (tyy rfl) (tyy rfl) (tyy rfl) Za rfl ?_))
    all_goals exact G.done1 rfl rfl _ (SubH.nil _) ⟨rfl, rfl⟩
end Go.Proofs.Ytahpemfnhepgoaa
