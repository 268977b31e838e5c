/- Filters: two digits a byte; a value as it is written. -/
import Derived.Test.YtcghcdnmpjhifaaDoorFlN
namespace Go.Proofs.YtcghcdnmpjhifaaDoor
set_option linter.all false
set_option maxRecDepth 4000
open Go.RowKit

theorem callHex : Callable Tryd.prog 47 := ⟨_, Tryd.func47, by kernel_rfl, rfl⟩
theorem callRHex : Callable Tryd.prog 48 := ⟨_, Tryd.func48, by kernel_rfl, rfl⟩
theorem callFWritten : Callable Tryd.prog 35 := ⟨_, Tryd.func35, by kernel_rfl, rfl⟩
theorem callRFWritten : Callable Tryd.prog 36 := ⟨_, Tryd.func36, by kernel_rfl, rfl⟩
def digS : List UInt8 := [48, 49, 50, 51, 52, 53, 54, 55, 56, 57, 97, 98, 99, 100, 101, 102]
theorem digS_at : ∀ n : Fin 16, byteAt digS n.val = digN n.val := by decide
def hexB (c : UInt8) : List UInt8 := [UInt8.ofNat (digN (c.toNat / 16)), UInt8.ofNat (digN (c.toNat % 16))]
theorem digN_lt (n : Nat) (h : n < 16) : digN n < 256 := by unfold digN; split <;> omega
theorem hexB_rows (c : UInt8) : bytesR (hexB c) = [[.int .u8 (digN (c.toNat / 16) : Nat)], [.int .u8 (digN (c.toNat % 16) : Nat)]] := by
  have h := c.toNat_lt
  have h1 := digN_lt (c.toNat / 16) (by omega)
  have h2 := digN_lt (c.toNat % 16) (by omega)
  simp only [bytesR, hexB, List.map_cons, List.map_nil, UInt8.toNat_ofNat']
  rw [Nat.mod_eq_of_lt h1, Nat.mod_eq_of_lt h2]
set_option maxRecDepth 8000 in
set_option maxHeartbeats 1000000 in
theorem octet_Hex (c : UInt8) (h : Heap) : Spec Tryd.prog 47 [str [c]] h [] (fun u _ H' => u = str (hexB c) /\ H' = []) := by
  have hc := c.toNat_lt
  have hbc : byteAt [c] 0 = c.toNat := rfl
  have hl : ([c] : List UInt8).length = 1 := rfl
  refine Spec.enter Tryd.func47 rfl rfl ?_; intro w0
  repeat' (first | (refine G.atMsl ?_; refine G.makeSlice0 rfl rfl (tyy rfl) (tyy rfl) Zo rfl ?_; intro _) | (refine G.atCode ?_; refine G.stopLoop ?_) | (refine G.atCode ?_; first | refine G.seq ?_ | refine G.region ?_ | refine G.block ?_) | refine G.endOps ?_ | (refine G.atBin ?_; first | (refine G.atMul ?_; first | refine G.arith rfl rfl rfl rfl rfl Zi ?_)) | refine G.op rfl rfl ?_ | (refine G.atLen ?_; first | refine G.lenStr rfl (tyy rfl) rfl ?_ | refine G.lenRowB rfl (tyy rfl) Za rfl ?_) | (refine G.atConv ?_; first | (refine G.convBytes rfl (tyy rfl) (tyy rfl) (tyy rfl) rfl Zo ?_; intro _)))
  rename_i v0 v1
  refine G.go ?_
  refine G.loop (σ := Bool × Value) (fun x => [(13, .int .i64 (if x.1 then 1 else 0 : Nat)), (12, .int .i64 1), (11, v1), (3, x.2)]) (fun x => [.row v1 5 1 (bytesR [c]), .row x.2 5 1 (bytesR (if x.1 then hexB c else []))]) (fun x _ => True) (fun x => if x.1 then 0 else 1) ⟨false, v0⟩ ⟨rfl, rfl, rfl, rfl, trivial⟩ Zu trivial ?_
  rintro ⟨d, v⟩ h1 hle1 _
  cases d with
  | true =>
    simp only [if_true]
    refine G.norm (by (try dsimp only) <;> exact rfl) (by (try dsimp only) <;> exact rfl) ?_
    repeat' (first | (refine G.atCode ?_; first | refine G.seq ?_ | refine G.region ?_ | refine G.exit rfl ?_ | refine G.ret ?_ | (refine G.cond rfl ?_ ?_ <;> intro hc <;> (try simp only [tests, reduceCtorEq] at hc) <;> (try exact Zf))) | refine G.endOps ?_ | (refine G.atBin ?_; first | refine G.op rfl rfl ?_) | refine G.op rfl rfl ?_ | (refine G.atConv ?_; first | refine G.convStr rfl (tyy rfl) (tyy rfl) (tyy rfl) Za rfl ?_))
    all_goals first | (exfalso; omega) | exact G.done1 rfl rfl _ (SubH.nil _) ⟨rfl, rfl⟩
  | false =>
    simp only [Bool.false_eq_true, if_false]
    refine G.norm (by (try dsimp only) <;> exact rfl) (by (try dsimp only) <;> exact rfl) ?_
    have hand : byteAt [c] 0 &&& 15 <= 15 := Nat.and_le_right
    have hx1 : byteAt digS (((byteAt [c] 0 : Nat) : Int) / 2 ^ 4).toNat = digN (c.toNat / 16) := by
      have e9 : (((byteAt [c] 0 : Nat) : Int) / 2 ^ 4).toNat = c.toNat / 16 := by rw [hbc]; omega
      rw [e9]
      exact digS_at ⟨c.toNat / 16, by omega⟩
    have hx2 : byteAt digS (byteAt [c] 0 &&& 15) = digN (c.toNat % 16) := by
      rw [hbc, show c.toNat &&& 15 = c.toNat % 16 from Nat.and_two_pow_sub_one_eq_mod c.toNat 4]
      exact digS_at ⟨c.toNat % 16, by omega⟩
    repeat' (first | (refine G.atIdx ?_; refine G.idxRow' rfl rfl (tyy rfl) (tyy rfl) Za Zj rfl (by rw [bytesR_length]; omega) ?_; intro _ _) | (refine G.atApp ?_; refine G.appendBlk (news := [[.int .u8 (byteAt digS (((byteAt [c] 0 : Nat) : Int) / 2 ^ 4).toNat : Nat)], [.int .u8 (byteAt digS (byteAt [c] 0 &&& 15) : Nat)]]) rfl rfl (tyy rfl) (tyy rfl) rfl rfl Za Za rfl rfl (fun q hq => by simp only [List.mem_cons, List.mem_nil_iff, or_false] at hq; rcases hq with rfl | rfl <;> rfl) rfl rfl (by simp only [List.length_cons, List.length_nil, bytesR_length]; omega) ?_; intro _) | (refine G.atCode ?_; first | refine G.seq ?_ | refine G.region ?_ | refine G.block ?_ | refine G.skip ?_ | refine G.anyIn mixedOk ?_ | (refine G.cond rfl ?_ ?_ <;> intro hc <;> (try simp only [tests, reduceCtorEq] at hc) <;> (try exact Zf))) | refine G.endOps ?_ | refine G.endHeld ?_ | refine G.back ?_ | refine G.endBlk ?_ | (refine G.atAny ?_; first | refine G.anyAutoX slB rfl rfl Zw Zg Zd ?_ | refine G.anyOne rfl Zw Zg Zu ?_ | refine G.anyEndX Zw ?_) | (refine G.atBin ?_; first | (refine G.atAdd ?_; first | refine G.arith rfl rfl rfl rfl rfl Zi ?_) | (refine G.atShr ?_; refine G.shr rfl rfl Zj rfl (by simp only [IntKind.bits]; omega) rfl ?_) | refine G.op rfl rfl ?_ | refine G.bit rfl rfl rfl Zj Zj rfl rfl (by simp only [lim]; omega) (by simp only [lim]; omega) ?_) | refine G.op rfl rfl ?_ | (refine G.atLoad ?_; first | (refine G.loadRowB rfl (tyy rfl) Zp Za Zo rfl ?_; intro _)) | (refine G.atBsl ?_; refine G.buildSlice (tyy rfl) (tyy rfl) rfl rfl rfl rfl ?_; intro _) | (refine G.atInd ?_; refine G.idxStr rfl rfl (tyy rfl) rfl Zj Zo ?_; intro _))
    rw [hx1, hx2, show bytesR [] ++ [[Value.int .u8 (digN (c.toNat / 16) : Nat)], [.int .u8 (digN (c.toNat % 16) : Nat)]] = bytesR (hexB c) from (hexB_rows c).symm]
    exact G.again ⟨true, _⟩ ⟨rfl, rfl, rfl, rfl, trivial⟩ Zu trivial (by solve | repeat first | assumption | exact Zr _ | refine Zq ?_ Zp) (by simp)
set_option maxRecDepth 8000 in
set_option maxHeartbeats 1000000 in
theorem ref01_Hex (c : UInt8) (h : Heap) : Spec Tryd.prog 48 [str [c]] h [] (fun u _ H' => u = str (hexB c) /\ H' = []) := by
  have hc := c.toNat_lt
  have hbc : byteAt [c] 0 = c.toNat := rfl
  have hl : ([c] : List UInt8).length = 1 := rfl
  have d1 := ref01_digit (c.toNat / 16) (by omega)
  have d2 := ref01_digit (c.toNat % 16) (by omega)
  have l1 := digN_lt (c.toNat / 16) (by omega)
  have l2 := digN_lt (c.toNat % 16) (by omega)
  refine Spec.enter Tryd.func48 rfl rfl ?_; intro w0
  repeat' (first | (refine G.atCode ?_; refine G.stopLoop ?_) | (refine G.atCode ?_; first | refine G.seq ?_ | refine G.region ?_ | refine G.block ?_) | refine G.endOps ?_ | refine G.op rfl rfl ?_)
  refine G.nilRowB 5 ?_
  refine G.go ?_
  refine G.loop (σ := Bool × Value) (fun x => [(4, .int .i64 (if x.1 then 1 else 0 : Nat)), (3, x.2), (0, str [c])]) (fun x => [.row x.2 5 1 (bytesR (if x.1 then hexB c else []))]) (fun x _ => True) (fun x => if x.1 then 0 else 1) ⟨false, .slice none 0 0⟩ ⟨rfl, rfl, rfl, trivial⟩ Zu trivial ?_
  rintro ⟨d, v⟩ h1 hle1 _
  cases d with
  | true =>
    simp only [if_true]
    refine G.norm (by (try dsimp only) <;> exact rfl) (by (try dsimp only) <;> exact rfl) ?_
    repeat' (first | (refine G.atCode ?_; first | refine G.seq ?_ | refine G.region ?_ | refine G.exit rfl ?_ | refine G.ret ?_ | (refine G.cond rfl ?_ ?_ <;> intro hc <;> (try simp only [tests, reduceCtorEq] at hc) <;> (try exact Zf))) | refine G.endOps ?_ | (refine G.atBin ?_; first | refine G.op rfl rfl ?_) | refine G.op rfl rfl ?_ | (refine G.atLen ?_; first | refine G.lenStr rfl (tyy rfl) rfl ?_) | (refine G.atConv ?_; first | refine G.convStr rfl (tyy rfl) (tyy rfl) (tyy rfl) Za rfl ?_))
    all_goals first | (exfalso; omega) | exact G.done1 rfl rfl _ (SubH.nil _) ⟨rfl, rfl⟩
  | false =>
    simp only [Bool.false_eq_true, if_false]
    refine G.norm (by (try dsimp only) <;> exact rfl) (by (try dsimp only) <;> exact rfl) ?_
    have e1 : (((byteAt [c] 0 : Nat) : Int) / 16) = ((c.toNat / 16 : Nat) : Int) := by rw [hbc]; omega
    have e2 : (((byteAt [c] 0 : Nat) : Int) % 16) = ((c.toNat % 16 : Nat) : Int) := by rw [hbc]; omega
    repeat' (first | (show G _ (.ops .seq _ (⟨some _, .call { callee := .value (.func 59), args := _, argTypes := _ }, _, _, _, none⟩ :: _) :: _) _ _ _; (first | rw [e1] | rw [e2]); (first | refine G.call callDigit rfl rfl (d1 _) Ze ?_ | refine G.call callDigit rfl rfl (d2 _) Ze ?_); rintro _ h2 H2 ⟨rfl, rfl⟩ hle2) | (refine G.atCode ?_; first | refine G.seq ?_ | refine G.region ?_ | refine G.block ?_ | refine G.skip ?_ | (refine G.cond rfl ?_ ?_ <;> intro hc <;> (try simp only [tests, reduceCtorEq] at hc) <;> (try exact Zf))) | refine G.endOps ?_ | refine G.endBlk ?_ | (refine G.atBin ?_; first | (refine G.atAdd ?_; first | refine G.arith rfl rfl rfl rfl rfl Zi ?_) | (refine G.atRem ?_; first | (refine G.rem rfl rfl rfl rfl Zo ?_; intro _ _ _)) | (refine G.atQuo ?_; refine G.quo rfl rfl rfl rfl Zo Zi ?_) | refine G.op rfl rfl ?_) | refine G.op rfl rfl ?_ | (refine G.atLen ?_; first | refine G.lenStr rfl (tyy rfl) rfl ?_) | (refine G.atBsl ?_; refine G.buildSlice (tyy rfl) (tyy rfl) rfl rfl rfl rfl ?_; intro _) | (refine G.atApp ?_; first | (refine G.append1B rfl rfl (tyy rfl) (tyy rfl) rfl rfl Za Za rfl Zo Zo ?_; intro _)) | (refine G.atInd ?_; refine G.idxStr rfl rfl (tyy rfl) rfl Zj Zo ?_; intro _))
    all_goals first | (exfalso; omega) | skip
    rw [Int.toNat_natCast, Int.toNat_natCast]
    exact G.again ⟨true, _⟩ ⟨rfl, rfl, rfl, trivial⟩ Zu trivial (by solve | repeat first | assumption | exact Zr _ | refine Zq ?_ Zp) (by simp)
def esF : List UInt8 := [40, 41, 42, 92]
theorem esc_pos : ∀ n : Fin 256, isEsc (UInt8.ofNat n.val) ↔ (n.val = 0 \/ posB (UInt8.ofNat n.val) esF < esF.length) := by decide +kernel
theorem escB_yes {b : UInt8} (h : isEsc b) : escB b = 92 :: hexB b := by unfold escB hexB; rw [if_pos h]
theorem escB_no {b : UInt8} (h : ¬ isEsc b) : escB b = [b] := by unfold escB; rw [if_neg h]
theorem escS_take {s : List UInt8} {i : Nat} (h : i < s.length) : escS (s.take (i + 1)) = escS (s.take i) ++ escB s[i] := by
  rw [List.take_succ_eq_append_getElem h, escS_app]; simp [escS]
set_option maxRecDepth 8000 in
set_option maxHeartbeats 1000000 in
theorem filt_written (s : List UInt8) (hs : s.length <= 100000000) (h : Heap) : Spec Tryd.prog 35 [str s] h [] (fun u _ H' => u = str (escS s) /\ H' = []) := by
  refine Spec.enter Tryd.func35 rfl rfl ?_; intro w0
  repeat' (first | (refine G.atCode ?_; refine G.stopLoop ?_) | (refine G.atCode ?_; first | refine G.seq ?_ | refine G.region ?_ | refine G.block ?_) | refine G.endOps ?_ | refine G.op rfl rfl ?_ | (refine G.atLen ?_; first | refine G.lenRowB rfl (tyy rfl) Za rfl ?_) | (refine G.atConv ?_; first | (refine G.convBytes rfl (tyy rfl) (tyy rfl) (tyy rfl) rfl Zo ?_; intro _)))
  rename_i v
  refine G.nilRowB 5 ?_
  refine G.go ?_
  refine G.loop (σ := Nat × Value) (fun x => [(9, .int .i64 x.1), (8, .int .i64 s.length), (7, v), (3, x.2)])
    (fun x => [.row v 5 1 (bytesR s), .row x.2 5 1 (bytesR (escS (s.take x.1)))])
    (fun x _ => x.1 <= s.length) (fun x => s.length - x.1) ⟨0, .slice none 0 0⟩ ⟨rfl, rfl, rfl, rfl, trivial⟩ Zu (Nat.zero_le _) ?_
  rintro ⟨i, v2⟩ h1 hle1 hi
  simp only at hi
  refine G.norm (by (try dsimp only) <;> exact rfl) (by (try dsimp only) <;> exact rfl) ?_
  have hel := escS_len (s.take i)
  rw [List.length_take] at hel
  by_cases hlt : i < s.length
  . have hst := escS_take hlt
    have hof := ofNat_byteAt hlt
    have hcb := byteAt_lt s i
    have hp := esc_pos ⟨byteAt s i, hcb⟩
    simp only at hp
    generalize escS (s.take i) = B at *
    have hhl : (hexB s[i]).length = 2 := rfl
    rw [hof] at hp
    by_cases he : isEsc s[i]
    . rw [escB_yes he] at hst
      have hp := hp.1 he
      rw [<- hof] at hp
      repeat' (first | (refine G.atIdx ?_; refine G.idxRow' rfl rfl (tyy rfl) (tyy rfl) Za Zj rfl (by rw [bytesR_length]; omega) ?_; intro _ _) | (show G _ (.ops .seq _ (⟨some _, .call { callee := .value (.func 46), args := _, argTypes := _ }, _, _, _, none⟩ :: _) :: _) _ _ _; refine G.call callIdxB rfl rfl (str_IndexByte esF (byteAt s i) hcb _) Ze ?_; rintro _ h2 H2 ⟨rfl, rfl⟩ hle2) | (show G _ (.ops .seq _ (⟨some _, .call { callee := .value (.func 47), args := _, argTypes := _ }, _, _, _, none⟩ :: _) :: _) _ _ _; (try rw [Int.toNat_natCast]); (try rw [hof]); refine G.call callHex rfl rfl (octet_Hex s[i] _) Ze ?_; rintro _ h3 H3 ⟨rfl, rfl⟩ hle3) | (refine G.atCode ?_; first | refine G.seq ?_ | refine G.region ?_ | refine G.block ?_ | refine G.skip ?_ | (refine G.cond rfl ?_ ?_ <;> intro hc <;> (try simp only [tests, reduceCtorEq] at hc) <;> (try exact Zf))) | refine G.endOps ?_ | refine G.endBlk ?_ | (refine G.atGd ?_; first | refine G.guardYes rfl rfl ?_ | refine G.guardNoS rfl rfl rfl ?_ | (refine G.guardS rfl rfl rfl ?_ ?_ <;> intro hc <;> (try simp only [tests, reduceCtorEq] at hc) <;> (try exact Zf))) | (refine G.atBin ?_; first | (refine G.atAdd ?_; first | refine G.arith rfl rfl rfl rfl rfl Zi ?_ | refine G.catStr rfl rfl rfl Zo ?_) | (refine G.atEql ?_; first | refine G.op rfl rfl ?_) | refine G.op rfl rfl ?_) | refine G.op rfl rfl ?_ | (refine G.atLoad ?_; first | (refine G.loadRowB rfl (tyy rfl) Zp Za Zo rfl ?_; intro _)) | (refine G.atBsl ?_; refine G.buildSlice (tyy rfl) (tyy rfl) rfl rfl rfl rfl ?_; intro _) | (refine G.atApp ?_; first | (refine G.appendStr rfl rfl (tyy rfl) (tyy rfl) (tyy rfl) rfl rfl Za rfl Zo ?_; intro _)) | (refine G.atConv ?_; first | refine G.convStrBlk1 rfl (tyy rfl) (tyy rfl) (tyy rfl) Za Zo rfl ?_))
      all_goals first
        | exact G.again ⟨i + 1, _⟩ ⟨sint (by simp), rfl, rfl, rfl, trivial⟩ (by rw [hst]; exact Zu) (by simp only; omega) (by solve | repeat first | assumption | exact Zr _ | refine Zq ?_ Zp) (by simp only; omega)
        | (exfalso; rename_i q; rw [if_neg (by omega)] at q; omega)
        | (exfalso; rename_i q _; rw [if_pos (by omega)] at q; omega)
        | (exfalso; omega)
        | skip
    . rw [escB_no he] at hst
      have hp := fun h9 => he (hp.2 h9)
      rw [<- hof] at hp
      repeat' (first | (refine G.atIdx ?_; refine G.idxRow' rfl rfl (tyy rfl) (tyy rfl) Za Zj rfl (by rw [bytesR_length]; omega) ?_; intro _ _) | (show G _ (.ops .seq _ (⟨some _, .call { callee := .value (.func 46), args := _, argTypes := _ }, _, _, _, none⟩ :: _) :: _) _ _ _; refine G.call callIdxB rfl rfl (str_IndexByte esF (byteAt s i) hcb _) Ze ?_; rintro _ h2 H2 ⟨rfl, rfl⟩ hle2) | (show G _ (.ops .seq _ (⟨some _, .call { callee := .value (.func 47), args := _, argTypes := _ }, _, _, _, none⟩ :: _) :: _) _ _ _; (try rw [Int.toNat_natCast]); (try rw [hof]); refine G.call callHex rfl rfl (octet_Hex s[i] _) Ze ?_; rintro _ h3 H3 ⟨rfl, rfl⟩ hle3) | (refine G.atCode ?_; first | refine G.seq ?_ | refine G.region ?_ | refine G.block ?_ | refine G.skip ?_ | (refine G.cond rfl ?_ ?_ <;> intro hc <;> (try simp only [tests, reduceCtorEq] at hc) <;> (try exact Zf))) | refine G.endOps ?_ | refine G.endBlk ?_ | (refine G.atGd ?_; first | refine G.guardYes rfl rfl ?_ | refine G.guardNoS rfl rfl rfl ?_ | (refine G.guardS rfl rfl rfl ?_ ?_ <;> intro hc <;> (try simp only [tests, reduceCtorEq] at hc) <;> (try exact Zf))) | (refine G.atBin ?_; first | (refine G.atAdd ?_; first | refine G.arith rfl rfl rfl rfl rfl Zi ?_ | refine G.catStr rfl rfl rfl Zo ?_) | (refine G.atEql ?_; first | refine G.op rfl rfl ?_) | refine G.op rfl rfl ?_) | refine G.op rfl rfl ?_ | (refine G.atLoad ?_; first | (refine G.loadRowB rfl (tyy rfl) Zp Za Zo rfl ?_; intro _)) | (refine G.atBsl ?_; refine G.buildSlice (tyy rfl) (tyy rfl) rfl rfl rfl rfl ?_; intro _) | (refine G.atApp ?_; first | (refine G.append1B rfl rfl (tyy rfl) (tyy rfl) rfl rfl Za Za rfl Zo Zo ?_; intro _) | (refine G.appendStr rfl rfl (tyy rfl) (tyy rfl) (tyy rfl) rfl rfl Za rfl Zo ?_; intro _)) | (refine G.atConv ?_; first | refine G.convStrBlk1 rfl (tyy rfl) (tyy rfl) (tyy rfl) Za Zo rfl ?_))
      all_goals first
        | (exfalso; exact hp (.inl (by omega)))
        | (rw [Int.toNat_natCast, hof, ← hst]; exact G.again ⟨i + 1, _⟩ ⟨sint (by simp), rfl, rfl, rfl, trivial⟩ Zu (by simp only; omega) (by solve | repeat first | assumption | exact Zr _ | refine Zq ?_ Zp) (by simp only; omega))
        | (exfalso; rw [if_neg (fun q => hp (.inr q))] at hc; omega)
  . obtain rfl : i = s.length := by omega
    rw [List.take_of_length_le (Nat.le_refl _)]
    repeat' (first | (refine G.atCode ?_; first | refine G.seq ?_ | refine G.region ?_ | refine G.exit rfl ?_ | refine G.ret ?_ | (refine G.cond rfl ?_ ?_ <;> intro hc <;> (try simp only [tests, reduceCtorEq] at hc) <;> (try exact Zf))) | refine G.endOps ?_ | (refine G.atBin ?_; first | refine G.op rfl rfl ?_) | refine G.op rfl rfl ?_ | (refine G.atConv ?_; first | refine G.convStr rfl (tyy rfl) (tyy rfl) (tyy rfl) Za rfl ?_))
    all_goals first | (exfalso; omega) | exact G.done1 rfl rfl _ (SubH.nil _) ⟨rfl, rfl⟩
theorem esc_iff (b : UInt8) (n : Nat) (h : b.toNat = n) : isEsc b ↔ (n = 0 \/ n = 40 \/ n = 41 \/ n = 42 \/ n = 92) := by unfold isEsc; rw [h]
set_option maxRecDepth 8000 in
set_option maxHeartbeats 1000000 in
theorem ref10_written (s : List UInt8) (hs : s.length <= 100000000) (h : Heap) : Spec Tryd.prog 36 [str s] h [] (fun u _ H' => u = str (escS s) /\ H' = []) := by
  refine Spec.enter Tryd.func36 rfl rfl ?_; intro w0
  repeat' (first | (refine G.atCode ?_; refine G.stopLoop ?_) | (refine G.atCode ?_; first | refine G.seq ?_ | refine G.region ?_ | refine G.block ?_) | refine G.endOps ?_ | refine G.op rfl rfl ?_)
  refine G.nilRowB 5 ?_
  refine G.go ?_
  refine G.loop (σ := Nat × Value) (fun x => [(4, .int .i64 x.1), (3, x.2), (0, str s)])
    (fun x => [.row x.2 5 1 (bytesR (escS (s.take x.1)))])
    (fun x _ => x.1 <= s.length) (fun x => s.length - x.1) ⟨0, .slice none 0 0⟩ ⟨rfl, rfl, rfl, trivial⟩ Zu (Nat.zero_le _) ?_
  rintro ⟨i, v2⟩ h1 hle1 hi
  simp only at hi
  refine G.norm (by (try dsimp only) <;> exact rfl) (by (try dsimp only) <;> exact rfl) ?_
  have hel := escS_len (s.take i)
  rw [List.length_take] at hel
  by_cases hlt : i < s.length
  . have hst := escS_take hlt
    have hof := ofNat_byteAt hlt
    have hcb := byteAt_lt s i
    have hsl : List.take (((i : Int) + 1).toNat - i) (List.drop i s) = [s[i]] := by
      rw [show ((i : Int) + 1).toNat - i = 1 by omega, List.drop_eq_getElem_cons hlt]; rfl
    have hp := esc_iff s[i] (byteAt s i) (byteAt_eq hlt).symm
    generalize escS (s.take i) = B at *
    have hhl : (hexB s[i]).length = 2 := rfl
    by_cases he : isEsc s[i]
    . rw [escB_yes he] at hst
      have hp := hp.1 he
      repeat' (first | (show G _ (.ops .seq _ (⟨some _, .call { callee := .value (.func 48), args := _, argTypes := _ }, _, _, _, none⟩ :: _) :: _) _ _ _; (try rw [hsl]); refine G.call callRHex rfl rfl (ref01_Hex s[i] _) Ze ?_; rintro _ h3 H3 ⟨rfl, rfl⟩ hle3) | (refine G.atCode ?_; first | refine G.seq ?_ | refine G.region ?_ | refine G.block ?_ | refine G.skip ?_ | (refine G.cond rfl ?_ ?_ <;> intro hc <;> (try simp only [tests, reduceCtorEq] at hc) <;> (try exact Zf))) | refine G.endOps ?_ | refine G.endBlk ?_ | (refine G.atGd ?_; first | refine G.guardYes rfl rfl ?_ | refine G.guardNoS rfl rfl rfl ?_ | (refine G.guardS rfl rfl rfl ?_ ?_ <;> intro hc <;> (try simp only [tests, reduceCtorEq] at hc) <;> (try exact Zf))) | (refine G.atBin ?_; first | (refine G.atAdd ?_; first | refine G.arith rfl rfl rfl rfl rfl Zi ?_) | (refine G.atEql ?_; first | refine G.op rfl rfl ?_) | refine G.op rfl rfl ?_) | refine G.op rfl rfl ?_ | (refine G.atLen ?_; first | refine G.lenStr rfl (tyy rfl) rfl ?_) | (refine G.atBsl ?_; refine G.buildSlice (tyy rfl) (tyy rfl) rfl rfl rfl rfl ?_; intro _) | (refine G.atApp ?_; first | (refine G.append1B rfl rfl (tyy rfl) (tyy rfl) rfl rfl Za Za rfl Zo Zo ?_; intro _) | (refine G.appendStr rfl rfl (tyy rfl) (tyy rfl) (tyy rfl) rfl rfl Za rfl Zo ?_; intro _)) | (refine G.atInd ?_; refine G.idxStr rfl rfl (tyy rfl) rfl Zj Zo ?_; intro _) | (refine G.atSlc ?_; first | refine G.sliceStr rfl rfl rfl (tyy rfl) rfl Zj Zj Zo rfl ?_))
      all_goals first
        | (exfalso; omega)
        | (have e2 : B ++ [UInt8.ofNat (92 : Int).toNat] ++ hexB s[i] = escS (s.take (i + 1)) := by rw [hst, List.append_assoc]; rfl
           rw [e2]
           exact G.again ⟨i + 1, _⟩ ⟨sint (by simp), rfl, rfl, trivial⟩ Zu (by simp only; omega) (by solve | repeat first | assumption | exact Zr _ | refine Zq ?_ Zp) (by simp only; omega))
        | skip
    . rw [escB_no he] at hst
      have hp := fun h9 => he (hp.2 h9)
      repeat' (first | (refine G.atCode ?_; first | refine G.seq ?_ | refine G.region ?_ | refine G.block ?_ | refine G.skip ?_ | (refine G.cond rfl ?_ ?_ <;> intro hc <;> (try simp only [tests, reduceCtorEq] at hc) <;> (try exact Zf))) | refine G.endOps ?_ | refine G.endBlk ?_ | (refine G.atGd ?_; first | refine G.guardYes rfl rfl ?_ | refine G.guardNoS rfl rfl rfl ?_ | (refine G.guardS rfl rfl rfl ?_ ?_ <;> intro hc <;> (try simp only [tests, reduceCtorEq] at hc) <;> (try exact Zf))) | (refine G.atBin ?_; first | (refine G.atAdd ?_; first | refine G.arith rfl rfl rfl rfl rfl Zi ?_) | (refine G.atEql ?_; first | refine G.op rfl rfl ?_) | refine G.op rfl rfl ?_) | refine G.op rfl rfl ?_ | (refine G.atLen ?_; first | refine G.lenStr rfl (tyy rfl) rfl ?_) | (refine G.atBsl ?_; refine G.buildSlice (tyy rfl) (tyy rfl) rfl rfl rfl rfl ?_; intro _) | (refine G.atApp ?_; first | (refine G.append1B rfl rfl (tyy rfl) (tyy rfl) rfl rfl Za Za rfl Zo Zo ?_; intro _)) | (refine G.atInd ?_; refine G.idxStr rfl rfl (tyy rfl) rfl Zj Zo ?_; intro _) | (refine G.atSlc ?_; first | refine G.sliceStr rfl rfl rfl (tyy rfl) rfl Zj Zj Zo rfl ?_))
      all_goals first
        | (exfalso; exact hp (by omega))
        | (rw [Int.toNat_natCast, hof, ← hst]; exact G.again ⟨i + 1, _⟩ ⟨sint (by simp), rfl, rfl, trivial⟩ Zu (by simp only; omega) (by solve | repeat first | assumption | exact Zr _ | refine Zq ?_ Zp) (by simp only; omega))
        | skip
  . obtain rfl : i = s.length := by omega
    rw [List.take_of_length_le (Nat.le_refl _)]
    repeat' (first | (refine G.atCode ?_; first | refine G.seq ?_ | refine G.region ?_ | refine G.exit rfl ?_ | refine G.ret ?_ | (refine G.cond rfl ?_ ?_ <;> intro hc <;> (try simp only [tests, reduceCtorEq] at hc) <;> (try exact Zf))) | refine G.endOps ?_ | (refine G.atBin ?_; first | refine G.op rfl rfl ?_) | refine G.op rfl rfl ?_ | (refine G.atLen ?_; first | refine G.lenStr rfl (tyy rfl) rfl ?_) | (refine G.atConv ?_; first | refine G.convStr rfl (tyy rfl) (tyy rfl) (tyy rfl) Za rfl ?_))
    all_goals first | (exfalso; omega) | exact G.done1 rfl rfl _ (SubH.nil _) ⟨rfl, rfl⟩
end Go.Proofs.YtcghcdnmpjhifaaDoor
