/- Package journal: seal, sealed, cell.sector, head. -/
import Derived.Test.YtmbpjgjajedonaaDoorJoC
import Derived.Test.YtmbpjgjajedonaaDoorJoT
import Derived.Test.YtmbpjgjajedonaaDoorTlvA
namespace Go.Proofs.YtmbpjgjajedonaaDoor
set_option linter.all false
set_option maxRecDepth 4000
open Go.RowKit

theorem callSeal : Callable Tryd.prog 29 := ⟨_, Tryd.func29, by kernel_rfl, rfl⟩
theorem callSealed : Callable Tryd.prog 34 := ⟨_, Tryd.func34, by kernel_rfl, rfl⟩
theorem callSectorC : Callable Tryd.prog 37 := ⟨_, Tryd.func37, by kernel_rfl, rfl⟩
theorem callHeadJ : Callable Tryd.prog 21 := ⟨_, Tryd.func21, by kernel_rfl, rfl⟩
theorem callReadJ : Callable Tryd.prog 23 := ⟨_, Tryd.func23, by kernel_rfl, rfl⟩
theorem strs_RepeatI (n : Int) (hn : 0 <= n /\ n <= 1000000000) (h : Heap) : Spec Tryd.prog 40 [str [0], .int .i64 n] h [] (fun u _ H' => u = str (List.replicate n.toNat 0) /\ H' = []) := by
  obtain ⟨c, rfl⟩ := Int.eq_ofNat_of_zero_le hn.1
  exact strs_Repeat c (by omega) h
theorem octet_PutN (n : Nat) (hn : n < 18446744073709551616) (s : Nat) (hs : 1 <= s /\ s <= 8) (h : Heap) :
    Spec Tryd.prog 30 [.int .u64 n, .int .i64 s] h [] (fun v _ H' => H' = [] /\ v = str (putB n s)) := octet_Put n hn s (by omega) h
set_option maxRecDepth 8000 in
theorem jo_seal (s : B8) (hs : s.length <= 124) (h : Heap) : Spec Tryd.prog 29 [str s] h [] (fun u _ H' => u = str (sealM s) /\ H' = []) := by
  have hb := crcM_lt (padM s)
  have hpl := pad_len hs
  have hbl : 0 <= (124 : Int) - s.length /\ (124 : Int) - s.length <= 1000000000 := by omega
  have hpd : s ++ List.replicate ((124 : Int) - s.length).toNat 0 = padM s := by rw [show ((124 : Int) - s.length).toNat = 124 - s.length by omega]; rfl
  have hse : putB (crcM (padM s)) 4 ++ padM s = sealM s := rfl
  have hcr := crc_Sum (padM s) (by omega)
  have hp4 : (putB (crcM (padM s)) 4).length = 4 := putB_length _ _
  generalize padM s = P at *
  generalize crcM P = K at *
  generalize sealM s = Z at *
  refine Spec.enter Tryd.func29 rfl rfl ?_; intro w0
  repeat' (first | (show G _ (.ops .seq _ (⟨some _, .call { callee := .value (.func 40), args := _, argTypes := _ }, _, _, _, none⟩ :: _) :: _) _ _ _; refine G.call callRepeat rfl rfl (strs_RepeatI _ hbl _) Ze ?_; rintro _ h2 H2 ⟨rfl, rfl⟩ hle2) | (refine G.atBsl ?_; refine G.buildSlice (tyy rfl) (tyy rfl) rfl rfl rfl rfl ?_; intro _; rw [hpd]; refine G.freezeBlk Take.hd ?_; intro hf1 hle1 hc1; have hs1 := HSl.ofBlk1 (rows := strsR [P]) (n := 1) hc1 (rowed_strs _) rfl (by decide); clear hc1) | (show G _ (.ops .seq _ (⟨some _, .call { callee := .value (.func 41), args := _, argTypes := _ }, _, _, _, none⟩ :: _) :: _) _ _ _; refine G.call callCrcSum rfl rfl (hcr _ _ (hs1.mono (by solve | repeat first | assumption | exact Zr _ | refine Zq ?_ Zp))) Ze ?_; rintro _ h3 H3 ⟨rfl, rfl⟩ hle3) | (show G _ (.ops .seq _ (⟨some _, .call { callee := .value (.func 30), args := _, argTypes := _ }, _, _, _, none⟩ :: _) :: _) _ _ _; refine G.call callPut7 rfl rfl (octet_PutN _ (by omega) 4 (by omega) _) Ze ?_; rintro _ h4 H4 ⟨rfl, rfl⟩ hle4) | (refine G.atCode ?_; first | refine G.seq ?_ | refine G.region ?_ | refine G.block ?_ | refine G.skip ?_ | refine G.exit rfl ?_ | refine G.ret ?_ | (refine G.cond rfl ?_ ?_ <;> intro hc <;> (try simp only [tests, reduceCtorEq] at hc) <;> (try exact Zf))) | refine G.endOps ?_ | refine G.endStill ?_ | refine G.endHeld ?_ | refine G.back ?_ | refine G.endBlk ?_ | (refine G.atBin ?_; first | (refine G.atAdd ?_; first | refine G.arith rfl rfl rfl rfl rfl Zi ?_ | refine G.catStr rfl rfl rfl Zo ?_ | refine G.op rfl rfl ?_) | (refine G.atSub ?_; first | refine G.arith rfl rfl rfl rfl rfl Zi ?_ | refine G.op rfl rfl ?_) | refine G.op rfl rfl ?_ ) | refine G.op rfl rfl ?_ | (refine G.atLen ?_; first | refine G.lenStr rfl (tyy rfl) rfl ?_ | refine G.lenSlice rfl (tyy rfl) rfl ?_ | refine G.lenRowB rfl (tyy rfl) Za rfl ?_ | refine G.lenRowS rfl (tyy rfl) Za rfl ?_ | refine G.lenRow rfl (tyy rfl) Za rfl ?_ | refine G.lenImmB rfl (tyy rfl) Zl rfl ?_ | refine G.lenImmI rfl (tyy rfl) Zl rfl ?_ | refine G.lenImmS rfl (tyy rfl) Zl rfl ?_ | refine G.lenImm rfl (tyy rfl) Zl rfl ?_) | (refine G.atBsl ?_; refine G.buildSlice (tyy rfl) (tyy rfl) rfl rfl rfl rfl ?_; intro _) | (refine G.atConv ?_; first | refine G.conv rfl (tyy rfl) (tyy rfl) rfl Zi ?_ | (refine G.convBytes rfl (tyy rfl) (tyy rfl) (tyy rfl) rfl Zo ?_; intro _) | refine G.convStr rfl (tyy rfl) (tyy rfl) (tyy rfl) Za rfl ?_ | refine G.convStrBlk1 rfl (tyy rfl) (tyy rfl) (tyy rfl) Za Zo rfl ?_ | refine G.convStrBlk2 rfl (tyy rfl) (tyy rfl) (tyy rfl) Za Zo Zo rfl ?_ | (refine G.convW rfl (tyy rfl) (tyy rfl) rfl ?_; intro hcw; (try simp only [inR] at hcw))) )
  exact G.done1 rfl rfl _ (SubH.nil _) ⟨congrArg str hse, rfl⟩
theorem jo_sealed (s : B8) (hs : s.length = 128) (h : Heap) : Spec Tryd.prog 34 [str s] h [] (fun u _ H' => u = .tuple #[str (s.drop 4), .bool (decide (crcM (s.drop 4) = num s 0 4))] /\ H' = []) := by
  have hg : getV s 0 4 = num s 0 4 := by unfold getV getOk num; rw [if_pos (by simp; omega)]; rfl
  have hcr := crc_Sum (s.drop 4) (by rw [List.length_drop]; omega)
  have hb := crcM_lt (s.drop 4)
  generalize crcM (s.drop 4) = K at *
  refine Spec.enter Tryd.func34 rfl rfl ?_; intro w0
  repeat' (first | (show G _ (.ops .seq _ (⟨some _, .call { callee := .value (.func 35), args := _, argTypes := _ }, _, _, _, none⟩ :: _) :: _) _ _ _; refine G.call callGet7 rfl rfl (octet_Get s 0 4 (by omega) (by omega) (by omega) _) Ze ?_; rintro _ h1 H1 ⟨rfl, rfl⟩ hle1; rw [hg]) | (refine G.atBsl ?_; refine G.buildSlice (tyy rfl) (tyy rfl) rfl rfl rfl rfl ?_; intro _; refine G.freezeBlk Take.hd ?_; intro hf1 hle1 hc1; have hs1 := HSl.ofBlk1 (rows := strsR [s.drop 4]) (n := 1) hc1 (rowed_strs _) rfl (by decide); clear hc1) | (show G _ (.ops .seq _ (⟨some _, .call { callee := .value (.func 41), args := _, argTypes := _ }, _, _, _, none⟩ :: _) :: _) _ _ _; refine G.call callCrcSum rfl rfl (hcr _ _ (hs1.mono (by solve | repeat first | assumption | exact Zr _ | refine Zq ?_ Zp))) Ze ?_; rintro _ h3 H3 ⟨rfl, rfl⟩ hle3) | (refine G.atCode ?_; first | refine G.seq ?_ | refine G.region ?_ | refine G.block ?_ | refine G.skip ?_ | refine G.drawAuto mixedOk rfl Zw ?_ | refine G.drawAll slB Zw mixedOk Zw ?_ | refine G.anyIn mixedOk ?_ | refine G.exit rfl ?_ | refine G.ret ?_ | (refine G.cond rfl ?_ ?_ <;> intro hc <;> (try simp only [tests, reduceCtorEq] at hc) <;> (try exact Zf))) | refine G.endOps ?_ | refine G.endStill ?_ | refine G.endHeld ?_ | refine G.back ?_ | refine G.endBlk ?_ | (refine G.atAny ?_; first | refine G.anyAutoX slB rfl rfl Zw Zg Zd ?_ | refine G.anyOne rfl Zw Zg Zu ?_ | refine G.anyAuto slB rfl Zw Zg Zu ?_ | refine G.anyEndX Zw ?_ | refine G.anyEnd Zw Zg Zu ?_ | refine G.anyTwo rfl Zw Zg Zu ?_ ?_) | (refine G.atBin ?_; first | (refine G.atEql ?_; first | refine G.op rfl rfl ?_ | refine G.eqStr0 rfl rfl rfl ?_ | refine G.eqStr rfl rfl rfl ?_ | refine G.eqPtr rfl rfl (tyy rfl) rfl ?_ | refine G.eqBool rfl rfl (tyy rfl) rfl ?_) | refine G.op rfl rfl ?_ ) | refine G.op rfl rfl ?_ | (refine G.atBsl ?_; refine G.buildSlice (tyy rfl) (tyy rfl) rfl rfl rfl rfl ?_; intro _) | (refine G.atConv ?_; first | refine G.conv rfl (tyy rfl) (tyy rfl) rfl Zi ?_ | (refine G.convBytes rfl (tyy rfl) (tyy rfl) (tyy rfl) rfl Zo ?_; intro _) | refine G.convStr rfl (tyy rfl) (tyy rfl) (tyy rfl) Za rfl ?_ | refine G.convStrBlk1 rfl (tyy rfl) (tyy rfl) (tyy rfl) Za Zo rfl ?_ | refine G.convStrBlk2 rfl (tyy rfl) (tyy rfl) (tyy rfl) Za Zo Zo rfl ?_ | (refine G.convW rfl (tyy rfl) (tyy rfl) rfl ?_; intro hcw; (try simp only [inR] at hcw))) | (refine G.atSlc ?_; first | refine G.dropStr rfl rfl (tyy rfl) rfl Zj Zo ?_ | refine G.takeStr rfl rfl (tyy rfl) rfl Zj Zo ?_ | refine G.sliceStr rfl rfl rfl (tyy rfl) rfl Zj Zj Zo rfl ?_))
  exact G.done2 rfl rfl rfl _ (SubH.nil _) ⟨by rw [show decide ((K : Int) = (num s 0 4 : Nat)) = decide (K = num s 0 4) from decide_eq_decide.2 (by omega)], rfl⟩
def Cl.vals (c : Cl) : List Value := [.int .u64 c.gen, .int .u64 c.seq, .int .u64 c.part, .int .u64 c.parts, str c.data]
set_option maxRecDepth 8000 in
theorem jo_sector (c : Cl) (hi : c.In) (hd : c.data.length <= 110) (h : Heap) : Spec Tryd.prog 37 [.agg c.vals.toArray] h [] (fun u _ H' => u = str (secC c) /\ H' = []) := by
  have i1 := hi.g; have i2 := hi.s; have i3 := hi.p; have i4 := hi.q
  have hbl := bodyC_len c
  have hS := jo_seal (bodyC c) (by omega)
  have hsc : sealM (bodyC c) = secC c := rfl
  have hbc : bodyC c = [67] ++ putB c.gen 4 ++ putB c.seq 4 ++ putB c.part 2 ++ putB c.parts 2 ++ putB c.data.length 1 ++ c.data := by simp only [bodyC, List.append_assoc]
  generalize sealM (bodyC c) = Z at *
  generalize secC c = Z2 at *
  subst hsc
  generalize bodyC c = B at *
  unfold Cl.vals
  obtain ⟨gen, seq, part, parts, data⟩ := c
  simp only at i1 i2 i3 i4 hd hbl hbc ⊢
  have l1 := putB_length gen 4
  have l2 := putB_length seq 4
  have l3 := putB_length part 2
  have l4 := putB_length parts 2
  have l5 := putB_length data.length 1
  have p1 := octet_PutN gen (by omega) 4 (by omega)
  have p2 := octet_PutN seq (by omega) 4 (by omega)
  have p3 := octet_PutN part (by omega) 2 (by omega)
  have p4 := octet_PutN parts (by omega) 2 (by omega)
  have p5 := octet_PutN data.length (by omega) 1 (by omega)
  refine Spec.enter Tryd.func37 rfl rfl ?_; intro w0
  repeat' (first | (show G _ (.ops .seq _ (⟨some _, .call { callee := .value (.func 30), args := _, argTypes := _ }, _, _, _, none⟩ :: _) :: _) _ _ _; refine G.call callPut7 rfl rfl (p1 _) Ze ?_; rintro _ h4 H4 ⟨rfl, rfl⟩ hle4) | (show G _ (.ops .seq _ (⟨some _, .call { callee := .value (.func 30), args := _, argTypes := _ }, _, _, _, none⟩ :: _) :: _) _ _ _; refine G.call callPut7 rfl rfl (p2 _) Ze ?_; rintro _ h4 H4 ⟨rfl, rfl⟩ hle4) | (show G _ (.ops .seq _ (⟨some _, .call { callee := .value (.func 30), args := _, argTypes := _ }, _, _, _, none⟩ :: _) :: _) _ _ _; refine G.call callPut7 rfl rfl (p3 _) Ze ?_; rintro _ h4 H4 ⟨rfl, rfl⟩ hle4) | (show G _ (.ops .seq _ (⟨some _, .call { callee := .value (.func 30), args := _, argTypes := _ }, _, _, _, none⟩ :: _) :: _) _ _ _; refine G.call callPut7 rfl rfl (p4 _) Ze ?_; rintro _ h4 H4 ⟨rfl, rfl⟩ hle4) | (show G _ (.ops .seq _ (⟨some _, .call { callee := .value (.func 30), args := _, argTypes := _ }, _, _, _, none⟩ :: _) :: _) _ _ _; refine G.call callPut7 rfl rfl (p5 _) Ze ?_; rintro _ h4 H4 ⟨rfl, rfl⟩ hle4) | (rw [<- hbc]; (show G _ (.ops .seq _ (⟨some _, .call { callee := .value (.func 29), args := _, argTypes := _ }, _, _, _, none⟩ :: _) :: _) _ _ _; refine G.call callSeal rfl rfl (hS _) Ze ?_; rintro _ h5 H5 ⟨rfl, rfl⟩ hle5)) | (refine G.atCode ?_; first | refine G.seq ?_ | refine G.region ?_ | refine G.block ?_ | refine G.skip ?_ | refine G.drawAuto mixedOk rfl Zw ?_ | refine G.drawAll slB Zw mixedOk Zw ?_ | refine G.anyIn mixedOk ?_ | refine G.exit rfl ?_ | refine G.ret ?_ | (refine G.cond rfl ?_ ?_ <;> intro hc <;> (try simp only [tests, reduceCtorEq] at hc) <;> (try exact Zf))) | refine G.endOps ?_ | refine G.endStill ?_ | refine G.endHeld ?_ | refine G.back ?_ | refine G.endBlk ?_ | (refine G.atAny ?_; first | refine G.anyAutoX slB rfl rfl Zw Zg Zd ?_ | refine G.anyOne rfl Zw Zg Zu ?_ | refine G.anyAuto slB rfl Zw Zg Zu ?_ | refine G.anyEndX Zw ?_ | refine G.anyEnd Zw Zg Zu ?_ | refine G.anyTwo rfl Zw Zg Zu ?_ ?_) | (refine G.atBin ?_; first | (refine G.atAdd ?_; first | refine G.arith rfl rfl rfl rfl rfl Zi ?_ | refine G.catStr rfl rfl rfl Zo ?_ | refine G.op rfl rfl ?_) | refine G.op rfl rfl ?_ ) | refine G.op rfl rfl ?_ | (refine G.atLen ?_; first | refine G.lenStr rfl (tyy rfl) rfl ?_ | refine G.lenSlice rfl (tyy rfl) rfl ?_ | refine G.lenRowB rfl (tyy rfl) Za rfl ?_ | refine G.lenRowS rfl (tyy rfl) Za rfl ?_ | refine G.lenRow rfl (tyy rfl) Za rfl ?_ | refine G.lenImmB rfl (tyy rfl) Zl rfl ?_ | refine G.lenImmI rfl (tyy rfl) Zl rfl ?_ | refine G.lenImmS rfl (tyy rfl) Zl rfl ?_ | refine G.lenImm rfl (tyy rfl) Zl rfl ?_) | (refine G.atLoad ?_; first | refine G.loadOwn1 rfl (tyy rfl) rfl rfl Za rfl rfl ?_ | refine G.loadOwnA rfl (tyy rfl) rfl rfl Za rfl rfl ?_ | refine G.loadImm1 rfl (tyy rfl) rfl rfl Zp rfl ?_ | refine G.loadImmA rfl (tyy rfl) rfl rfl Zp Zp rfl ?_ | refine G.loadRowS rfl (tyy rfl) Zp Za Zo rfl ?_ | (refine G.loadRowB rfl (tyy rfl) Zp Za Zo rfl ?_; intro _)) | (refine G.atFld ?_; first | refine G.fieldAddr rfl (tyy rfl) rfl rfl ?_ | refine G.fieldAddrP rfl (tyy rfl) rfl rfl ?_) | (refine G.atBox ?_; refine G.box rfl rfl rfl ?_; intro _) | (refine G.atConv ?_; first | refine G.conv rfl (tyy rfl) (tyy rfl) rfl Zi ?_ | (refine G.convBytes rfl (tyy rfl) (tyy rfl) (tyy rfl) rfl Zo ?_; intro _) | refine G.convStr rfl (tyy rfl) (tyy rfl) (tyy rfl) Za rfl ?_ | refine G.convStrBlk1 rfl (tyy rfl) (tyy rfl) (tyy rfl) Za Zo rfl ?_ | refine G.convStrBlk2 rfl (tyy rfl) (tyy rfl) (tyy rfl) Za Zo Zo rfl ?_ | (refine G.convW rfl (tyy rfl) (tyy rfl) rfl ?_; intro hcw; (try simp only [inR] at hcw))) )
  exact G.done1 rfl rfl _ (SubH.nil _) ⟨rfl, rfl⟩
theorem byteAt_drop (s : B8) (a i : Nat) : byteAt (s.drop a) i = byteAt s (a + i) := by unfold byteAt; rw [List.getElem?_drop]
theorem num_byte {s : B8} {i : Nat} (h : i < s.length) : num s i 1 = byteAt s i := by
  unfold num byteAt
  rw [List.drop_eq_getElem_cons h, List.getElem?_eq_getElem h]
  show 0 * 256 + (s[i]'h).toNat = (s[i]'h).toNat
  omega
theorem getV_num {s : B8} (a n : Nat) (h : a + n <= s.length) (hn : 1 <= n /\ n <= 8) : getV s a n = num s a n := by
  unfold getV getOk num
  rw [if_pos (by simp; omega)]; rfl
theorem head_val {s : B8} (hs : s.length = 128) : headM s = if crcM (s.drop 4) = num s 0 4 /\ byteAt s 4 = 72 /\ num s 5 4 ≠ 0 /\ byteAt s 9 <= 1 /\ s.drop 10 = List.replicate 118 0 then some (num s 5 4, byteAt s 9) else none := by
  unfold headM
  rw [num_byte (show 9 < s.length by omega)]
  have hh := head_iff hs
  rw [num_byte (show 9 < s.length by omega)] at hh
  by_cases h : crcM (s.drop 4) = num s 0 4 /\ byteAt s 4 = 72 /\ num s 5 4 ≠ 0 /\ byteAt s 9 <= 1 /\ s.drop 10 = List.replicate 118 0
  . rw [if_pos h, if_pos ⟨by omega, h.2.2.2.1, hh.2 ⟨h.1, h.2.1, h.2.2.2.2⟩⟩]
  . rw [if_neg h, if_neg]
    rintro ⟨h1, h2, h3⟩
    obtain ⟨a, b, c⟩ := hh.1 h3
    exact h ⟨a, b, by omega, h2, c⟩
def hdV : Option (Nat × Nat) -> Value
  | none => .tuple #[.int .i64 0, .int .i64 0, .bool false]
  | some p => .tuple #[.int .i64 p.1, .int .i64 p.2, .bool true]
set_option maxRecDepth 8000 in
set_option maxHeartbeats 1000000 in
theorem jo_head (s : B8) (hs : s.length = 128) (h : Heap) : Spec Tryd.prog 21 [str s] h [] (fun u _ H' => u = hdV (headM s) /\ H' = []) := by
  have hv := head_val hs
  have hg : getV s 5 4 = num s 5 4 := getV_num 5 4 (by omega) (by omega)
  have hn := num_lt s 5 4
  have hSe := jo_sealed s hs
  have hTr := strs_Trim (s.drop 10) (by rw [List.length_drop]; omega)
  have hdl : (s.drop 10).length = 118 := by rw [List.length_drop]; omega
  have hd4 : (s.drop 4).length = 124 := by rw [List.length_drop]; omega
  have hb4 : byteAt (s.drop 4) 0 = byteAt s 4 := byteAt_drop s 4 0
  have hG := octet_Get s 5 4 (by omega) (by omega) (by omega)
  have hb9 := byteAt_lt s 9
  rw [hdl] at hTr
  rw [hg] at hG
  generalize num s 5 4 = g at *
  generalize crcM (s.drop 4) = K at *
  generalize num s 0 4 = K2 at *
  generalize s.drop 4 = r at *
  refine Spec.enter Tryd.func21 rfl rfl ?_; intro w0
  repeat' (first | (show G _ (.ops .seq _ (⟨some _, .call { callee := .value (.func 34), args := _, argTypes := _ }, _, _, _, none⟩ :: _) :: _) _ _ _; refine G.call callSealed rfl rfl (hSe _) Ze ?_; rintro _ h2 H2 ⟨rfl, rfl⟩ hle2) | (show G _ (.ops .seq _ (⟨some _, .call { callee := .value (.func 35), args := _, argTypes := _ }, _, _, _, none⟩ :: _) :: _) _ _ _; refine G.call callGet7 rfl rfl (hG _) Ze ?_; rintro _ h3 H3 ⟨rfl, rfl⟩ hle3) | (show G _ (.ops .seq _ (⟨some _, .call { callee := .value (.func 36), args := _, argTypes := _ }, _, _, _, none⟩ :: _) :: _) _ _ _; refine G.call callTrim rfl rfl (hTr _) Ze ?_; rintro _ h4 H4 ⟨⟨q, rfl, hq⟩, rfl⟩ hle4) | (refine G.atCode ?_; first | refine G.seq ?_ | refine G.region ?_ | refine G.block ?_ | refine G.skip ?_ | refine G.drawAuto mixedOk rfl Zw ?_ | refine G.drawAll slB Zw mixedOk Zw ?_ | refine G.anyIn mixedOk ?_ | refine G.exit rfl ?_ | refine G.ret ?_ | (refine G.cond rfl ?_ ?_ <;> intro hc <;> (try simp only [tests, reduceCtorEq] at hc) <;> (try exact Zf))) | refine G.endOps ?_ | refine G.endStill ?_ | refine G.endHeld ?_ | refine G.back ?_ | refine G.endBlk ?_ | (refine G.atAny ?_; first | refine G.anyAutoX slB rfl rfl Zw Zg Zd ?_ | refine G.anyOne rfl Zw Zg Zu ?_ | refine G.anyAuto slB rfl Zw Zg Zu ?_ | refine G.anyEndX Zw ?_ | refine G.anyEnd Zw Zg Zu ?_ | refine G.anyTwo rfl Zw Zg Zu ?_ ?_) | (refine G.atGd ?_; first | refine G.guardYes rfl rfl ?_ | refine G.guardNoS rfl rfl rfl ?_ | refine G.guardU rfl rfl rfl ?_ | (refine G.guardS rfl rfl rfl ?_ ?_ <;> intro hc <;> (try simp only [tests, reduceCtorEq] at hc) <;> (try exact Zf)) | refine G.guardNo rfl rfl ?_ (by rintro i ⟨⟩; rfl) | (refine G.guard rfl rfl ?_ ?_ (by rintro i ⟨⟩; rfl) <;> intro hc <;> (try simp only [tests, reduceCtorEq] at hc) <;> (try exact Zf))) | (refine G.atBin ?_; first | (refine G.atEql ?_; first | refine G.op rfl rfl ?_ | refine G.eqStr0 rfl rfl rfl ?_ | refine G.eqStr rfl rfl rfl ?_ | refine G.eqPtr rfl rfl (tyy rfl) rfl ?_ | refine G.eqBool rfl rfl (tyy rfl) rfl ?_) | (refine G.atNeq ?_; first | refine G.op rfl rfl ?_ | refine G.neStr0 rfl rfl rfl ?_ | refine G.neStr rfl rfl rfl ?_ | refine G.nePtr rfl rfl (tyy rfl) rfl ?_ | refine G.neBool rfl rfl (tyy rfl) rfl ?_) | refine G.op rfl rfl ?_ ) | refine G.op rfl rfl ?_ | (refine G.atInd ?_; refine G.idxStr rfl rfl (tyy rfl) rfl Zj Zo ?_; intro _) | (refine G.atConv ?_; first | refine G.conv rfl (tyy rfl) (tyy rfl) rfl Zi ?_ | (refine G.convBytes rfl (tyy rfl) (tyy rfl) (tyy rfl) rfl Zo ?_; intro _) | refine G.convStr rfl (tyy rfl) (tyy rfl) (tyy rfl) Za rfl ?_ | refine G.convStrBlk1 rfl (tyy rfl) (tyy rfl) (tyy rfl) Za Zo rfl ?_ | refine G.convStrBlk2 rfl (tyy rfl) (tyy rfl) (tyy rfl) Za Zo Zo rfl ?_ | (refine G.convW rfl (tyy rfl) (tyy rfl) rfl ?_; intro hcw; (try simp only [inR] at hcw))) | (refine G.atSlc ?_; first | refine G.dropStr rfl rfl (tyy rfl) rfl Zj Zo ?_ | refine G.takeStr rfl rfl (tyy rfl) rfl Zj Zo ?_ | refine G.sliceStr rfl rfl rfl (tyy rfl) rfl Zj Zj Zo rfl ?_))
  all_goals first
    | exact G.done3 rfl rfl rfl rfl _ (SubH.nil _) ⟨by rw [hv, if_pos (by refine ⟨?_, ?_, ?_, ?_, ?_⟩ <;> first | assumption | omega | exact hq.1 (by omega))]; rfl, rfl⟩
    | exact G.done3 rfl rfl rfl rfl _ (SubH.nil _) ⟨by rw [hv, if_neg (by rintro ⟨h1, h2, h3, h4, h5⟩; first | contradiction | omega | exact absurd (hq.2 h5) (by omega))]; rfl, rfl⟩

end Go.Proofs.YtmbpjgjajedonaaDoor
