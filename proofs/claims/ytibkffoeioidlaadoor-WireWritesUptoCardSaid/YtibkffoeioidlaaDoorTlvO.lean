/- The reference's numbers: signed, Int, Number; TlvNumbers. -/
import Derived.Test.YtibkffoeioidlaaDoorTlvD
namespace Go.Proofs.YtibkffoeioidlaaDoor
set_option linter.all false
set_option maxRecDepth 4000
open Go.RowKit

theorem callRInt : Callable Tryd.prog 52 := ⟨_, Tryd.func52, by kernel_rfl, rfl⟩
def tcP (s : List UInt8) (i : Nat) : Int := if byteAt s 0 < 128 then beN (s.take i) else beN (s.take i) - 256 ^ i
theorem tcP_succ {s : List UInt8} {i : Nat} (hi : i < s.length) : tcP s (i + 1) = tcP s i * 256 + byteAt s i := by
  unfold tcP
  rw [take_succ_byte s i hi]
  split
  . omega
  . rw [Int.pow_succ]; omega
theorem tcP_all (s : List UInt8) : tcP s s.length = tcV s := by unfold tcP tcV; rw [List.take_length]
theorem tcP_range {s : List UInt8} {i : Nat} (hs : i < s.length) (hi : i <= 7) : -36028797018963968 <= tcP s i /\ tcP s i <= 36028797018963967 := by
  cases s with
  | nil => simp at hs
  | cons b l =>
    have hb := b.toNat_lt
    unfold tcP
    rw [byteAt_cons]
    cases i with
    | zero => simp [beN]; split <;> omega
    | succ i =>
      have hl := beN_lt (l.take i)
      simp only [List.length_cons] at hs
      have hle : (l.take i).length = i := by rw [List.length_take]; omega
      rw [List.take_succ_cons, beN_cons, hle]
      rw [hle] at hl
      generalize beN (l.take i) = x at *
      generalize b.toNat = c at *
      have hi' : i = 0 \/ i = 1 \/ i = 2 \/ i = 3 \/ i = 4 \/ i = 5 \/ i = 6 := by omega
      rcases hi' with rfl | rfl | rfl | rfl | rfl | rfl | rfl
      all_goals
        simp only [Nat.reduceAdd, Nat.reducePow, Int.reducePow] at hl ⊢
        split <;> omega

set_option maxRecDepth 8000 in
theorem ref_signed (s : List UInt8) (hs : 1 <= s.length /\ s.length <= 8) (h : Heap) : Spec Tryd.prog 84 [str s] h [] (fun v _ H' => H' = [] /\ v = .int .i64 (tcV s)) := by
  refine Spec.enter Tryd.func84 rfl rfl ?_; intro w0
  repeat' (first | (refine G.atCode ?_; first | refine G.seq ?_ | refine G.region ?_ | refine G.block ?_ | refine G.skip ?_ | refine G.exit rfl ?_ | refine G.ret ?_ | (refine G.cond rfl ?_ ?_ <;> intro hc <;> (try simp only [tests, reduceCtorEq] at hc) <;> (try exact Zf))) | refine G.endOps ?_ | refine G.endStill ?_ | refine G.endHeld ?_ | refine G.back ?_ | refine G.endBlk ?_ | (refine G.atBin ?_; first | (refine G.atAdd ?_; first | refine G.arith rfl rfl rfl rfl rfl Zi ?_ | refine G.catStr rfl rfl rfl Zo ?_ | refine G.op rfl rfl ?_) | (refine G.atMul ?_; first | refine G.arith rfl rfl rfl rfl rfl Zi ?_ | refine G.op rfl rfl ?_) | refine G.op rfl rfl ?_ ) | refine G.op rfl rfl ?_ | (refine G.atLen ?_; first | refine G.lenStr rfl (tyy rfl) rfl ?_ | refine G.lenSlice rfl (tyy rfl) rfl ?_ | refine G.lenRowB rfl (tyy rfl) Za rfl ?_ | refine G.lenRowS rfl (tyy rfl) Za rfl ?_ | refine G.lenRow rfl (tyy rfl) Za rfl ?_ | refine G.lenImmB rfl (tyy rfl) Zl rfl ?_ | refine G.lenImmI rfl (tyy rfl) Zl rfl ?_ | refine G.lenImmS rfl (tyy rfl) Zl rfl ?_ | refine G.lenImm rfl (tyy rfl) Zl rfl ?_) | (refine G.atInd ?_; refine G.idxStr rfl rfl (tyy rfl) rfl Zj Zo ?_; intro _) | (refine G.atConv ?_; first | refine G.conv rfl (tyy rfl) (tyy rfl) rfl Zi ?_ | (refine G.convBytes rfl (tyy rfl) (tyy rfl) (tyy rfl) rfl Zo ?_; intro _) | refine G.convStr rfl (tyy rfl) (tyy rfl) (tyy rfl) Za rfl ?_ | refine G.convStrBlk1 rfl (tyy rfl) (tyy rfl) (tyy rfl) Za Zo rfl ?_ | refine G.convStrBlk2 rfl (tyy rfl) (tyy rfl) (tyy rfl) Za Zo Zo rfl ?_ | (refine G.convW rfl (tyy rfl) (tyy rfl) rfl ?_; intro hcw; (try simp only [inR] at hcw))) )
  all_goals
    have h00 : tcP s 0 = (if byteAt s 0 < 128 then 0 else -1) := by unfold tcP; simp [beN]
    refine G.loop (σ := Nat) (fun i => [(4, .int .i64 i), (3, .int .i64 (tcP s i)), (0, str s)]) (fun _ => []) (fun i _ => i <= s.length) (fun i => s.length - i) 0
      ⟨rfl, sint (by rw [h00]; split <;> omega), rfl, trivial⟩ (SubH.nil _) (Nat.zero_le _) ?_
    intro i h1 hle hi
    have hr : i < s.length -> -36028797018963968 <= tcP s i /\ tcP s i <= 36028797018963967 := fun hlt => tcP_range hlt (by omega)
    clear h00
    repeat' (first | (refine G.atCode ?_; first | refine G.seq ?_ | refine G.region ?_ | refine G.block ?_ | refine G.skip ?_ | refine G.exit rfl ?_ | refine G.ret ?_ | (refine G.cond rfl ?_ ?_ <;> intro hc <;> (try simp only [tests, reduceCtorEq] at hc) <;> (try exact Zf))) | refine G.endOps ?_ | refine G.endStill ?_ | refine G.endHeld ?_ | refine G.back ?_ | refine G.endBlk ?_ | (refine G.atBin ?_; first | (refine G.atAdd ?_; first | refine G.arith rfl rfl rfl rfl rfl Zi ?_ | refine G.catStr rfl rfl rfl Zo ?_ | refine G.op rfl rfl ?_) | (refine G.atMul ?_; first | refine G.arith rfl rfl rfl rfl rfl Zi ?_ | refine G.op rfl rfl ?_) | refine G.op rfl rfl ?_ ) | refine G.op rfl rfl ?_ | (refine G.atLen ?_; first | refine G.lenStr rfl (tyy rfl) rfl ?_ | refine G.lenSlice rfl (tyy rfl) rfl ?_ | refine G.lenRowB rfl (tyy rfl) Za rfl ?_ | refine G.lenRowS rfl (tyy rfl) Za rfl ?_ | refine G.lenRow rfl (tyy rfl) Za rfl ?_ | refine G.lenImmB rfl (tyy rfl) Zl rfl ?_ | refine G.lenImmI rfl (tyy rfl) Zl rfl ?_ | refine G.lenImmS rfl (tyy rfl) Zl rfl ?_ | refine G.lenImm rfl (tyy rfl) Zl rfl ?_) | (refine G.atInd ?_; refine G.idxStr rfl rfl (tyy rfl) rfl Zj Zo ?_; intro _) | (refine G.atConv ?_; first | refine G.conv rfl (tyy rfl) (tyy rfl) rfl Zi ?_ | (refine G.convBytes rfl (tyy rfl) (tyy rfl) (tyy rfl) rfl Zo ?_; intro _) | refine G.convStr rfl (tyy rfl) (tyy rfl) (tyy rfl) Za rfl ?_ | refine G.convStrBlk1 rfl (tyy rfl) (tyy rfl) (tyy rfl) Za Zo rfl ?_ | refine G.convStrBlk2 rfl (tyy rfl) (tyy rfl) (tyy rfl) Za Zo Zo rfl ?_ | (refine G.convW rfl (tyy rfl) (tyy rfl) rfl ?_; intro hcw; (try simp only [inR] at hcw))) )
    . refine G.again (i + 1) ⟨sint (by omega), sint (by rw [tcP_succ (by omega)]), rfl, trivial⟩ (SubH.nil _) (by omega) (Heap.le_refl _) (by omega)
    . have he : i = s.length := by omega
      subst he
      exact G.done1 rfl rfl [] (SubH.nil _) ⟨rfl, by rw [tcP_all]⟩

theorem ref01_PutI (n : Int) (hn : 0 <= n /\ n <= 18446744073709551615) (s : Int) (hs : 0 <= s /\ s <= 8) (h : Heap) :
    Spec Tryd.prog 83 [.int .u64 n, .int .i64 s] h [] (fun v _ H' => H' = [] /\ v = str (putB n.toNat s.toNat)) := by
  obtain ⟨m, rfl⟩ := Int.eq_ofNat_of_zero_le hn.1
  obtain ⟨k, rfl⟩ := Int.eq_ofNat_of_zero_le hs.1
  exact ref01_Put m (by omega) k (by omega) h

set_option maxRecDepth 8000 in
theorem ref_Int (n : Int) (hn : inR .i64 n) (h : Heap) :
    Spec Tryd.prog 52 [.int .i64 n] h [] (fun v _ H' => H' = [] /\ v = str (putB (IntKind.u64.wrap n).toNat (intF n 7 1))) := by
  have hfit := fun k hk => tc_fit hn (k := k) hk
  have hn' := hn
  simp only [inR] at hn
  refine Spec.enter Tryd.func52 rfl rfl ?_; intro w0
  repeat' (first | (refine G.atCode ?_; first | refine G.seq ?_ | refine G.region ?_ | refine G.block ?_ | refine G.skip ?_ | refine G.exit rfl ?_ | refine G.ret ?_ | (refine G.cond rfl ?_ ?_ <;> intro hc <;> (try simp only [tests, reduceCtorEq] at hc) <;> (try exact Zf))) | refine G.endOps ?_ | refine G.endStill ?_ | refine G.endHeld ?_ | refine G.back ?_ | refine G.endBlk ?_ | (refine G.atBin ?_; first | (refine G.atAdd ?_; first | refine G.arith rfl rfl rfl rfl rfl Zi ?_ | refine G.catStr rfl rfl rfl Zo ?_ | refine G.op rfl rfl ?_) | (refine G.atEql ?_; first | refine G.op rfl rfl ?_ | refine G.eqStr0 rfl rfl rfl ?_ | refine G.eqStr rfl rfl rfl ?_ | refine G.eqPtr rfl rfl (tyy rfl) rfl ?_ | refine G.eqBool rfl rfl (tyy rfl) rfl ?_) | refine G.op rfl rfl ?_ ) | refine G.op rfl rfl ?_ | (refine G.atConv ?_; first | refine G.conv rfl (tyy rfl) (tyy rfl) rfl Zi ?_ | (refine G.convBytes rfl (tyy rfl) (tyy rfl) (tyy rfl) rfl Zo ?_; intro _) | refine G.convStr rfl (tyy rfl) (tyy rfl) (tyy rfl) Za rfl ?_ | refine G.convStrBlk1 rfl (tyy rfl) (tyy rfl) (tyy rfl) Za Zo rfl ?_ | refine G.convStrBlk2 rfl (tyy rfl) (tyy rfl) (tyy rfl) Za Zo Zo rfl ?_ | (refine G.convW rfl (tyy rfl) (tyy rfl) rfl ?_; intro hcw; (try simp only [inR] at hcw))) )
  refine G.loop (σ := Nat) (fun k => [(3, .int .i64 k), (0, .int .i64 n)]) (fun _ => []) (fun k _ => 1 <= k /\ k <= 8 /\ intF n (8 - k) k = intF n 7 1) (fun k => 8 - k) 1
    ⟨rfl, rfl, trivial⟩ (SubH.nil _) ⟨Nat.le_refl _, by omega, rfl⟩ ?_
  intro k h1 hle hk
  obtain ⟨hk1, hk2, hk3⟩ := hk
  have hfk := hfit k ⟨hk1, hk2⟩
  have hlen := putB_length (IntKind.u64.wrap n).toNat k
  clear hfit
  have hwr : 0 <= IntKind.u64.wrap n /\ IntKind.u64.wrap n <= 18446744073709551615 := wrap_inR .u64 n
  repeat' (first | (show G _ (.ops .seq _ (⟨some _, .call { callee := .value (.func 83), args := _, argTypes := _ }, _, _, _, none⟩ :: _) :: _) _ _ _; refine G.call callPut1 rfl rfl (ref01_PutI _ Zp _ (by omega) _) Ze ?_; rintro _ h2 H2 ⟨rfl, rfl⟩ hle2; (try rw [Int.toNat_natCast])) | (show G _ (.ops .seq _ (⟨some _, .call { callee := .value (.func 84), args := _, argTypes := _ }, _, _, _, none⟩ :: _) :: _) _ _ _; refine G.call callSigned rfl rfl (ref_signed _ (by omega) _) Ze ?_; rintro _ h2 H2 ⟨rfl, rfl⟩ hle2) | (refine G.atCode ?_; first | refine G.seq ?_ | refine G.region ?_ | refine G.block ?_ | refine G.skip ?_ | refine G.exit rfl ?_ | refine G.ret ?_ | (refine G.cond rfl ?_ ?_ <;> intro hc <;> (try simp only [tests, reduceCtorEq] at hc) <;> (try exact Zf))) | refine G.endOps ?_ | refine G.endStill ?_ | refine G.endHeld ?_ | refine G.back ?_ | refine G.endBlk ?_ | (refine G.atBin ?_; first | (refine G.atAdd ?_; first | refine G.arith rfl rfl rfl rfl rfl Zi ?_ | refine G.catStr rfl rfl rfl Zo ?_ | refine G.op rfl rfl ?_) | (refine G.atEql ?_; first | refine G.op rfl rfl ?_ | refine G.eqStr0 rfl rfl rfl ?_ | refine G.eqStr rfl rfl rfl ?_ | refine G.eqPtr rfl rfl (tyy rfl) rfl ?_ | refine G.eqBool rfl rfl (tyy rfl) rfl ?_) | refine G.op rfl rfl ?_ ) | refine G.op rfl rfl ?_ | (refine G.atConv ?_; first | refine G.conv rfl (tyy rfl) (tyy rfl) rfl Zi ?_ | (refine G.convBytes rfl (tyy rfl) (tyy rfl) (tyy rfl) rfl Zo ?_; intro _) | refine G.convStr rfl (tyy rfl) (tyy rfl) (tyy rfl) Za rfl ?_ | refine G.convStrBlk1 rfl (tyy rfl) (tyy rfl) (tyy rfl) Za Zo rfl ?_ | refine G.convStrBlk2 rfl (tyy rfl) (tyy rfl) (tyy rfl) Za Zo Zo rfl ?_ | (refine G.convW rfl (tyy rfl) (tyy rfl) rfl ?_; intro hcw; (try simp only [inR] at hcw))) )
  . refine G.done1 rfl rfl [] (SubH.nil _) ⟨rfl, ?_⟩
    rw [<- hk3]
    have hfit := hfk.1 Zp
    rw [intF_stop hk2 (by rw [exp_eq]; exact .inr hfit)]
  . refine G.again (k + 1) ⟨sint (by omega), rfl, trivial⟩ (SubH.nil _) ⟨by omega, by omega, ?_⟩ (by first | assumption | exact Heap.le_trans Zp Zp) (by omega)
    rw [<- hk3]
    have h0 : ¬ (n / 2 ^ (8 * k - 1) = 0 \/ n / 2 ^ (8 * k - 1) = -1) := fun e => absurd (hfk.2 e) Zp
    exact (intF_go Zp (by rw [exp_eq]; exact fun e => h0 (.inl e)) (by rw [exp_eq]; exact fun e => h0 (.inr e))).symm
  . refine G.done1 rfl rfl [] (SubH.nil _) ⟨rfl, ?_⟩
    have hk8 : k = 8 := by omega
    subst hk8
    rw [<- hk3]; rfl

theorem numOk_iff {s : List UInt8} (hs : 1 <= s.length /\ s.length <= 8) : numOk s = decide (putB (IntKind.u64.wrap (tcV s)).toNat (intF (tcV s) 7 1) = s) := by
  have hok : getOk s 0 s.length = true := by unfold getOk; simp; omega
  unfold numOk
  rw [hok, numV_tc hs, Bool.true_and]
theorem intF_fit {n : Int} (hn : inR .i64 n) : ∀ (f k : Nat), k + f = 8 -> 1 <= k -> (n / 2 ^ (8 * intF n f k - 1) = 0 \/ n / 2 ^ (8 * intF n f k - 1) = -1)
  | 0, k, h, _ => by
    have hk : k = 8 := by omega
    subst hk
    simp only [inR] at hn
    simp only [intF, Nat.reduceMul, Nat.reduceSub, Int.reducePow]
    omega
  | f + 1, k, h, h1 => by
    rw [intF]
    split
    . exact intF_fit hn f (k + 1) (by omega) (by omega)
    . rename_i hc
      by_cases h0 : n / 2 ^ (8 * k - 1) = 0
      . exact .inl h0
      . exact .inr (Classical.byContradiction fun h2 => hc ⟨h0, h2⟩)
theorem int_back {n : Int} (hn : inR .i64 n) : numOk (putB (IntKind.u64.wrap n).toNat (intF n 7 1)) = true /\ numV (putB (IntKind.u64.wrap n).toNat (intF n 7 1)) = n := by
  have hr := intF_range n 7 1
  have hl : 1 <= (putB (IntKind.u64.wrap n).toNat (intF n 7 1)).length /\ (putB (IntKind.u64.wrap n).toNat (intF n 7 1)).length <= 8 := by rw [putB_length]; omega
  have ht : tcV (putB (IntKind.u64.wrap n).toNat (intF n 7 1)) = n := (tc_fit hn ⟨by omega, by omega⟩).2 (intF_fit hn 7 1 rfl (by omega))
  rw [numOk_iff hl, numV_tc hl, ht]
  exact ⟨by simp, rfl⟩

end Go.Proofs.YtibkffoeioidlaaDoor
