/- Walk of tlv.Int. -/
import Derived.Test.YtibkffoeioidlaaDoorTlvA
namespace Go.Proofs.YtibkffoeioidlaaDoor
set_option linter.all false
set_option maxRecDepth 4000
open Go.RowKit

def intF (n : Int) : Nat → Nat → Nat
  | 0, k => k
  | f + 1, k => if n / 2 ^ (8 * k - 1) ≠ 0 ∧ n / 2 ^ (8 * k - 1) ≠ -1 then intF n f (k + 1) else k
theorem intF_range (n : Int) : ∀ (f k : Nat), k ≤ intF n f k ∧ intF n f k ≤ k + f
  | 0, k => by simp [intF]
  | f + 1, k => by
    have := intF_range n f (k + 1)
    unfold intF
    split <;> omega

theorem exp_eq (k : Nat) : (8 * (k : Int) - 1).toNat = 8 * k - 1 := by omega
theorem intF_go {n : Int} {k : Nat} (h : (k : Int) < 8) (h0 : ¬ n / 2 ^ (8 * (k : Int) - 1).toNat = 0) (h1 : ¬ n / 2 ^ (8 * (k : Int) - 1).toNat = -1) : intF n (8 - k) k = intF n (8 - (k + 1)) (k + 1) := by
  rw [exp_eq] at h0 h1
  rw [show 8 - k = (8 - (k + 1)) + 1 by omega]
  rw [intF, if_pos ⟨h0, h1⟩]
theorem intF_stop {n : Int} {k : Nat} (hk : k ≤ 8) (h : ¬ (k : Int) < 8 ∨ n / 2 ^ (8 * (k : Int) - 1).toNat = 0 ∨ n / 2 ^ (8 * (k : Int) - 1).toNat = -1) : intF n (8 - k) k = k := by
  rw [exp_eq] at h
  by_cases h8 : k = 8
  · subst h8; rfl
  · rw [show 8 - k = (8 - (k + 1)) + 1 by omega, intF, if_neg]
    intro hh
    rcases h with h | h | h
    · omega
    · exact hh.1 h
    · exact hh.2 h
theorem octet_PutI (n : Int) (hn : 0 ≤ n ∧ n ≤ 18446744073709551615) (s : Int) (hs : 1 ≤ s ∧ s ≤ 8) (h : Heap) :
    Spec Tryd.prog 102 [.int .u64 n, .int .i64 s] h [] (fun v _ H' => H' = [] ∧ v = str (putB n.toNat s.toNat)) := by
  obtain ⟨m, rfl⟩ := Int.eq_ofNat_of_zero_le hn.1
  exact octet_Put m (by omega) s hs h

set_option maxRecDepth 8000 in
set_option maxHeartbeats 1000000 in
theorem tlv_Int (n : Int) (hn : inR .i64 n) (h : Heap) :
    Spec Tryd.prog 74 [.int .i64 n] h [] (fun v _ H' => H' = [] ∧ v = str (putB (IntKind.u64.wrap n).toNat (intF n 7 1))) := by
  simp only [inR] at hn
  refine Spec.enter Tryd.func74 rfl rfl ?_; intro w0
  repeat' (first | (refine G.atCode ?_; first | refine G.seq ?_ | refine G.region ?_ | refine G.block ?_) | refine G.endOps ?_ | refine G.op rfl rfl ?_)
  refine G.loop (σ := Nat) (fun k => [(3, .int .i64 k), (0, .int .i64 n)]) (fun _ => []) (fun k _ => 1 ≤ k ∧ k ≤ 8 ∧ intF n (8 - k) k = intF n 7 1) (fun k => 8 - k) 1
    ⟨rfl, rfl, trivial⟩ (SubH.nil _) ⟨Nat.le_refl _, by omega, rfl⟩ ?_
  intro k h1 hle hk
  obtain ⟨hk1, hk2, hk3⟩ := hk
  have hwr : 0 ≤ IntKind.u64.wrap n ∧ IntKind.u64.wrap n ≤ 18446744073709551615 := wrap_inR .u64 n
  repeat' (first | (show G _ (.ops .seq _ (⟨some _, .call { callee := .value (.func 102), args := _, argTypes := _ }, _, _, _, none⟩ :: _) :: _) _ _ _; refine G.call callPut7 rfl rfl (octet_PutI _ (by assumption) _ (by omega) _) (by solve | (repeat (first | apply Takes.nil | apply Take.hd | apply Take.tl | apply Takes.cons))) ?_; rintro _ h2 H2 ⟨rfl, rfl⟩ hle2) | (refine G.atCode ?_; first | refine G.seq ?_ | refine G.region ?_ | refine G.block ?_ | refine G.skip ?_ | refine G.exit rfl ?_ | refine G.ret ?_ | (refine G.cond rfl ?_ ?_ <;> intro hc <;> (try simp only [tests, reduceCtorEq] at hc) <;> (try (exfalso; first | omega | exact absurd hc (by with_reducible assumption) | exact absurd (by with_reducible assumption) hc | exact Bool.noConfusion hc | exact hc | exact hc trivial | fail)))) | refine G.endOps ?_ | refine G.endBlk ?_ | (refine G.atGd ?_; first | refine G.guardYes rfl rfl ?_ | refine G.guardNoS rfl rfl rfl ?_ | (refine G.guardS rfl rfl rfl ?_ ?_ <;> intro hc <;> (try simp only [tests, reduceCtorEq] at hc) <;> (try (exfalso; first | omega | exact absurd hc (by with_reducible assumption) | exact absurd (by with_reducible assumption) hc | exact Bool.noConfusion hc | exact hc | exact hc trivial | fail)))) | (refine G.atBin ?_; first | (refine G.atAdd ?_; first | refine G.arith rfl rfl rfl rfl rfl (by simp only [inR]; omega) ?_) | (refine G.atSub ?_; first | refine G.arith rfl rfl rfl rfl rfl (by simp only [inR]; omega) ?_) | (refine G.atMul ?_; first | refine G.arith rfl rfl rfl rfl rfl (by simp only [inR]; omega) ?_) | (refine G.atNeq ?_; first | refine G.op rfl rfl ?_) | (refine G.atShr ?_; refine G.shr rfl rfl (by first | (simp only [Int.reduceToNat]; rfl) | with_reducible apply Int.toNat_natCast | exact Eq.refl _) rfl (by simp only [IntKind.bits]; omega) rfl ?_) | refine G.op rfl rfl ?_) | refine G.op rfl rfl ?_ | (refine G.atConv ?_; first | (refine G.convW rfl (tyy rfl) (tyy rfl) rfl ?_; intro hcw; (try simp only [inR] at hcw))))
  · refine G.again (k + 1) ⟨sint (by omega), rfl, trivial⟩ (SubH.nil _) ⟨by omega, by omega, ?_⟩ (Heap.le_refl _) (by omega)
    rw [← hk3]
    exact (intF_go (by assumption) (by assumption) (by assumption)).symm
  all_goals
    refine G.done1 rfl rfl [] (SubH.nil _) ⟨rfl, ?_⟩
    rw [← hk3, intF_stop hk2 (by first | exact .inl (by assumption) | exact .inr (.inl (by assumption)) | exact .inr (.inr (by assumption))), Int.toNat_natCast]
end Go.Proofs.YtibkffoeioidlaaDoor
namespace Go.Proofs.YtibkffoeioidlaaDoor
set_option linter.all false
set_option maxRecDepth 4000
open Go.RowKit

theorem callInt : Callable Tryd.prog 74 := ⟨_, Tryd.func74, by kernel_rfl, rfl⟩

theorem div_inR {a : Int} (p : Nat) (h : inR .i64 a) : inR .i64 (a / 2 ^ p) := by
  simp only [inR] at *
  have hp : (1 : Int) ≤ 2 ^ p := by have := Int.pow_pos (n := 2) (m := p) (by decide); omega
  generalize (2 : Int) ^ p = q at *
  constructor
  · refine (Int.le_ediv_iff_mul_le (by omega)).2 ?_
    have := Int.mul_le_mul_of_nonpos_left (show (-9223372036854775808 : Int) ≤ 0 by decide) hp
    omega
  · refine Int.lt_add_one_iff.1 ((Int.ediv_lt_iff_lt_mul (by omega)).2 ?_)
    have := Int.mul_le_mul_of_nonneg_left hp (show (0 : Int) ≤ 9223372036854775808 by decide)
    omega
def numV (s : List UInt8) : Int := IntKind.i64.wrap (IntKind.u64.wrap (getV s 0 s.length * 2 ^ (min (64 - 8 * (s.length : Int)).toNat 64))) / 2 ^ (64 - 8 * (s.length : Int)).toNat
def numOk (s : List UInt8) : Bool := getOk s 0 s.length && decide (putB (IntKind.u64.wrap (numV s)).toNat (intF (numV s) 7 1) = s)

set_option maxRecDepth 8000 in
set_option maxHeartbeats 1000000 in
theorem tlv_Number (s : List UInt8) (hs : s.length ≤ 9223372036854775807) (h : Heap) :
    Spec Tryd.prog 106 [str s] h [] (fun v _ H' => H' = [] ∧ v = .tuple #[.int .i64 (if numOk s then numV s else 0), .bool (numOk s)]) := by
  by_cases hok : getOk s 0 s.length = true
  · have hg2 : 1 ≤ s.length ∧ s.length ≤ 8 := by unfold getOk at hok; simp only [decide_eq_true_eq] at hok; omega
    refine Spec.enter Tryd.func106 rfl rfl ?_; intro w0
    repeat' (first | (refine G.shlW rfl rfl (by first | (simp only [Int.reduceToNat]; rfl) | with_reducible apply Int.toNat_natCast | exact Eq.refl _) rfl (by omega) ?_) | (show G _ (.ops .seq _ (⟨some _, .call { callee := .value (.func 96), args := _, argTypes := _ }, _, _, _, none⟩ :: _) :: _) _ _ _; refine G.call callGet7 rfl rfl (octet_Get _ _ _ (by omega) (by omega) (by omega) _) (by solve | (repeat (first | apply Takes.nil | apply Take.hd | apply Take.tl | apply Takes.cons))) ?_; rintro _ h1 H1 ⟨rfl, rfl⟩ hle; rw [hok]) | (show G _ (.ops .seq _ (⟨some _, .call { callee := .value (.func 74), args := _, argTypes := _ }, _, _, _, none⟩ :: _) :: _) _ _ _; refine G.call callInt rfl rfl (tlv_Int _ (div_inR _ (wrap_inR .i64 _)) _) (by solve | (repeat (first | apply Takes.nil | apply Take.hd | apply Take.tl | apply Takes.cons))) ?_; rintro _ h2 H2 ⟨rfl, rfl⟩ hle2) | (refine G.atCode ?_; first | refine G.seq ?_ | refine G.region ?_ | refine G.skip ?_ | refine G.ret ?_ | (refine G.cond rfl ?_ ?_ <;> intro hc <;> (try simp only [tests, reduceCtorEq] at hc) <;> (try (exfalso; first | omega | exact absurd hc (by with_reducible assumption) | exact absurd (by with_reducible assumption) hc | exact Bool.noConfusion hc | exact hc | exact hc trivial | fail)))) | refine G.endOps ?_ | (refine G.atBin ?_; first | (refine G.atSub ?_; first | refine G.arith rfl rfl rfl rfl rfl (by simp only [inR]; omega) ?_) | (refine G.atMul ?_; first | refine G.arith rfl rfl rfl rfl rfl (by simp only [inR]; omega) ?_) | (refine G.atNeq ?_; first | refine G.neStr rfl rfl rfl ?_) | (refine G.atShr ?_; refine G.shr rfl rfl (by first | (simp only [Int.reduceToNat]; rfl) | with_reducible apply Int.toNat_natCast | exact Eq.refl _) rfl (by simp only [IntKind.bits]; omega) rfl ?_)) | refine G.op rfl rfl ?_ | (refine G.atLen ?_; first | refine G.lenStr rfl (tyy rfl) rfl ?_) | (refine G.atConv ?_; first | (refine G.convW rfl (tyy rfl) (tyy rfl) rfl ?_; intro hcw; (try simp only [inR] at hcw))))
    · have hk : numOk s = false := by unfold numOk; rw [hok, Bool.true_and]; exact decide_eq_false hc
      refine G.done2 rfl rfl rfl [] (SubH.nil _) ⟨rfl, ?_⟩
      rw [hk]; rfl
    · have hk : numOk s = true := by unfold numOk; rw [hok, Bool.true_and]; exact decide_eq_true hc
      refine G.done2 rfl rfl rfl [] (SubH.nil _) ⟨rfl, ?_⟩
      rw [hk]; rfl
  · have hok' : getOk s 0 s.length = false := by simpa using hok
    refine Spec.enter Tryd.func106 rfl rfl ?_; intro w0
    repeat' (first | (show G _ (.ops .seq _ (⟨some _, .call { callee := .value (.func 96), args := _, argTypes := _ }, _, _, _, none⟩ :: _) :: _) _ _ _; refine G.call callGet7 rfl rfl (octet_Get _ _ _ (by omega) (by omega) (by omega) _) (by solve | (repeat (first | apply Takes.nil | apply Take.hd | apply Take.tl | apply Takes.cons))) ?_; rintro _ h1 H1 ⟨rfl, rfl⟩ hle; rw [hok']) | (refine G.atCode ?_; first | refine G.seq ?_ | refine G.region ?_ | refine G.ret ?_ | (refine G.cond rfl ?_ ?_ <;> intro hc <;> (try simp only [tests, reduceCtorEq] at hc) <;> (try (exfalso; first | omega | exact absurd hc (by with_reducible assumption) | exact absurd (by with_reducible assumption) hc | exact Bool.noConfusion hc | exact hc | exact hc trivial | fail)))) | refine G.endOps ?_ | refine G.op rfl rfl ?_ | (refine G.atLen ?_; first | refine G.lenStr rfl (tyy rfl) rfl ?_))
    have hk : numOk s = false := by unfold numOk; rw [hok']; rfl
    refine G.done2 rfl rfl rfl [] (SubH.nil _) ⟨rfl, ?_⟩
    rw [hk]; rfl
end Go.Proofs.YtibkffoeioidlaaDoor
namespace Go.Proofs.YtibkffoeioidlaaDoor
set_option linter.all false
set_option maxRecDepth 4000
open Go.RowKit

set_option maxRecDepth 8000 in
set_option maxHeartbeats 1000000 in
theorem tlv_Bool (s : List UInt8) (h : Heap) :
    Spec Tryd.prog 108 [str s] h [] (fun v _ H' => H' = [] ∧ v = .tuple #[.bool (decide (s = [255])), .bool (decide (s = [255] ∨ s = [0]))]) := by
  refine Spec.enter Tryd.func108 rfl rfl ?_; intro w0
  repeat' (first | (refine G.atCode ?_; first | refine G.seq ?_ | refine G.region ?_ | refine G.block ?_ | refine G.skip ?_ | refine G.exit rfl ?_ | refine G.ret ?_ | (refine G.cond rfl ?_ ?_ <;> intro hc <;> (try simp only [tests, reduceCtorEq] at hc) <;> (try (exfalso; first | omega | exact absurd hc (by with_reducible assumption) | exact absurd (by with_reducible assumption) hc | exact Bool.noConfusion hc | exact hc | exact hc trivial | fail)))) | refine G.endOps ?_ | refine G.endStill ?_ | refine G.endHeld ?_ | refine G.back ?_ | refine G.endBlk ?_ | (refine G.atGd ?_; first | refine G.guardYes rfl rfl ?_ | refine G.guardNoS rfl rfl rfl ?_ | refine G.guardU rfl rfl rfl ?_ | (refine G.guardS rfl rfl rfl ?_ ?_ <;> intro hc <;> (try simp only [tests, reduceCtorEq] at hc) <;> (try (exfalso; first | omega | exact absurd hc (by with_reducible assumption) | exact absurd (by with_reducible assumption) hc | exact Bool.noConfusion hc | exact hc | exact hc trivial | fail))) | refine G.guardNo rfl rfl ?_ (by rintro i ⟨⟩; rfl) | (refine G.guard rfl rfl ?_ ?_ (by rintro i ⟨⟩; rfl) <;> intro hc <;> (try simp only [tests, reduceCtorEq] at hc) <;> (try (exfalso; first | omega | exact absurd hc (by with_reducible assumption) | exact absurd (by with_reducible assumption) hc | exact Bool.noConfusion hc | exact hc | exact hc trivial | fail)))) | (refine G.atBin ?_; first | (refine G.atEql ?_; first | refine G.op rfl rfl ?_ | refine G.eqStr0 rfl rfl rfl ?_ | refine G.eqStr rfl rfl rfl ?_ | refine G.eqPtr rfl rfl (tyy rfl) rfl ?_ | refine G.eqBool rfl rfl (tyy rfl) rfl ?_) | refine G.op rfl rfl ?_ ) | refine G.op rfl rfl ?_              )
  · exact G.done2 rfl rfl rfl [] (SubH.nil _) ⟨rfl, by simp [hc]⟩
  · exact G.done2 rfl rfl rfl [] (SubH.nil _) ⟨rfl, by simp [hc]⟩

-- what the reference says of numbers
theorem callPut1 : Callable Tryd.prog 83 := ⟨_, Tryd.func83, by kernel_rfl, rfl⟩
theorem callSigned : Callable Tryd.prog 84 := ⟨_, Tryd.func84, by kernel_rfl, rfl⟩
end Go.Proofs.YtibkffoeioidlaaDoor
