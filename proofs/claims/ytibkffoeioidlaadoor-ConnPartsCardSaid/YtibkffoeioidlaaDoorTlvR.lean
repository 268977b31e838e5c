/- Walk of tlv.Number. -/
import Derived.Test.YtibkffoeioidlaaDoorWrE
namespace Go.Proofs.YtibkffoeioidlaaDoor
set_option linter.all false
set_option maxRecDepth 4000
open Go.RowKit

theorem callInt : Callable Tryd.prog 74 := ⟨_, Tryd.func74, by kernel_rfl, rfl⟩

theorem div_inR {a : Int} (p : Nat) (h : inR .i64 a) : inR .i64 (a / 2 ^ p) := by
  simp only [inR] at *
  have hp : (1 : Int) ≤ 2 ^ p := by have := Int.pow_pos (n := 2) (m := p) (by decide); omega
  generalize (2 : Int) ^ p = q at *
  constructor
  · refine (Int.le_ediv_iff_mul_le (by omega)).2 ?_
    have := Int.mul_le_mul_of_nonpos_left (show (-9223372036854775808 : Int) ≤ 0 by decide) hp
    omega
  · refine Int.lt_add_one_iff.1 ((Int.ediv_lt_iff_lt_mul (by omega)).2 ?_)
    have := Int.mul_le_mul_of_nonneg_left hp (show (0 : Int) ≤ 9223372036854775808 by decide)
    omega
def numV (s : List UInt8) : Int := IntKind.i64.wrap (IntKind.u64.wrap (getV s 0 s.length * 2 ^ (min (64 - 8 * (s.length : Int)).toNat 64))) / 2 ^ (64 - 8 * (s.length : Int)).toNat
def numOk (s : List UInt8) : Bool := getOk s 0 s.length && decide (putB (IntKind.u64.wrap (numV s)).toNat (intF (numV s) 7 1) = s)

set_option maxRecDepth 8000 in
set_option maxHeartbeats 1000000 in
theorem tlv_Number (s : List UInt8) (hs : s.length ≤ 9223372036854775807) (h : Heap) :
    Spec Tryd.prog 106 [str s] h [] (fun v _ H' => H' = [] ∧ v = .tuple #[.int .i64 (if numOk s then numV s else 0), .bool (numOk s)]) := by
  by_cases hok : getOk s 0 s.length = true
  · have hg2 : 1 ≤ s.length ∧ s.length ≤ 8 := by unfold getOk at hok; simp only [decide_eq_true_eq] at hok; omega
    refine Spec.enter Tryd.func106 rfl rfl ?_; intro w0
    repeat' (first | (refine G.shlW rfl rfl (by first | (simp only [Int.reduceToNat]; rfl) | with_reducible apply Int.toNat_natCast | exact Eq.refl _) rfl (by omega) ?_) | (show G _ (.ops .seq _ (⟨some _, .call { callee := .value (.func 96), args := _, argTypes := _ }, _, _, _, none⟩ :: _) :: _) _ _ _; refine G.call callGet7 rfl rfl (octet_Get _ _ _ (by omega) (by omega) (by omega) _) (by solve | (repeat (first | apply Takes.nil | apply Take.hd | apply Take.tl | apply Takes.cons))) ?_; rintro _ h1 H1 ⟨rfl, rfl⟩ hle; rw [hok]) | (show G _ (.ops .seq _ (⟨some _, .call { callee := .value (.func 74), args := _, argTypes := _ }, _, _, _, none⟩ :: _) :: _) _ _ _; refine G.call callInt rfl rfl (tlv_Int _ (div_inR _ (wrap_inR .i64 _)) _) (by solve | (repeat (first | apply Takes.nil | apply Take.hd | apply Take.tl | apply Takes.cons))) ?_; rintro _ h2 H2 ⟨rfl, rfl⟩ hle2) | (refine G.atCode ?_; first | refine G.seq ?_ | refine G.region ?_ | refine G.skip ?_ | refine G.ret ?_ | (refine G.cond rfl ?_ ?_ <;> intro hc <;> (try simp only [tests, reduceCtorEq] at hc) <;> (try (exfalso; first | omega | exact absurd hc (by with_reducible assumption) | exact absurd (by with_reducible assumption) hc | exact Bool.noConfusion hc | exact hc | exact hc trivial | fail)))) | refine G.endOps ?_ | (refine G.atBin ?_; first | (refine G.atSub ?_; first | refine G.arith rfl rfl rfl rfl rfl (by simp only [inR]; omega) ?_) | (refine G.atMul ?_; first | refine G.arith rfl rfl rfl rfl rfl (by simp only [inR]; omega) ?_) | (refine G.atNeq ?_; first | refine G.neStr rfl rfl rfl ?_) | (refine G.atShr ?_; refine G.shr rfl rfl (by first | (simp only [Int.reduceToNat]; rfl) | with_reducible apply Int.toNat_natCast | exact Eq.refl _) rfl (by simp only [IntKind.bits]; omega) rfl ?_)) | refine G.op rfl rfl ?_ | (refine G.atLen ?_; first | refine G.lenStr rfl (tyy rfl) rfl ?_) | (refine G.atConv ?_; first | (refine G.convW rfl (tyy rfl) (tyy rfl) rfl ?_; intro hcw; (try simp only [inR] at hcw))))
    · have hk : numOk s = false := by unfold numOk; rw [hok, Bool.true_and]; exact decide_eq_false hc
      refine G.done2 rfl rfl rfl [] (SubH.nil _) ⟨rfl, ?_⟩
      rw [hk]; rfl
    · have hk : numOk s = true := by unfold numOk; rw [hok, Bool.true_and]; exact decide_eq_true hc
      refine G.done2 rfl rfl rfl [] (SubH.nil _) ⟨rfl, ?_⟩
      rw [hk]; rfl
  · have hok' : getOk s 0 s.length = false := by simpa using hok
    refine Spec.enter Tryd.func106 rfl rfl ?_; intro w0
    repeat' (first | (show G _ (.ops .seq _ (⟨some _, .call { callee := .value (.func 96), args := _, argTypes := _ }, _, _, _, none⟩ :: _) :: _) _ _ _; refine G.call callGet7 rfl rfl (octet_Get _ _ _ (by omega) (by omega) (by omega) _) (by solve | (repeat (first | apply Takes.nil | apply Take.hd | apply Take.tl | apply Takes.cons))) ?_; rintro _ h1 H1 ⟨rfl, rfl⟩ hle; rw [hok']) | (refine G.atCode ?_; first | refine G.seq ?_ | refine G.region ?_ | refine G.ret ?_ | (refine G.cond rfl ?_ ?_ <;> intro hc <;> (try simp only [tests, reduceCtorEq] at hc) <;> (try (exfalso; first | omega | exact absurd hc (by with_reducible assumption) | exact absurd (by with_reducible assumption) hc | exact Bool.noConfusion hc | exact hc | exact hc trivial | fail)))) | refine G.endOps ?_ | refine G.op rfl rfl ?_ | (refine G.atLen ?_; first | refine G.lenStr rfl (tyy rfl) rfl ?_))
    have hk : numOk s = false := by unfold numOk; rw [hok']; rfl
    refine G.done2 rfl rfl rfl [] (SubH.nil _) ⟨rfl, ?_⟩
    rw [hk]; rfl
end Go.Proofs.YtibkffoeioidlaaDoor
namespace Go.Proofs.YtibkffoeioidlaaDoor
set_option linter.all false
set_option maxRecDepth 4000
open Go.RowKit

set_option maxRecDepth 8000 in
set_option maxHeartbeats 1000000 in
theorem tlv_Bool (s : List UInt8) (h : Heap) :
    Spec Tryd.prog 108 [str s] h [] (fun v _ H' => H' = [] ∧ v = .tuple #[.bool (decide (s = [255])), .bool (decide (s = [255] ∨ s = [0]))]) := by
  refine Spec.enter Tryd.func108 rfl rfl ?_; intro w0
  repeat' (first | (refine G.atCode ?_; first | refine G.seq ?_ | refine G.region ?_ | refine G.block ?_ | refine G.skip ?_ | refine G.exit rfl ?_ | refine G.ret ?_ | (refine G.cond rfl ?_ ?_ <;> intro hc <;> (try simp only [tests, reduceCtorEq] at hc) <;> (try (exfalso; first | omega | exact absurd hc (by with_reducible assumption) | exact absurd (by with_reducible assumption) hc | exact Bool.noConfusion hc | exact hc | exact hc trivial | fail)))) | refine G.endOps ?_ | refine G.endStill ?_ | refine G.endHeld ?_ | refine G.back ?_ | refine G.endBlk ?_ | (refine G.atGd ?_; first | refine G.guardYes rfl rfl ?_ | refine G.guardNoS rfl rfl rfl ?_ | refine G.guardU rfl rfl rfl ?_ | (refine G.guardS rfl rfl rfl ?_ ?_ <;> intro hc <;> (try simp only [tests, reduceCtorEq] at hc) <;> (try (exfalso; first | omega | exact absurd hc (by with_reducible assumption) | exact absurd (by with_reducible assumption) hc | exact Bool.noConfusion hc | exact hc | exact hc trivial | fail))) | refine G.guardNo rfl rfl ?_ (by rintro i ⟨⟩; rfl) | (refine G.guard rfl rfl ?_ ?_ (by rintro i ⟨⟩; rfl) <;> intro hc <;> (try simp only [tests, reduceCtorEq] at hc) <;> (try (exfalso; first | omega | exact absurd hc (by with_reducible assumption) | exact absurd (by with_reducible assumption) hc | exact Bool.noConfusion hc | exact hc | exact hc trivial | fail)))) | (refine G.atBin ?_; first | (refine G.atEql ?_; first | refine G.op rfl rfl ?_ | refine G.eqStr0 rfl rfl rfl ?_ | refine G.eqStr rfl rfl rfl ?_ | refine G.eqPtr rfl rfl (tyy rfl) rfl ?_ | refine G.eqBool rfl rfl (tyy rfl) rfl ?_) | refine G.op rfl rfl ?_ ) | refine G.op rfl rfl ?_              )
  · exact G.done2 rfl rfl rfl [] (SubH.nil _) ⟨rfl, by simp [hc]⟩
  · exact G.done2 rfl rfl rfl [] (SubH.nil _) ⟨rfl, by simp [hc]⟩

-- what the reference says of numbers
theorem callPut1 : Callable Tryd.prog 83 := ⟨_, Tryd.func83, by kernel_rfl, rfl⟩
theorem callSigned : Callable Tryd.prog 84 := ⟨_, Tryd.func84, by kernel_rfl, rfl⟩
end Go.Proofs.YtibkffoeioidlaaDoor
namespace Go.Proofs.YtibkffoeioidlaaDoor
set_option linter.all false
set_option maxRecDepth 4000
open Go.RowKit

set_option maxRecDepth 8000 in
set_option maxHeartbeats 1000000 in
theorem ref01_Put (n : Nat) (hn : n < 18446744073709551616) (m : Nat) (hm : m ≤ 8) (h : Heap) :
    Spec Tryd.prog 83 [.int .u64 n, .int .i64 m] h [] (fun v _ H' => H' = [] ∧ v = str (putB n m)) := by
  refine Spec.enter Tryd.func83 rfl rfl ?_; intro w0
  repeat' (first | (refine G.atCode ?_; first | refine G.seq ?_ | refine G.region ?_ | refine G.block ?_ | refine G.skip ?_ | refine G.exit rfl ?_ | refine G.ret ?_ | (refine G.cond rfl ?_ ?_ <;> intro hc <;> (try simp only [tests, reduceCtorEq] at hc) <;> (try (exfalso; first | omega | exact absurd hc (by with_reducible assumption) | exact absurd (by with_reducible assumption) hc | exact Bool.noConfusion hc | exact hc | exact hc trivial | fail)))) | refine G.endOps ?_ | refine G.endStill ?_ | refine G.endHeld ?_ | refine G.back ?_ | refine G.endBlk ?_ | (refine G.atGd ?_; first | refine G.guardYes rfl rfl ?_ | refine G.guardNoS rfl rfl rfl ?_ | refine G.guardU rfl rfl rfl ?_ | (refine G.guardS rfl rfl rfl ?_ ?_ <;> intro hc <;> (try simp only [tests, reduceCtorEq] at hc) <;> (try (exfalso; first | omega | exact absurd hc (by with_reducible assumption) | exact absurd (by with_reducible assumption) hc | exact Bool.noConfusion hc | exact hc | exact hc trivial | fail))) | refine G.guardNo rfl rfl ?_ (by rintro i ⟨⟩; rfl) | (refine G.guard rfl rfl ?_ ?_ (by rintro i ⟨⟩; rfl) <;> intro hc <;> (try simp only [tests, reduceCtorEq] at hc) <;> (try (exfalso; first | omega | exact absurd hc (by with_reducible assumption) | exact absurd (by with_reducible assumption) hc | exact Bool.noConfusion hc | exact hc | exact hc trivial | fail)))) | (refine G.atBin ?_; first | (refine G.atAdd ?_; first | refine G.arith rfl rfl rfl rfl rfl (by simp only [inR]; omega) ?_ | refine G.catStr rfl rfl rfl (by first | omega | (simp only [lens] at *; omega)) ?_ | refine G.op rfl rfl ?_) | (refine G.atRem ?_; first | (refine G.rem rfl rfl rfl rfl (by first | omega | (simp only [lens] at *; omega)) ?_; intro _ _ _) | refine G.remT rfl rfl rfl rfl (by first | omega | (simp only [lens] at *; omega)) ?_) | (refine G.atQuo ?_; refine G.quo rfl rfl rfl rfl (by first | omega | (simp only [lens] at *; omega)) (by simp only [inR]; omega) ?_) | refine G.op rfl rfl ?_ ) | refine G.op rfl rfl ?_ | (refine G.atBsl ?_; refine G.buildSlice (tyy rfl) (tyy rfl) rfl rfl rfl rfl ?_; intro _) | (refine G.atConv ?_; first | refine G.conv rfl (tyy rfl) (tyy rfl) rfl (by simp only [inR]; omega) ?_ | (refine G.convBytes rfl (tyy rfl) (tyy rfl) (tyy rfl) rfl (by first | omega | (simp only [lens] at *; omega)) ?_; intro _) | refine G.convStr rfl (tyy rfl) (tyy rfl) (tyy rfl) (by solve | (repeat (first | apply Take.hd | apply Take.tl))) rfl ?_ | refine G.convStrBlk1 rfl (tyy rfl) (tyy rfl) (tyy rfl) (by solve | (repeat (first | apply Take.hd | apply Take.tl))) (by first | omega | (simp only [lens] at *; omega)) rfl ?_ | refine G.convStrBlk2 rfl (tyy rfl) (tyy rfl) (tyy rfl) (by solve | (repeat (first | apply Take.hd | apply Take.tl))) (by first | omega | (simp only [lens] at *; omega)) (by first | omega | (simp only [lens] at *; omega)) rfl ?_ | (refine G.convW rfl (tyy rfl) (tyy rfl) rfl ?_; intro hcw; (try simp only [inR] at hcw))) )
  refine G.loop (σ := Nat) (fun i => [(6, .int .i64 i), (5, str (putB n i)), (1, .int .i64 m), (0, .int .u64 (n / 256 ^ i : Nat))]) (fun _ => []) (fun i _ => i ≤ m) (fun i => m - i) 0
    ⟨rfl, rfl, rfl, sint (by simp), trivial⟩ (SubH.nil _) (Nat.zero_le _) ?_
  intro i h1 hle hi
  have hq : n / 256 ^ i < 18446744073709551616 := Nat.lt_of_le_of_lt (Nat.div_le_self _ _) hn
  have hl := putB_length n i
  generalize hnn : n / 256 ^ i = q at *
  repeat' (first | (refine G.atCode ?_; first | refine G.seq ?_ | refine G.region ?_ | refine G.block ?_ | refine G.skip ?_ | refine G.exit rfl ?_ | refine G.ret ?_ | (refine G.cond rfl ?_ ?_ <;> intro hc <;> (try simp only [tests, reduceCtorEq] at hc) <;> (try (exfalso; first | omega | exact absurd hc (by with_reducible assumption) | exact absurd (by with_reducible assumption) hc | exact Bool.noConfusion hc | exact hc | exact hc trivial | fail)))) | refine G.endOps ?_ | refine G.endStill ?_ | refine G.endHeld ?_ | refine G.back ?_ | refine G.endBlk ?_ | (refine G.atGd ?_; first | refine G.guardYes rfl rfl ?_ | refine G.guardNoS rfl rfl rfl ?_ | refine G.guardU rfl rfl rfl ?_ | (refine G.guardS rfl rfl rfl ?_ ?_ <;> intro hc <;> (try simp only [tests, reduceCtorEq] at hc) <;> (try (exfalso; first | omega | exact absurd hc (by with_reducible assumption) | exact absurd (by with_reducible assumption) hc | exact Bool.noConfusion hc | exact hc | exact hc trivial | fail))) | refine G.guardNo rfl rfl ?_ (by rintro i ⟨⟩; rfl) | (refine G.guard rfl rfl ?_ ?_ (by rintro i ⟨⟩; rfl) <;> intro hc <;> (try simp only [tests, reduceCtorEq] at hc) <;> (try (exfalso; first | omega | exact absurd hc (by with_reducible assumption) | exact absurd (by with_reducible assumption) hc | exact Bool.noConfusion hc | exact hc | exact hc trivial | fail)))) | (refine G.atBin ?_; first | (refine G.atAdd ?_; first | refine G.arith rfl rfl rfl rfl rfl (by simp only [inR]; omega) ?_ | refine G.catStr rfl rfl rfl (by first | omega | (simp only [lens] at *; omega)) ?_ | refine G.op rfl rfl ?_) | (refine G.atRem ?_; first | (refine G.rem rfl rfl rfl rfl (by first | omega | (simp only [lens] at *; omega)) ?_; intro _ _ _) | refine G.remT rfl rfl rfl rfl (by first | omega | (simp only [lens] at *; omega)) ?_) | (refine G.atQuo ?_; refine G.quo rfl rfl rfl rfl (by first | omega | (simp only [lens] at *; omega)) (by simp only [inR]; omega) ?_) | refine G.op rfl rfl ?_ ) | refine G.op rfl rfl ?_ | (refine G.atBsl ?_; refine G.buildSlice (tyy rfl) (tyy rfl) rfl rfl rfl rfl ?_; intro _) | (refine G.atConv ?_; first | refine G.conv rfl (tyy rfl) (tyy rfl) rfl (by simp only [inR]; omega) ?_ | (refine G.convBytes rfl (tyy rfl) (tyy rfl) (tyy rfl) rfl (by first | omega | (simp only [lens] at *; omega)) ?_; intro _) | refine G.convStr rfl (tyy rfl) (tyy rfl) (tyy rfl) (by solve | (repeat (first | apply Take.hd | apply Take.tl))) rfl ?_ | refine G.convStrBlk1 rfl (tyy rfl) (tyy rfl) (tyy rfl) (by solve | (repeat (first | apply Take.hd | apply Take.tl))) (by first | omega | (simp only [lens] at *; omega)) rfl ?_ | refine G.convStrBlk2 rfl (tyy rfl) (tyy rfl) (tyy rfl) (by solve | (repeat (first | apply Take.hd | apply Take.tl))) (by first | omega | (simp only [lens] at *; omega)) (by first | omega | (simp only [lens] at *; omega)) rfl ?_ | (refine G.convW rfl (tyy rfl) (tyy rfl) rfl ?_; intro hcw; (try simp only [inR] at hcw))) )
  · have hlt : i < m := by omega
    have hw : UInt8.ofNat ((q : Int) % 256).toNat = UInt8.ofNat q := by
      rw [show ((q : Int) % 256).toNat = q % 256 by omega]
      apply UInt8.toNat.inj
      rw [UInt8.toNat_ofNat', UInt8.toNat_ofNat']; omega
    refine G.again (i + 1) ⟨sint (by omega), ?_, rfl, sint ?_, trivial⟩ (SubH.nil _) (by omega) (Heap.le_refl _) (by omega)
    · rw [show putB n (i + 1) = [UInt8.ofNat q] ++ putB n i by rw [← hnn]; rfl, ← hw]; rfl
    · rw [Nat.pow_succ, ← Nat.div_div_eq_div_mul, hnn]; omega
  · have hmi : i = m := by omega
    subst hmi
    exact G.done1 rfl rfl [] (SubH.nil _) ⟨rfl, rfl⟩
end Go.Proofs.YtibkffoeioidlaaDoor
