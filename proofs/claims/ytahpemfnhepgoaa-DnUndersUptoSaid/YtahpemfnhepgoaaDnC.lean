/- Names: one value, as it is written; dn.value, castellanref09.value. -/
import Derived.Test.YtahpemfnhepgoaaDnB
import Derived.Test.YtahpemfnhepgoaaOcC
import Derived.Test.YtahpemfnhepgoaaLib
namespace Go.Proofs.Ytahpemfnhepgoaa
set_option linter.all false
set_option maxRecDepth 4000
open Go.RowKit

def spB : List UInt8 := [34, 43, 44, 59, 60, 62, 92, 32, 35, 61]
def bdB : List UInt8 := [34, 59, 60, 62]
def inZ (c : Nat) (l : List UInt8) : Int := if inN c l then 1 else -1
theorem inZ_bool (c : Nat) (l : List UInt8) : inN c l = decide (0 <= inZ c l) := by unfold inZ; cases inN c l <;> simp
theorem posB_in (l : List UInt8) {c : Nat} (hc : c < 256) : posB (UInt8.ofNat c) l < l.length ↔ inN c l = true := by
  have e : (UInt8.ofNat c).toNat = c := by simp [UInt8.toNat_ofNat']; omega
  unfold inN
  rw [List.any_eq_true]
  constructor
  . intro h
    have h1 := posB_get h
    exact ⟨_, List.mem_of_getElem? h1, by simp [e]⟩
  . rintro ⟨b, hb, h⟩
    have h : b.toNat = c := by simpa using h
    obtain ⟨i, hi⟩ := List.getElem?_of_mem hb
    have hb' : b = UInt8.ofNat c := UInt8.toNat_inj.1 (by rw [h, e])
    rcases Nat.lt_or_ge (posB (UInt8.ofNat c) l) l.length with h1 | h1
    . exact h1
    . have h2 := (List.getElem?_eq_some_iff.1 hi).1
      exact absurd (hb' ▸ hi) (posB_no (by omega))
theorem str_IndexZ (s : List UInt8) (c : Nat) (hc : c < 256) (h : Heap) : Spec Try.prog 42 [str s, .int .u8 c] h [] (fun u _ H' => (∃ j : Int, u = .int .i64 j /\ (0 <= j ↔ 0 <= inZ c s)) /\ H' = []) := by
  refine (str_IndexByte s c hc h).mono ?_
  rintro u h' H' ⟨rfl, rfl⟩ _
  refine ⟨⟨_, rfl, ?_⟩, rfl⟩
  have h1 := posB_in s hc
  have h2 := inZ_bool c s
  by_cases h3 : posB (UInt8.ofNat c) s < s.length
  . rw [if_pos h3]
    rw [h1.1 h3] at h2
    have := of_decide_eq_true h2.symm
    omega
  . rw [if_neg h3]
    have h4 : inN c s = false := by rw [Bool.eq_false_iff]; exact fun e => h3 (h1.2 e)
    rw [h4] at h2
    have := of_decide_eq_false h2.symm
    omega
theorem ref09_inZ (c : Nat) (l : List UInt8) (hl : l.length <= 1000) (h : Heap) : Spec Try.prog 32 [.int .u8 c, str l] h [] (fun u _ H' => u = .bool (decide (0 <= inZ c l)) /\ H' = []) := by
  rw [<- inZ_bool]; exact ref09_in c l hl h
def escM : List UInt8 -> Option (UInt8 × Nat × Bool)
  | [] => none
  | a :: r => if inN a.toNat spB then some (a, 2, false) else (r.head?.bind fun b => hexM a b).map fun x => (x, 3, false)
def rawM (first : Bool) (c : UInt8) : Option (UInt8 × Nat × Bool) := if c.toNat = 0 \/ inN c.toNat bdB = true \/ (first = true /\ (c.toNat = 32 \/ c.toNat = 35)) then none else some (c, 1, decide (c.toNat = 32))
def unitM (first : Bool) : List UInt8 -> Option (UInt8 × Nat × Bool)
  | [] => none
  | c :: r => if c.toNat = 92 then escM r else rawM first c
def endB : List UInt8 -> Bool
  | [] => true
  | c :: _ => decide (c.toNat = 44 \/ c.toNat = 43)
def valM : Nat -> Bool -> List UInt8 -> Option (List UInt8 × List UInt8)
  | 0, _, s => some ([], s)
  | n + 1, first, s => if endB s then some ([], s) else match unitM first s with
    | none => none
    | some (x, k, bl) => if bl && endB (s.drop k) then none else (valM n false (s.drop k)).map fun y => (x :: y.1, y.2)
theorem escM_pos {r : List UInt8} {x : UInt8} {k : Nat} {bl : Bool} (h : escM r = some (x, k, bl)) : 1 <= k /\ k <= r.length + 1 /\ k <= 3 := by
  cases r with
  | nil => simp [escM] at h
  | cons a r2 =>
    rw [escM] at h
    split at h
    . simp at h; simp; omega
    . cases r2 with
      | nil => simp at h
      | cons b r3 =>
        simp only [List.head?_cons, Option.bind_some, Option.map_eq_some_iff] at h
        obtain ⟨y, _, h⟩ := h
        simp at h; simp; omega
theorem unitM_pos {first : Bool} {s : List UInt8} {x : UInt8} {k : Nat} {bl : Bool} (h : unitM first s = some (x, k, bl)) : 1 <= k /\ k <= s.length /\ k <= 3 := by
  cases s with
  | nil => simp [unitM] at h
  | cons c r =>
    rw [unitM] at h
    split at h
    . have := escM_pos h; simp only [List.length_cons]; omega
    . unfold rawM at h
      split at h
      . cases h
      . simp at h; simp; omega
theorem valM_two : ∀ (n m : Nat) (first : Bool) (s : List UInt8), s.length <= n -> s.length <= m -> valM n first s = valM m first s := by
  intro n
  induction n with
  | zero =>
    intro m first s h _
    have : s = [] := List.eq_nil_of_length_eq_zero (by omega)
    subst this
    cases m <;> simp [valM, endB]
  | succ n ih =>
    intro m first s h h'
    cases s with
    | nil => cases m <;> simp [valM, endB]
    | cons c r =>
      cases m with
      | zero => simp at h'
      | succ m =>
        rw [valM, valM]
        cases hu : unitM first (c :: r) with
        | none => rfl
        | some y =>
          obtain ⟨x, k, bl⟩ := y
          have hk := unitM_pos hu
          simp only [List.length_cons] at h h' hk
          simp only
          rw [ih m false (List.drop k (c :: r)) (by simp; omega) (by simp; omega)]
theorem valM_fuel (n : Nat) (first : Bool) (s : List UInt8) (h : s.length <= n) : valM n first s = valM s.length first s := valM_two n s.length first s h (Nat.le_refl _)
def comb (b : List UInt8) (bl : Bool) (s : List UInt8) : Option (List UInt8 × List UInt8) := if bl && endB s then none else (valM s.length b.isEmpty s).map fun y => (b ++ y.1, y.2)
theorem comb_start (s : List UInt8) : comb [] false s = valM s.length true s := by
  unfold comb
  simp
theorem comb_end {b : List UInt8} {bl : Bool} {s : List UInt8} (h : endB s = true) : comb b bl s = if bl then none else some (b, s) := by
  unfold comb
  rw [h]
  cases bl with
  | true => rfl
  | false =>
    match s with
    | [] => simp [valM]
    | c :: r => simp [valM, h]
theorem comb_none {b : List UInt8} {bl : Bool} {s : List UInt8} (h : endB s = false) (hu : unitM b.isEmpty s = none) : comb b bl s = none := by
  unfold comb
  rw [h]
  match s with
  | [] => simp [endB] at h
  | c :: r => simp [valM, h, hu]
theorem comb_some {b : List UInt8} {bl bl' : Bool} {s : List UInt8} {x : UInt8} {k : Nat} (h : endB s = false) (hu : unitM b.isEmpty s = some (x, k, bl')) : comb b bl s = comb (b ++ [x]) bl' (s.drop k) := by
  have hk := unitM_pos hu
  unfold comb
  rw [h]
  match s with
  | [] => simp [endB] at h
  | c :: r =>
    simp only [List.length_cons] at hk
    have hd : (List.drop k (c :: r)).length <= r.length := by simp; omega
    simp only [Bool.and_false, Bool.false_eq_true, if_false, List.length_cons, valM, h, hu]
    rw [valM_fuel r.length false _ hd]
    cases hb : bl' && endB (List.drop k (c :: r)) with
    | true => simp
    | false =>
      simp only [Bool.false_eq_true, if_false, Option.map_map]
      have : (b ++ [x]).isEmpty = false := by simp
      rw [this]
      congr 1
      funext y
      simp
theorem endB_at {s : List UInt8} {i : Nat} : endB (s.drop i) = true ↔ (s.length <= i \/ byteAt s i = 44 \/ byteAt s i = 43) := by
  by_cases h : i < s.length
  . rw [List.drop_eq_getElem_cons h, byteAt_eq h]
    simp only [endB, decide_eq_true_eq]
    omega
  . rw [List.drop_eq_nil_of_le (by omega)]
    simp [endB]; omega
theorem unit_raw {s : List UInt8} {i : Nat} {f : Bool} (h : i < s.length) (hc : byteAt s i ≠ 92) : unitM f (s.drop i) = if byteAt s i = 0 \/ 0 <= inZ (byteAt s i) bdB \/ (f = true /\ (byteAt s i = 32 \/ byteAt s i = 35)) then none else some (s[i]'h, 1, decide (byteAt s i = 32)) := by
  have hz := inZ_bool (byteAt s i) bdB
  rw [List.drop_eq_getElem_cons h, unitM]
  rw [byteAt_eq h] at *
  rw [if_neg hc, rawM, hz]
  simp only [decide_eq_true_eq]
theorem unit_esc {s : List UInt8} {i : Nat} {f : Bool} (h : i < s.length) (hc : byteAt s i = 92) (h1 : i + 1 < s.length) (hz : 0 <= inZ (byteAt s (i + 1)) spB) : unitM f (s.drop i) = some (s[i + 1]'h1, 2, false) := by
  have hz' := inZ_bool (byteAt s (i + 1)) spB
  rw [decide_eq_true hz, byteAt_eq h1] at hz'
  rw [byteAt_eq h] at hc
  rw [List.drop_eq_getElem_cons h, List.drop_eq_getElem_cons h1, unitM, if_pos hc, escM, if_pos hz']
theorem unit_hex {s : List UInt8} {i : Nat} {f : Bool} (h : i < s.length) (hc : byteAt s i = 92) (h2 : i + 2 < s.length) (hz : ¬ 0 <= inZ (byteAt s (i + 1)) spB) : unitM f (s.drop i) = (hexM (s[i + 1]'(by omega)) (s[i + 2]'h2)).map fun x => (x, 3, false) := by
  have h1 : i + 1 < s.length := by omega
  have hz' := inZ_bool (byteAt s (i + 1)) spB
  rw [decide_eq_false hz, byteAt_eq h1] at hz'
  rw [byteAt_eq h] at hc
  rw [List.drop_eq_getElem_cons h, List.drop_eq_getElem_cons h1, List.drop_eq_getElem_cons h2, unitM, if_pos hc, escM, if_neg (by rw [hz']; simp)]
  rfl
theorem unit_no {s : List UInt8} {i : Nat} {f : Bool} (h : i < s.length) (hc : byteAt s i = 92) (h2 : ¬ i + 2 < s.length) (hz : i + 1 < s.length -> ¬ 0 <= inZ (byteAt s (i + 1)) spB) : unitM f (s.drop i) = none := by
  rw [byteAt_eq h] at hc
  rw [List.drop_eq_getElem_cons h, unitM, if_pos hc]
  by_cases h1 : i + 1 < s.length
  . have hz := hz h1
    have hz' := inZ_bool (byteAt s (i + 1)) spB
    rw [decide_eq_false hz, byteAt_eq h1] at hz'
    rw [List.drop_eq_getElem_cons h1, List.drop_eq_nil_of_le (by omega), escM, if_neg (by rw [hz']; simp)]
    rfl
  . rw [List.drop_eq_nil_of_le (by omega), escM]
theorem callValue : Callable Try.prog 27 := ⟨_, Try.func27, by kernel_rfl, rfl⟩
theorem callRValue : Callable Try.prog 29 := ⟨_, Try.func29, by kernel_rfl, rfl⟩
def ValR (R : Option (List UInt8 × List UInt8)) (u : Value) : Prop := match R with
  | some (v, r) => u = .tuple #[str v, str r, .bool true]
  | none => ∃ x y, u = .tuple #[str x, str y, .bool false]
set_option maxRecDepth 8000 in
set_option maxHeartbeats 1000000 in
theorem dn_value (s : List UInt8) (hs : s.length <= 10000000) (h : Heap) : Spec Try.prog 27 [str s] h [] (fun u _ H' => ValR (valM s.length true s) u /\ H' = []) := by
  rw [<- comb_start]
  generalize hR0 : comb [] false s = R
  refine Spec.enter Try.func27 rfl rfl ?_; intro w0
  repeat' (first | (refine G.atCode ?_; refine G.stopLoop ?_) | (refine G.atCode ?_; first | refine G.seq ?_ | refine G.region ?_ | refine G.block ?_) | refine G.endOps ?_ | refine G.op rfl rfl ?_)
  refine G.nilRowB 5 ?_
  refine G.go ?_
  refine G.loop (σ := Nat × Bool × Value × List UInt8) (fun x => [(7, .int .i64 x.1), (6, .bool x.2.1), (5, x.2.2.1), (0, str s)])
    (fun x => [.row x.2.2.1 5 1 (bytesR x.2.2.2)])
    (fun x _ => x.1 <= s.length /\ x.2.2.2.length <= x.1 /\ comb x.2.2.2 x.2.1 (s.drop x.1) = R) (fun x => s.length - x.1) ⟨0, false, .slice none 0 0, []⟩ ⟨rfl, rfl, rfl, rfl, trivial⟩ Zu ⟨Nat.zero_le _, Nat.le_refl _, hR0⟩ ?_
  rintro ⟨i, bl, v, b⟩ h1 hle1 ⟨hi, hbl, hR⟩
  simp only at hi hbl hR
  refine G.norm (by (try dsimp only) <;> exact rfl) (by (try dsimp only) <;> exact rfl) ?_
  have hE := endB_at (s := s) (i := i)
  cases he : endB (s.drop i) with
  | true =>
    rw [comb_end he] at hR
    have hE := hE.1 he
    clear he
    cases bl with
    | true =>
      simp only [if_true] at hR
      subst hR
      repeat' (first | (refine G.atCode ?_; first | refine G.seq ?_ | refine G.region ?_ | refine G.drawAll slB Zw mixedOk Zw ?_ | refine G.exit rfl ?_ | refine G.ret ?_ | (refine G.cond rfl ?_ ?_ <;> intro hc <;> (try simp only [tests, reduceCtorEq] at hc) <;> (try exact Zf))) | refine G.endOps ?_ | refine G.endStill ?_ | (refine G.atGd ?_; first | refine G.guardYes rfl rfl ?_ | refine G.guardNoS rfl rfl rfl ?_ | (refine G.guardS rfl rfl rfl ?_ ?_ <;> intro hc <;> (try simp only [tests, reduceCtorEq] at hc) <;> (try exact Zf))) | (refine G.atBin ?_; first | (refine G.atNeq ?_; first | refine G.op rfl rfl ?_) | refine G.op rfl rfl ?_) | refine G.op rfl rfl ?_ | (refine G.atLen ?_; first | refine G.lenStr rfl (tyy rfl) rfl ?_) | (refine G.atInd ?_; refine G.idxStr rfl rfl (tyy rfl) rfl Zj Zo ?_; intro _) | (refine G.atConv ?_; first | refine G.convStr rfl (tyy rfl) (tyy rfl) (tyy rfl) Za rfl ?_) | (refine G.atSlc ?_; first | refine G.dropStr rfl rfl (tyy rfl) rfl Zj Zo ?_))
      all_goals first | (exfalso; omega) | exact G.done3 rfl rfl rfl rfl _ (SubH.nil _) ⟨⟨_, _, rfl⟩, rfl⟩
    | false =>
      simp only [Bool.false_eq_true, if_false] at hR
      subst hR
      repeat' (first | (refine G.atCode ?_; first | refine G.seq ?_ | refine G.region ?_ | refine G.drawAll slB Zw mixedOk Zw ?_ | refine G.exit rfl ?_ | refine G.ret ?_ | (refine G.cond rfl ?_ ?_ <;> intro hc <;> (try simp only [tests, reduceCtorEq] at hc) <;> (try exact Zf))) | refine G.endOps ?_ | refine G.endStill ?_ | (refine G.atGd ?_; first | refine G.guardYes rfl rfl ?_ | refine G.guardNoS rfl rfl rfl ?_ | (refine G.guardS rfl rfl rfl ?_ ?_ <;> intro hc <;> (try simp only [tests, reduceCtorEq] at hc) <;> (try exact Zf))) | (refine G.atBin ?_; first | (refine G.atNeq ?_; first | refine G.op rfl rfl ?_) | refine G.op rfl rfl ?_) | refine G.op rfl rfl ?_ | (refine G.atLen ?_; first | refine G.lenStr rfl (tyy rfl) rfl ?_) | (refine G.atInd ?_; refine G.idxStr rfl rfl (tyy rfl) rfl Zj Zo ?_; intro _) | (refine G.atConv ?_; first | refine G.convStr rfl (tyy rfl) (tyy rfl) (tyy rfl) Za rfl ?_) | (refine G.atSlc ?_; first | refine G.dropStr rfl rfl (tyy rfl) rfl Zj Zo ?_))
      all_goals first | (exfalso; omega) | exact G.done3 rfl rfl rfl rfl _ (SubH.nil _) ⟨rfl, rfl⟩
  | false =>
    have hE : ¬ (s.length <= i \/ byteAt s i = 44 \/ byteAt s i = 43) := fun e => by rw [hE.2 e] at he; cases he
    have hlt : i < s.length := by omega
    have hcb := byteAt_lt s i
    have hof := ofNat_byteAt hlt
    by_cases h92 : byteAt s i = 92
    . have hI1 : ((i : Int) + 1).toNat = i + 1 := by omega
      have hq1 : byteAt s ((i : Int) + 1).toNat = byteAt s (i + 1) := by rw [hI1]
      have hdb := byteAt_lt s ((i : Int) + 1).toNat
      have hno : ¬ i + 2 < s.length -> (i + 1 < s.length -> ¬ 0 <= inZ (byteAt s (i + 1)) spB) -> R = none := fun h1 h2 => by rw [<- hR]; exact comb_none he (unit_no hlt h92 h1 h2)
      have hesc : ∀ (h1 : i + 1 < s.length), 0 <= inZ (byteAt s (i + 1)) spB -> comb (b ++ [UInt8.ofNat (byteAt s (i + 1))]) false (s.drop (i + 2)) = R := fun h1 h2 => by
        rw [<- hR, comb_some he (unit_esc hlt h92 h1 h2), List.drop_drop, ofNat_byteAt h1]
      by_cases h2 : i + 2 < s.length
      . have hhex := fun hz => unit_hex (f := b.isEmpty) hlt h92 h2 hz
        have hsl : List.take (((i : Int) + 3).toNat - ((i : Int) + 1).toNat) (List.drop ((i : Int) + 1).toNat s) = [s[i + 1], s[i + 2]] := by
          rw [show ((i : Int) + 3).toNat - ((i : Int) + 1).toNat = 2 by omega, hI1, List.drop_eq_getElem_cons (by omega), List.drop_eq_getElem_cons (by omega)]; rfl
        generalize s[i + 1] = c1 at *
        generalize s[i + 2] = c2 at *
        generalize hz : inZ (byteAt s (i + 1)) spB = z at *
        cases hx : hexM c1 c2 with
        | none =>
          have hxn : ¬ 0 <= z -> R = none := fun h => by rw [<- hR]; exact comb_none he (by rw [hhex h, hx]; rfl)
          have hxs : hexS c1 c2 = [] := by unfold hexS; rw [hx]
          repeat' (first | (show G _ (.ops .seq _ (⟨some _, .call { callee := .value (.func 42), args := _, argTypes := _ }, _, _, _, none⟩ :: _) :: _) _ _ _; refine G.call callIdxB rfl rfl (str_IndexZ spB (byteAt s ((i : Int) + 1).toNat) hdb _) Ze ?_; rintro _ h3 H3 ⟨⟨j, rfl, hj⟩, rfl⟩ hle3; rw [hI1, hz] at hj) | (show G _ (.ops .seq _ (⟨some _, .call { callee := .value (.func 43), args := _, argTypes := _ }, _, _, _, none⟩ :: _) :: _) _ _ _; rw [hsl]; refine G.call callUnhex rfl rfl (octet_Unhex c1 c2 _) Ze ?_; rintro _ h4 H4 ⟨rfl, rfl⟩ hle4; rw [hx, hxs]) | (refine G.atCode ?_; first | refine G.seq ?_ | refine G.region ?_ | refine G.block ?_ | refine G.skip ?_ | refine G.ret ?_ | (refine G.cond rfl ?_ ?_ <;> intro hc <;> (try simp only [tests, reduceCtorEq] at hc) <;> (try exact Zf))) | refine G.endOps ?_ | refine G.endBlk ?_ | (refine G.atGd ?_; first | refine G.guardYes rfl rfl ?_ | (refine G.guardS rfl rfl rfl ?_ ?_ <;> intro hc <;> (try simp only [tests, reduceCtorEq] at hc) <;> (try exact Zf))) | (refine G.atBin ?_; first | (refine G.atAdd ?_; first | refine G.arith rfl rfl rfl rfl rfl Zi ?_) | (refine G.atEql ?_; first | refine G.op rfl rfl ?_) | (refine G.atNeq ?_; first | refine G.op rfl rfl ?_) | refine G.op rfl rfl ?_) | refine G.op rfl rfl ?_ | (refine G.atLen ?_; first | refine G.lenStr rfl (tyy rfl) rfl ?_) | (refine G.atBsl ?_; refine G.buildSlice (tyy rfl) (tyy rfl) rfl rfl rfl rfl ?_; intro _) | (refine G.atApp ?_; first | (refine G.append1B rfl rfl (tyy rfl) (tyy rfl) rfl rfl Za Za rfl Zo Zo ?_; intro _)) | (refine G.atInd ?_; refine G.idxStr rfl rfl (tyy rfl) rfl Zj Zo ?_; intro _) | (refine G.atSlc ?_; first | refine G.sliceStr rfl rfl rfl (tyy rfl) rfl Zj Zj Zo rfl ?_))
          all_goals first
            | (have e := hxn (by omega)
               subst e
               exact G.done3 rfl rfl rfl rfl _ (SubH.nil _) ⟨⟨[], [], rfl⟩, rfl⟩)
            | (have e := hesc (by omega) (by omega)
               rw [Int.toNat_natCast, hq1]
               exact G.again ⟨i + 2, false, _, b ++ [UInt8.ofNat (byteAt s (i + 1))]⟩ ⟨sint (by omega), sbool (decide_eq_false (by omega)), rfl, rfl, trivial⟩ Zu ⟨by simp only; omega, by simp only [List.length_append, List.length_cons, List.length_nil]; omega, e⟩ (by solve | repeat first | assumption | exact Zr _ | refine Zq ?_ Zp) (by simp only; omega))
        | some x =>
          have hxy : ¬ 0 <= z -> comb (b ++ [x]) false (s.drop (i + 3)) = R := fun h => by rw [<- hR, comb_some he (by rw [hhex h, hx]; rfl), List.drop_drop]
          have hxs : hexS c1 c2 = [x] := by unfold hexS; rw [hx]
          repeat' (first | (show G _ (.ops .seq _ (⟨some _, .call { callee := .value (.func 42), args := _, argTypes := _ }, _, _, _, none⟩ :: _) :: _) _ _ _; refine G.call callIdxB rfl rfl (str_IndexZ spB (byteAt s ((i : Int) + 1).toNat) hdb _) Ze ?_; rintro _ h3 H3 ⟨⟨j, rfl, hj⟩, rfl⟩ hle3; rw [hI1, hz] at hj) | (show G _ (.ops .seq _ (⟨some _, .call { callee := .value (.func 43), args := _, argTypes := _ }, _, _, _, none⟩ :: _) :: _) _ _ _; rw [hsl]; refine G.call callUnhex rfl rfl (octet_Unhex c1 c2 _) Ze ?_; rintro _ h4 H4 ⟨rfl, rfl⟩ hle4; rw [hx, hxs]) | (refine G.atCode ?_; first | refine G.seq ?_ | refine G.region ?_ | refine G.block ?_ | refine G.skip ?_ | (refine G.cond rfl ?_ ?_ <;> intro hc <;> (try simp only [tests, reduceCtorEq] at hc) <;> (try exact Zf))) | refine G.endOps ?_ | refine G.endBlk ?_ | (refine G.atGd ?_; first | refine G.guardYes rfl rfl ?_ | (refine G.guardS rfl rfl rfl ?_ ?_ <;> intro hc <;> (try simp only [tests, reduceCtorEq] at hc) <;> (try exact Zf))) | (refine G.atBin ?_; first | (refine G.atAdd ?_; first | refine G.arith rfl rfl rfl rfl rfl Zi ?_) | (refine G.atEql ?_; first | refine G.op rfl rfl ?_) | (refine G.atNeq ?_; first | refine G.op rfl rfl ?_) | refine G.op rfl rfl ?_) | refine G.op rfl rfl ?_ | (refine G.atLen ?_; first | refine G.lenStr rfl (tyy rfl) rfl ?_) | (refine G.atBsl ?_; refine G.buildSlice (tyy rfl) (tyy rfl) rfl rfl rfl rfl ?_; intro _) | (refine G.atApp ?_; first | (refine G.append1B rfl rfl (tyy rfl) (tyy rfl) rfl rfl Za Za rfl Zo Zo ?_; intro _)) | (refine G.atInd ?_; refine G.idxStr rfl rfl (tyy rfl) rfl Zj Zo ?_; intro _) | (refine G.atSlc ?_; first | refine G.sliceStr rfl rfl rfl (tyy rfl) rfl Zj Zj Zo rfl ?_))
          all_goals first
            | (have e := hxy (by omega)
               rw [Int.toNat_natCast, show UInt8.ofNat (byteAt [x] 0) = x by simp [byteAt]]
               exact G.again ⟨i + 3, false, _, b ++ [x]⟩ ⟨sint (by omega), sbool (decide_eq_false (by omega)), rfl, rfl, trivial⟩ Zu ⟨by simp only; omega, by simp only [List.length_append, List.length_cons, List.length_nil]; omega, e⟩ (by solve | repeat first | assumption | exact Zr _ | refine Zq ?_ Zp) (by simp only; omega))
            | (have e := hesc (by omega) (by omega)
               rw [Int.toNat_natCast, hq1]
               exact G.again ⟨i + 2, false, _, b ++ [UInt8.ofNat (byteAt s (i + 1))]⟩ ⟨sint (by omega), sbool (decide_eq_false (by omega)), rfl, rfl, trivial⟩ Zu ⟨by simp only; omega, by simp only [List.length_append, List.length_cons, List.length_nil]; omega, e⟩ (by solve | repeat first | assumption | exact Zr _ | refine Zq ?_ Zp) (by simp only; omega))
      . generalize hz : inZ (byteAt s (i + 1)) spB = z at *
        repeat' (first | (show G _ (.ops .seq _ (⟨some _, .call { callee := .value (.func 42), args := _, argTypes := _ }, _, _, _, none⟩ :: _) :: _) _ _ _; refine G.call callIdxB rfl rfl (str_IndexZ spB (byteAt s ((i : Int) + 1).toNat) hdb _) Ze ?_; rintro _ h3 H3 ⟨⟨j, rfl, hj⟩, rfl⟩ hle3; rw [hI1, hz] at hj) | (refine G.atCode ?_; first | refine G.seq ?_ | refine G.region ?_ | refine G.block ?_ | refine G.skip ?_ | refine G.ret ?_ | (refine G.cond rfl ?_ ?_ <;> intro hc <;> (try simp only [tests, reduceCtorEq] at hc) <;> (try exact Zf))) | refine G.endOps ?_ | refine G.endBlk ?_ | (refine G.atGd ?_; first | refine G.guardYes rfl rfl ?_ | refine G.guardNoS rfl rfl rfl ?_ | (refine G.guardS rfl rfl rfl ?_ ?_ <;> intro hc <;> (try simp only [tests, reduceCtorEq] at hc) <;> (try exact Zf))) | (refine G.atBin ?_; first | (refine G.atAdd ?_; first | refine G.arith rfl rfl rfl rfl rfl Zi ?_) | (refine G.atEql ?_; first | refine G.op rfl rfl ?_) | (refine G.atNeq ?_; first | refine G.op rfl rfl ?_) | refine G.op rfl rfl ?_) | refine G.op rfl rfl ?_ | (refine G.atLen ?_; first | refine G.lenStr rfl (tyy rfl) rfl ?_) | (refine G.atBsl ?_; refine G.buildSlice (tyy rfl) (tyy rfl) rfl rfl rfl rfl ?_; intro _) | (refine G.atApp ?_; first | (refine G.append1B rfl rfl (tyy rfl) (tyy rfl) rfl rfl Za Za rfl Zo Zo ?_; intro _)) | (refine G.atInd ?_; refine G.idxStr rfl rfl (tyy rfl) rfl Zj Zo ?_; intro _))
        all_goals first
          | (have e := hno (by omega) (by omega)
             subst e
             exact G.done3 rfl rfl rfl rfl _ (SubH.nil _) ⟨⟨[], [], rfl⟩, rfl⟩)
          | (have e := hesc (by omega) (by omega)
             rw [Int.toNat_natCast, hq1]
             exact G.again ⟨i + 2, false, _, b ++ [UInt8.ofNat (byteAt s (i + 1))]⟩ ⟨sint (by omega), sbool (decide_eq_false (by omega)), rfl, rfl, trivial⟩ Zu ⟨by simp only; omega, by simp only [List.length_append, List.length_cons, List.length_nil]; omega, e⟩ (by solve | repeat first | assumption | exact Zr _ | refine Zq ?_ Zp) (by simp only; omega))
    . have hu := unit_raw (f := b.isEmpty) hlt h92
      have hbe : b.isEmpty = true ↔ b.length = 0 := by simp
      have hbad : byteAt s i = 0 \/ 0 <= inZ (byteAt s i) bdB \/ b.length = 0 /\ (byteAt s i = 32 \/ byteAt s i = 35) -> R = none := fun h => by
        rw [if_pos (h.imp id fun h => h.imp id fun h => ⟨hbe.2 h.1, h.2⟩)] at hu; rw [<- hR]; exact comb_none he hu
      have hok : ¬ (byteAt s i = 0 \/ 0 <= inZ (byteAt s i) bdB \/ b.length = 0 /\ (byteAt s i = 32 \/ byteAt s i = 35)) -> comb (b ++ [s[i]]) (decide (byteAt s i = 32)) (s.drop (i + 1)) = R := fun h => by
        rw [if_neg (fun h' => h (h'.imp id fun h => h.imp id fun h => ⟨hbe.1 h.1, h.2⟩))] at hu; rw [<- hR, comb_some he hu, List.drop_drop]
      clear hu hbe
      have hdec : decide ((byteAt s i : Int) = 32) = decide (byteAt s i = 32) := decide_eq_decide.2 (by omega)
      generalize hz : inZ (byteAt s i) bdB = z at *
      repeat' (first | (show G _ (.ops .seq _ (⟨some _, .call { callee := .value (.func 42), args := _, argTypes := _ }, _, _, _, none⟩ :: _) :: _) _ _ _; refine G.call callIdxB rfl rfl (str_IndexZ bdB (byteAt s i) hcb _) Ze ?_; rintro _ h2 H2 ⟨⟨j, rfl, hj⟩, rfl⟩ hle2; rw [hz] at hj) | (refine G.atCode ?_; first | refine G.seq ?_ | refine G.region ?_ | refine G.block ?_ | refine G.skip ?_ | refine G.ret ?_ | (refine G.cond rfl ?_ ?_ <;> intro hc <;> (try simp only [tests, reduceCtorEq] at hc) <;> (try exact Zf))) | refine G.endOps ?_ | refine G.endBlk ?_ | (refine G.atGd ?_; first | refine G.guardYes rfl rfl ?_ | refine G.guardNoS rfl rfl rfl ?_ | refine G.guardU rfl rfl rfl ?_ | (refine G.guardS rfl rfl rfl ?_ ?_ <;> intro hc <;> (try simp only [tests, reduceCtorEq] at hc) <;> (try exact Zf))) | (refine G.atBin ?_; first | (refine G.atAdd ?_; first | refine G.arith rfl rfl rfl rfl rfl Zi ?_) | (refine G.atEql ?_; first | refine G.op rfl rfl ?_) | (refine G.atNeq ?_; first | refine G.op rfl rfl ?_) | refine G.op rfl rfl ?_) | refine G.op rfl rfl ?_ | (refine G.atLen ?_; first | refine G.lenStr rfl (tyy rfl) rfl ?_ | refine G.lenRowB rfl (tyy rfl) Za rfl ?_) | (refine G.atBsl ?_; refine G.buildSlice (tyy rfl) (tyy rfl) rfl rfl rfl rfl ?_; intro _) | (refine G.atApp ?_; first | (refine G.append1B rfl rfl (tyy rfl) (tyy rfl) rfl rfl Za Za rfl Zo Zo ?_; intro _)) | (refine G.atInd ?_; refine G.idxStr rfl rfl (tyy rfl) rfl Zj Zo ?_; intro _))
      all_goals first
        | (have e := hbad (by omega)
           subst e
           exact G.done3 rfl rfl rfl rfl _ (SubH.nil _) ⟨⟨[], [], rfl⟩, rfl⟩)
        | (have e := hok (by omega)
           rw [<- hdec] at e
           rw [Int.toNat_natCast, hof]
           exact G.again ⟨i + 1, _, _, b ++ [s[i]]⟩ ⟨sint (by simp), rfl, rfl, rfl, trivial⟩ Zu ⟨by simp only; omega, by simp only [List.length_append, List.length_cons, List.length_nil]; omega, e⟩ (by solve | repeat first | assumption | exact Zr _ | refine Zq ?_ Zp) (by simp only; omega))
end Go.Proofs.Ytahpemfnhepgoaa
