/- Two hexadecimal digits: octet.half, Unhex; castellanref01.digit, Unhex. -/
import Derived.Test.YtahpemfnhepgoaaOcD
namespace Go.Proofs.Ytahpemfnhepgoaa
set_option linter.all false
set_option maxRecDepth 4000
open Go.RowKit

def halfN (c : Nat) : Option Nat := if 48 <= c /\ c <= 57 then some (c - 48) else if 97 <= c /\ c <= 102 then some (c - 87) else if 65 <= c /\ c <= 70 then some (c - 55) else none
theorem halfN_lt {c n : Nat} (h : halfN c = some n) : n < 16 := by
  unfold halfN at h
  split at h
  . injection h with h; omega
  . split at h
    . injection h with h; omega
    . split at h
      . injection h with h; omega
      . cases h
def hexN (a b : Nat) : Option Nat := match halfN a, halfN b with
  | some x, some y => some (16 * x + y)
  | _, _ => none
theorem hexN_lt {a b n : Nat} (h : hexN a b = some n) : n < 256 := by
  unfold hexN at h
  split at h
  . rename_i x y hx hy
    have := halfN_lt hx
    have := halfN_lt hy
    injection h with h; omega
  . cases h
def hexM (a b : UInt8) : Option UInt8 := (hexN a.toNat b.toNat).map UInt8.ofNat
def hexS (a b : UInt8) : List UInt8 := match hexM a b with | some x => [x] | none => []
theorem octet_half (c : Nat) (hc : c < 256) (h : Heap) : Spec Try.prog 55 [.int .u8 c] h [] (fun u _ H' => u = .tuple #[.int .u8 ((halfN c).getD 0 : Nat), .bool (halfN c).isSome] /\ H' = []) := by
  refine Spec.enter Try.func55 rfl rfl ?_; intro w0
  repeat' (first | (refine G.atCode ?_; first | refine G.seq ?_ | refine G.region ?_ | refine G.block ?_ | refine G.skip ?_ | refine G.ret ?_ | (refine G.cond rfl ?_ ?_ <;> intro hc <;> (try simp only [tests, reduceCtorEq] at hc) <;> (try exact Zf))) | refine G.endOps ?_ | refine G.endBlk ?_ | (refine G.atGd ?_; first | refine G.guardYes rfl rfl ?_ | refine G.guardNoS rfl rfl rfl ?_ | (refine G.guardS rfl rfl rfl ?_ ?_ <;> intro hc <;> (try simp only [tests, reduceCtorEq] at hc) <;> (try exact Zf))) | (refine G.atBin ?_; first | (refine G.atAdd ?_; first | refine G.arith rfl rfl rfl rfl rfl Zi ?_) | (refine G.atSub ?_; first | refine G.arith rfl rfl rfl rfl rfl Zi ?_) | refine G.op rfl rfl ?_) | refine G.op rfl rfl ?_)
  all_goals (
    refine G.done2 rfl rfl rfl _ (SubH.nil _) ⟨?_, rfl⟩
    unfold halfN
    first
      | (rw [if_pos (by omega)]; simp only [Option.getD_some, Option.isSome_some]; congr 4; omega)
      | (rw [if_neg (by omega), if_pos (by omega)]; simp only [Option.getD_some, Option.isSome_some]; congr 4; omega)
      | (rw [if_neg (by omega), if_neg (by omega), if_pos (by omega)]; simp only [Option.getD_some, Option.isSome_some]; congr 4; omega)
      | (rw [if_neg (by omega), if_neg (by omega), if_neg (by omega)]; rfl))
def digN (n : Nat) : Nat := if n < 10 then 48 + n else 87 + n
theorem ref01_digit (n : Nat) (hn : n < 16) (h : Heap) : Spec Try.prog 56 [.int .u8 n] h [] (fun u _ H' => u = .int .u8 (digN n : Nat) /\ H' = []) := by
  refine Spec.enter Try.func56 rfl rfl ?_; intro w0
  repeat' (first | (refine G.atCode ?_; first | refine G.seq ?_ | refine G.region ?_ | refine G.skip ?_ | refine G.ret ?_ | (refine G.cond rfl ?_ ?_ <;> intro hc <;> (try simp only [tests, reduceCtorEq] at hc) <;> (try exact Zf))) | refine G.endOps ?_ | (refine G.atBin ?_; first | (refine G.atAdd ?_; first | refine G.arith rfl rfl rfl rfl rfl Zi ?_) | (refine G.atSub ?_; first | refine G.arith rfl rfl rfl rfl rfl Zi ?_) | refine G.op rfl rfl ?_) | refine G.op rfl rfl ?_)
  all_goals (
    refine G.done1 rfl rfl _ (SubH.nil _) ⟨?_, rfl⟩
    unfold digN
    first
      | (rw [if_pos (by omega)]; congr 1; omega)
      | (rw [if_pos (by omega)]; rfl)
      | (rw [if_neg (by omega)]; congr 1; omega))
set_option maxRecDepth 8000 in
theorem octet_Unhex (a b : UInt8) (h : Heap) : Spec Try.prog 43 [str [a, b]] h [] (fun u _ H' => u = .tuple #[str (hexS a b), .bool (hexM a b).isSome] /\ H' = []) := by
  have ha := a.toNat_lt
  have hb := b.toNat_lt
  have hba : byteAt [a, b] 0 = a.toNat := rfl
  have hbb : byteAt [a, b] 1 = b.toNat := rfl
  have hl : ([a, b] : List UInt8).length = 2 := rfl
  have sa := octet_half a.toNat (by omega)
  have sb := octet_half b.toNat (by omega)
  refine Spec.enter Try.func43 rfl rfl ?_; intro w0
  repeat' (first | (refine G.atMsl ?_; refine G.makeSlice0 rfl rfl (tyy rfl) (tyy rfl) Zo rfl ?_; intro _) | (refine G.atCode ?_; refine G.stopLoop ?_) | (refine G.atCode ?_; first | refine G.seq ?_ | refine G.region ?_ | refine G.block ?_ | refine G.skip ?_ | (refine G.cond rfl ?_ ?_ <;> intro hc <;> (try simp only [tests, reduceCtorEq] at hc) <;> (try exact Zf))) | refine G.endOps ?_ | (refine G.atBin ?_; first | (refine G.atEql ?_; first | refine G.op rfl rfl ?_) | (refine G.atRem ?_; first | (refine G.rem rfl rfl rfl rfl Zo ?_; intro _ _ _)) | (refine G.atQuo ?_; refine G.quo rfl rfl rfl rfl Zo Zi ?_)) | refine G.op rfl rfl ?_ | (refine G.atLen ?_; first | refine G.lenStr rfl (tyy rfl) rfl ?_))
  rename_i v0
  refine G.go ?_
  refine G.loop (σ := Bool × Value) (fun x => [(5, .int .i64 (if x.1 then 2 else 0 : Nat)), (4, x.2), (0, str [a, b])]) (fun x => [.row x.2 5 1 (bytesR (if x.1 then hexS a b else []))]) (fun x _ => x.1 = true -> (hexM a b).isSome = true) (fun x => if x.1 then 0 else 1) ⟨false, v0⟩ ⟨rfl, rfl, rfl, trivial⟩ Zu (fun e => by cases e) ?_
  rintro ⟨d, v⟩ h1 hle1 hd
  simp only at hd
  cases d with
  | true =>
    have hd := hd rfl
    rw [hd]
    simp only [if_true]
    refine G.norm (by (try dsimp only) <;> exact rfl) (by (try dsimp only) <;> exact rfl) ?_
    repeat' (first | (refine G.atCode ?_; first | refine G.seq ?_ | refine G.region ?_ | refine G.exit rfl ?_ | refine G.ret ?_ | (refine G.cond rfl ?_ ?_ <;> intro hc <;> (try simp only [tests, reduceCtorEq] at hc) <;> (try exact Zf))) | refine G.endOps ?_ | (refine G.atBin ?_; first | refine G.op rfl rfl ?_) | refine G.op rfl rfl ?_ | (refine G.atLen ?_; first | refine G.lenStr rfl (tyy rfl) rfl ?_) | (refine G.atConv ?_; first | refine G.convStr rfl (tyy rfl) (tyy rfl) (tyy rfl) Za rfl ?_))
    all_goals first | (exfalso; omega) | exact G.done2 rfl rfl rfl _ (SubH.nil _) ⟨rfl, rfl⟩
  | false =>
    simp only [Bool.false_eq_true, if_false]
    refine G.norm (by (try dsimp only) <;> exact rfl) (by (try dsimp only) <;> exact rfl) ?_
    cases hx : halfN a.toNat with
    | none =>
      have e1 : hexM a b = none := by unfold hexM hexN; rw [hx]; rfl
      have e2 : hexS a b = [] := by unfold hexS; rw [e1]
      rw [hx] at sa
      rw [e1, e2]
      repeat' (first | (show G _ (.ops .seq _ (⟨some _, .call { callee := .value (.func 55), args := _, argTypes := _ }, _, _, _, none⟩ :: _) :: _) _ _ _; refine G.call callHalf rfl rfl (sa _) Ze ?_; rintro _ h2 H2 ⟨rfl, rfl⟩ hle2) | (show G _ (.ops .seq _ (⟨some _, .call { callee := .value (.func 55), args := _, argTypes := _ }, _, _, _, none⟩ :: _) :: _) _ _ _; refine G.call callHalf rfl rfl (sb _) Ze ?_; rintro _ h3 H3 ⟨rfl, rfl⟩ hle3) | (refine G.atCode ?_; first | refine G.seq ?_ | refine G.region ?_ | refine G.block ?_ | refine G.skip ?_ | refine G.ret ?_ | (refine G.cond rfl ?_ ?_ <;> intro hc <;> (try simp only [tests, reduceCtorEq] at hc) <;> (try exact Zf))) | refine G.endOps ?_ | (refine G.atGd ?_; first | refine G.guardNoS rfl rfl rfl ?_) | (refine G.atBin ?_; first | (refine G.atAdd ?_; first | refine G.arith rfl rfl rfl rfl rfl Zi ?_) | refine G.op rfl rfl ?_) | refine G.op rfl rfl ?_ | (refine G.atLen ?_; first | refine G.lenStr rfl (tyy rfl) rfl ?_) | (refine G.atInd ?_; refine G.idxStr rfl rfl (tyy rfl) rfl Zj Zo ?_; intro _))
      all_goals first | (exfalso; omega) | exact G.done2 rfl rfl rfl _ (SubH.nil _) ⟨rfl, rfl⟩
    | some x =>
      rw [hx] at sa
      cases hy : halfN b.toNat with
      | none =>
        have e1 : hexM a b = none := by unfold hexM hexN; rw [hx, hy]; rfl
        have e2 : hexS a b = [] := by unfold hexS; rw [e1]
        rw [hy] at sb
        rw [e1, e2]
        repeat' (first | (show G _ (.ops .seq _ (⟨some _, .call { callee := .value (.func 55), args := _, argTypes := _ }, _, _, _, none⟩ :: _) :: _) _ _ _; refine G.call callHalf rfl rfl (sa _) Ze ?_; rintro _ h2 H2 ⟨rfl, rfl⟩ hle2) | (show G _ (.ops .seq _ (⟨some _, .call { callee := .value (.func 55), args := _, argTypes := _ }, _, _, _, none⟩ :: _) :: _) _ _ _; refine G.call callHalf rfl rfl (sb _) Ze ?_; rintro _ h3 H3 ⟨rfl, rfl⟩ hle3) | (refine G.atCode ?_; first | refine G.seq ?_ | refine G.region ?_ | refine G.block ?_ | refine G.skip ?_ | refine G.ret ?_ | (refine G.cond rfl ?_ ?_ <;> intro hc <;> (try simp only [tests, reduceCtorEq] at hc) <;> (try exact Zf))) | refine G.endOps ?_ | (refine G.atGd ?_; first | refine G.guardYes rfl rfl ?_) | (refine G.atBin ?_; first | (refine G.atAdd ?_; first | refine G.arith rfl rfl rfl rfl rfl Zi ?_) | refine G.op rfl rfl ?_) | refine G.op rfl rfl ?_ | (refine G.atLen ?_; first | refine G.lenStr rfl (tyy rfl) rfl ?_) | (refine G.atInd ?_; refine G.idxStr rfl rfl (tyy rfl) rfl Zj Zo ?_; intro _))
        all_goals first | (exfalso; omega) | exact G.done2 rfl rfl rfl _ (SubH.nil _) ⟨rfl, rfl⟩
      | some y =>
        have hxl := halfN_lt hx
        have hyl := halfN_lt hy
        have e1 : hexM a b = some (UInt8.ofNat (16 * x + y)) := by unfold hexM hexN; rw [hx, hy]; rfl
        have e2 : hexS a b = [UInt8.ofNat (16 * x + y)] := by unfold hexS; rw [e1]
        rw [hy] at sb
        simp only [Option.getD_some] at sa sb
        repeat' (first | (show G _ (.ops .seq _ (⟨some _, .call { callee := .value (.func 55), args := _, argTypes := _ }, _, _, _, none⟩ :: _) :: _) _ _ _; refine G.call callHalf rfl rfl (sa _) Ze ?_; rintro _ h2 H2 ⟨rfl, rfl⟩ hle2) | (show G _ (.ops .seq _ (⟨some _, .call { callee := .value (.func 55), args := _, argTypes := _ }, _, _, _, none⟩ :: _) :: _) _ _ _; refine G.call callHalf rfl rfl (sb _) Ze ?_; rintro _ h3 H3 ⟨rfl, rfl⟩ hle3) | (refine G.atCode ?_; first | refine G.seq ?_ | refine G.region ?_ | refine G.block ?_ | refine G.skip ?_ | (refine G.cond rfl ?_ ?_ <;> intro hc <;> (try simp only [tests, reduceCtorEq] at hc) <;> (try exact Zf))) | refine G.endOps ?_ | refine G.endBlk ?_ | (refine G.atGd ?_; first | refine G.guardYes rfl rfl ?_) | (refine G.atBin ?_; first | (refine G.atAdd ?_; first | refine G.arith rfl rfl rfl rfl rfl Zi ?_) | (refine G.atShl ?_; refine G.shl rfl rfl Zj rfl (by simp only [IntKind.bits]; omega) rfl Zi ?_) | refine G.op rfl rfl ?_ | refine G.bit rfl rfl rfl Zj Zj rfl rfl (by simp only [lim]; omega) (by simp only [lim]; omega) ?_) | refine G.op rfl rfl ?_ | (refine G.atLen ?_; first | refine G.lenStr rfl (tyy rfl) rfl ?_) | (refine G.atBsl ?_; refine G.buildSlice (tyy rfl) (tyy rfl) rfl rfl rfl rfl ?_; intro _) | (refine G.atApp ?_; first | (refine G.append1 rfl rfl (tyy rfl) (tyy rfl) rfl rfl Za Za rfl rfl rfl Zo ?_; intro _; refine G.rowForm Take.hd ?_; rintro _ _ rfl)) | (refine G.atInd ?_; refine G.idxStr rfl rfl (tyy rfl) rfl Zj Zo ?_; intro _))
        have e3 : bytesR [] ++ [[Value.int .u8 ((((x : Nat) : Int) * 2 ^ 4).toNat ||| y : Nat)]] = bytesR (hexS a b) := by
          have h16 : (((x : Nat) : Int) * 2 ^ 4).toNat = 2 ^ 4 * x := by omega
          rw [e2, h16, ← Nat.two_pow_add_eq_or_of_lt (by omega)]
          simp only [bytesR, List.map_nil, List.nil_append, List.map_cons]
          rw [show (UInt8.ofNat (16 * x + y)).toNat = 2 ^ 4 * x + y by simp [UInt8.toNat_ofNat']; omega]
        rw [e3]
        exact G.again ⟨true, _⟩ ⟨sint (by simp), rfl, rfl, trivial⟩ (by simp only [if_true]; exact Zu) (fun _ => by rw [e1]; rfl) (by solve | repeat first | assumption | exact Zr _ | refine Zq ?_ Zp) (by simp)
theorem dig_all : ∀ (c : Fin 256) (x : Fin 16), (digN x.val = lowN c.val) ↔ halfN c.val = some x.val := by decide +kernel
theorem hex_match {a b n : Nat} (ha : a < 2 ^ 8) (hb : b < 2 ^ 8) (hn : n < 256) : (digN (n / 16) = lowN a /\ digN (n % 16) = lowN b) ↔ hexN a b = some n := by
  have h1 := dig_all ⟨a, by omega⟩ ⟨n / 16, by omega⟩
  have h2 := dig_all ⟨b, by omega⟩ ⟨n % 16, by omega⟩
  simp only at h1 h2
  rw [h1, h2]
  unfold hexN
  cases hx : halfN a with
  | none => simp
  | some x =>
    cases hy : halfN b with
    | none => simp
    | some y =>
      have := halfN_lt hx
      have := halfN_lt hy
      simp only [Option.some.injEq]
      omega
set_option maxRecDepth 8000 in
set_option maxHeartbeats 1000000 in
theorem ref01_Unhex (a b : UInt8) (h : Heap) : Spec Try.prog 44 [str [a, b]] h [] (fun u _ H' => u = .tuple #[str (hexS a b), .bool (hexM a b).isSome] /\ H' = []) := by
  have ha := a.toNat_lt
  have hb := b.toNat_lt
  have hl : ([a, b] : List UInt8).length = 2 := rfl
  have sf := ref01_Fold [a, b] (by simp)
  have hba : byteAt (foldM [a, b]) 0 = lowN a.toNat := byteAt_fold (s := [a, b]) (i := 0) (by simp)
  have hbb : byteAt (foldM [a, b]) 1 = lowN b.toNat := byteAt_fold (s := [a, b]) (i := 1) (by simp)
  have hfl : (foldM [a, b]).length = 2 := rfl
  generalize foldM [a, b] = t at *
  refine Spec.enter Try.func44 rfl rfl ?_; intro w0
  repeat' (first | (show G _ (.ops .seq _ (⟨some _, .call { callee := .value (.func 31), args := _, argTypes := _ }, _, _, _, none⟩ :: _) :: _) _ _ _; refine G.call callRFold rfl rfl (sf _) Ze ?_; rintro _ h2 H2 ⟨rfl, rfl⟩ hle2) | (refine G.atCode ?_; refine G.stopLoop ?_) | (refine G.atCode ?_; first | refine G.seq ?_ | refine G.region ?_ | refine G.block ?_) | refine G.endOps ?_ | refine G.op rfl rfl ?_)
  refine G.nilRowB 5 ?_
  refine G.go ?_
  refine G.loop (σ := Bool × Value) (fun x => [(6, .int .i64 (if x.1 then 2 else 0 : Nat)), (5, str t), (4, x.2), (0, str [a, b])]) (fun x => [.row x.2 5 1 (bytesR (if x.1 then hexS a b else []))]) (fun x _ => x.1 = true -> (hexM a b).isSome = true) (fun x => if x.1 then 0 else 1) ⟨false, .slice none 0 0⟩ ⟨rfl, rfl, rfl, rfl, trivial⟩ Zu (fun e => by cases e) ?_
  rintro ⟨d, v⟩ h1 hle1 hd
  simp only at hd
  cases d with
  | true =>
    have hd := hd rfl
    rw [hd]
    simp only [if_true]
    refine G.norm (by (try dsimp only) <;> exact rfl) (by (try dsimp only) <;> exact rfl) ?_
    repeat' (first | (refine G.atCode ?_; first | refine G.seq ?_ | refine G.region ?_ | refine G.skip ?_ | refine G.exit rfl ?_ | refine G.ret ?_ | (refine G.cond rfl ?_ ?_ <;> intro hc <;> (try simp only [tests, reduceCtorEq] at hc) <;> (try exact Zf))) | refine G.endOps ?_ | (refine G.atBin ?_; first | (refine G.atAdd ?_; first | refine G.arith rfl rfl rfl rfl rfl Zi ?_) | (refine G.atEql ?_; first | refine G.op rfl rfl ?_) | (refine G.atRem ?_; first | (refine G.rem rfl rfl rfl rfl Zo ?_; intro _ _ _)) | refine G.op rfl rfl ?_) | refine G.op rfl rfl ?_ | (refine G.atLen ?_; first | refine G.lenStr rfl (tyy rfl) rfl ?_) | (refine G.atConv ?_; first | refine G.convStr rfl (tyy rfl) (tyy rfl) (tyy rfl) Za rfl ?_))
    all_goals first | (exfalso; omega) | exact G.done2 rfl rfl rfl _ (SubH.nil _) ⟨rfl, rfl⟩
  | false =>
    simp only [Bool.false_eq_true, if_false]
    refine G.norm (by (try dsimp only) <;> exact rfl) (by (try dsimp only) <;> exact rfl) ?_
    repeat' (first | (refine G.atCode ?_; refine G.stopLoop ?_) | (refine G.atCode ?_; first | refine G.seq ?_ | refine G.region ?_ | refine G.block ?_ | refine G.skip ?_ | (refine G.cond rfl ?_ ?_ <;> intro hc <;> (try simp only [tests, reduceCtorEq] at hc) <;> (try exact Zf))) | refine G.endOps ?_ | (refine G.atBin ?_; first | (refine G.atAdd ?_; first | refine G.arith rfl rfl rfl rfl rfl Zi ?_) | refine G.op rfl rfl ?_) | refine G.op rfl rfl ?_ | (refine G.atLen ?_; first | refine G.lenStr rfl (tyy rfl) rfl ?_))
    refine G.go ?_
    refine G.loop (σ := Nat × Bool × Value) (fun x => [(8, .int .i64 x.1), (7, .bool x.2.1), (6, .int .i64 0), (5, str t), (4, x.2.2), (0, str [a, b])]) (fun x => [.row x.2.2 5 1 (bytesR (if x.2.1 then hexS a b else []))])
      (fun x _ => x.1 <= 256 /\ (x.2.1 = true -> (hexM a b).isSome = true) /\ (x.2.1 = false -> ∀ m, m < x.1 -> hexN a.toNat b.toNat ≠ some m)) (fun x => 256 - x.1) ⟨0, false, v⟩ ⟨rfl, rfl, rfl, rfl, rfl, rfl, trivial⟩ Zu ⟨by simp, fun e => Bool.noConfusion e, fun _ m hm => absurd hm (by simp)⟩ ?_
    rintro ⟨n, fd, v3⟩ h3 hle3 ⟨hn, hy, hno⟩
    simp only at hn hy hno
    cases fd with
    | true =>
      have hy := hy rfl
      simp only [if_true]
      refine G.norm (by (try dsimp only) <;> exact rfl) (by (try dsimp only) <;> exact rfl) ?_
      repeat' (first | (refine G.atCode ?_; first | refine G.seq ?_ | refine G.region ?_ | refine G.skip ?_ | refine G.exit rfl ?_ | (refine G.cond rfl ?_ ?_ <;> intro hc <;> (try simp only [tests, reduceCtorEq] at hc) <;> (try exact Zf))) | refine G.endOps ?_ | refine G.endBlk ?_ | (refine G.atGd ?_; first | refine G.guardYes rfl rfl ?_ | refine G.guardNoS rfl rfl rfl ?_ | (refine G.guardS rfl rfl rfl ?_ ?_ <;> intro hc <;> (try simp only [tests, reduceCtorEq] at hc) <;> (try exact Zf))) | (refine G.atBin ?_; first | (refine G.atAdd ?_; first | refine G.arith rfl rfl rfl rfl rfl Zi ?_) | refine G.op rfl rfl ?_) | refine G.op rfl rfl ?_)
      all_goals exact G.again ⟨true, _⟩ ⟨rfl, rfl, rfl, rfl, trivial⟩ (by simp only [if_true]; exact Zu) (fun _ => hy) (by solve | repeat first | assumption | exact Zr _ | refine Zq ?_ Zp) (by simp)
    | false =>
      have hno := hno rfl
      simp only [Bool.false_eq_true, if_false]
      refine G.norm (by (try dsimp only) <;> exact rfl) (by (try dsimp only) <;> exact rfl) ?_
      by_cases hn6 : n < 256
      . have hbb' : byteAt t ((0 : Int) + 1).toNat = lowN b.toNat := hbb
        have hm := hex_match (a := a.toNat) (b := b.toNat) ha hb hn6
        have s1 := ref01_digit (n / 16) (by omega)
        have s2 := ref01_digit (n % 16) (by omega)
        generalize hd1 : digN (n / 16) = d1 at *
        generalize hd2 : digN (n % 16) = d2 at *
        repeat' (first | (show G _ (.ops .seq _ (⟨some _, .call { callee := .value (.func 56), args := _, argTypes := _ }, _, _, _, none⟩ :: _) :: _) _ _ _; refine G.call callDigit rfl rfl (s1 _) Ze ?_; rintro _ h4 H4 ⟨rfl, rfl⟩ hle4) | (show G _ (.ops .seq _ (⟨some _, .call { callee := .value (.func 56), args := _, argTypes := _ }, _, _, _, none⟩ :: _) :: _) _ _ _; refine G.call callDigit rfl rfl (s2 _) Ze ?_; rintro _ h5 H5 ⟨rfl, rfl⟩ hle5) | (refine G.atCode ?_; first | refine G.seq ?_ | refine G.region ?_ | refine G.block ?_ | refine G.skip ?_ | refine G.anyIn mixedOk ?_ | (refine G.cond rfl ?_ ?_ <;> intro hc <;> (try simp only [tests, reduceCtorEq] at hc) <;> (try exact Zf))) | refine G.endOps ?_ | refine G.endHeld ?_ | refine G.back ?_ | refine G.endBlk ?_ | (refine G.atAny ?_; first | refine G.anyAutoX slB rfl rfl Zw Zg Zd ?_ | refine G.anyOne rfl Zw Zg Zu ?_ | refine G.anyAuto slB rfl Zw Zg Zu ?_ | refine G.anyEnd Zw Zg Zu ?_) | (refine G.atGd ?_; first | refine G.guardYes rfl rfl ?_ | refine G.guardNoS rfl rfl rfl ?_ | (refine G.guardS rfl rfl rfl ?_ ?_ <;> intro hc <;> (try simp only [tests, reduceCtorEq] at hc) <;> (try exact Zf))) | (refine G.atBin ?_; first | (refine G.atAdd ?_; first | refine G.arith rfl rfl rfl rfl rfl Zi ?_) | (refine G.atEql ?_; first | refine G.op rfl rfl ?_) | (refine G.atRem ?_; first | (refine G.rem rfl rfl rfl rfl Zo ?_; intro _ _ _)) | (refine G.atQuo ?_; refine G.quo rfl rfl rfl rfl Zo Zi ?_) | refine G.op rfl rfl ?_) | refine G.op rfl rfl ?_ | (refine G.atBsl ?_; refine G.buildSlice (tyy rfl) (tyy rfl) rfl rfl rfl rfl ?_; intro _) | (refine G.atApp ?_; first | (refine G.append1B rfl rfl (tyy rfl) (tyy rfl) rfl rfl Za Za rfl Zo Zo ?_; intro _)) | (refine G.atInd ?_; refine G.idxStr rfl rfl (tyy rfl) rfl Zj Zo ?_; intro _) | (refine G.atConv ?_; first | refine G.conv rfl (tyy rfl) (tyy rfl) rfl Zi ?_))
        all_goals first
          | (have e := hm.1 ⟨by omega, by omega⟩
             have e1 : hexM a b = some (UInt8.ofNat n) := by unfold hexM; rw [e]; rfl
             have e2 : hexS a b = [] ++ [UInt8.ofNat ((n : Nat) : Int).toNat] := by unfold hexS; rw [e1]; rfl
             rw [<- e2]
             exact G.again ⟨n + 1, true, _⟩ ⟨sint (by simp), rfl, rfl, rfl, rfl, rfl, trivial⟩ (by simp only [if_true]; exact Zu) ⟨by simp only; omega, fun _ => by rw [e1]; rfl, fun e => Bool.noConfusion e⟩ (by solve | repeat first | assumption | exact Zr _ | refine Zq ?_ Zp) (by simp only; omega))
          | (have e : hexN a.toNat b.toNat ≠ some n := fun h => by have := hm.2 h; omega
             exact G.again ⟨n + 1, false, v3⟩ ⟨sint (by simp), rfl, rfl, rfl, rfl, rfl, trivial⟩ (by simp only [Bool.false_eq_true, if_false]; exact Zu) ⟨by simp only; omega, fun e => Bool.noConfusion e, fun _ m hm' => if h : m = n then h ▸ e else hno m (by simp only at hm'; omega)⟩ (by solve | repeat first | assumption | exact Zr _ | refine Zq ?_ Zp) (by simp only; omega))
      . obtain rfl : n = 256 := by omega
        have e1 : hexM a b = none := by
          unfold hexM
          cases hx : hexN a.toNat b.toNat with
          | none => rfl
          | some m => exact absurd hx (hno m (hexN_lt hx))
        have e2 : hexS a b = [] := by unfold hexS; rw [e1]
        rw [e1]
        repeat' (first | (refine G.atCode ?_; first | refine G.seq ?_ | refine G.region ?_ | refine G.exit rfl ?_ | refine G.ret ?_ | (refine G.cond rfl ?_ ?_ <;> intro hc <;> (try simp only [tests, reduceCtorEq] at hc) <;> (try exact Zf))) | refine G.endOps ?_ | (refine G.atGd ?_; first | refine G.guardNoS rfl rfl rfl ?_) | (refine G.atBin ?_; first | refine G.op rfl rfl ?_) | refine G.op rfl rfl ?_)
        all_goals first
          | (exfalso; omega)
          | exact G.done2 rfl rfl rfl _ (SubH.nil _) ⟨by rw [e2]; rfl, rfl⟩
end Go.Proofs.Ytahpemfnhepgoaa
