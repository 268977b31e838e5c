/- Filters: two digits a byte; a value as it is written. -/
import Derived.Test.YtcghcdnmpjhifaaDoorFlN
import Derived.Test.YtcghcdnmpjhifaaDoorFlO
namespace Go.Proofs.YtcghcdnmpjhifaaDoor
set_option linter.all false
open Go.RowKit

theorem callHex : Callable Tryd.prog 47 := ⟨_, Tryd.func47, by kernel_rfl, rfl⟩
theorem callFWritten : Callable Tryd.prog 35 := ⟨_, Tryd.func35, by kernel_rfl, rfl⟩
def digS : List UInt8 := [48, 49, 50, 51, 52, 53, 54, 55, 56, 57, 97, 98, 99, 100, 101, 102]
theorem digS_at : ∀ n : Fin 16, byteAt digS n.val = digN n.val := by decide
def hexB (c : UInt8) : List UInt8 := [UInt8.ofNat (digN (c.toNat / 16)), UInt8.ofNat (digN (c.toNat % 16))]
theorem digN_lt (n : Nat) (h : n < 16) : digN n < 256 := by unfold digN; split <;> omega
theorem hexB_rows (c : UInt8) : bytesR (hexB c) = [[.int .u8 (digN (c.toNat / 16) : Nat)], [.int .u8 (digN (c.toNat % 16) : Nat)]] := by
  have h := c.toNat_lt
  have h1 := digN_lt (c.toNat / 16) (by omega)
  have h2 := digN_lt (c.toNat % 16) (by omega)
  simp only [bytesR, hexB, List.map_cons, List.map_nil, UInt8.toNat_ofNat']
  rw [Nat.mod_eq_of_lt h1, Nat.mod_eq_of_lt h2]
set_option maxRecDepth 8000 in
set_option maxHeartbeats 1000000 in
theorem octet_Hex (c : UInt8) (h : Heap) : Spec Tryd.prog 47 [str [c]] h [] (fun u _ H' => u = str (hexB c) ∧ H' = []) := by
  have hc := c.toNat_lt
  have hbc : byteAt [c] 0 = c.toNat := rfl
  have hl : ([c] : List UInt8).length = 1 := rfl
  refine Spec.enter Tryd.func47 rfl rfl ?_; intro w0
  repeat' (first | (refine G.atMsl ?_; refine G.makeSlice0 rfl rfl (tyy rfl) (tyy rfl) (by first | omega | (simp only [lens] at *; omega)) rfl ?_; intro _) | (refine G.atCode ?_; refine G.stopLoop ?_) | (refine G.atCode ?_; first | refine G.seq ?_ | refine G.region ?_ | refine G.block ?_) | refine G.endOps ?_ | (refine G.atBin ?_; first | (refine G.atMul ?_; first | refine G.arith rfl rfl rfl rfl rfl (by simp only [inR]; omega) ?_)) | refine G.op rfl rfl ?_ | (refine G.atLen ?_; first | refine G.lenStr rfl (tyy rfl) rfl ?_ | refine G.lenRowB rfl (tyy rfl) (by solve | (repeat (first | apply Take.hd | apply Take.tl))) rfl ?_) | (refine G.atConv ?_; first | (refine G.convBytes rfl (tyy rfl) (tyy rfl) (tyy rfl) rfl (by first | omega | (simp only [lens] at *; omega)) ?_; intro _)))
  rename_i v0 v1
  refine G.go ?_
  refine G.loop (σ := Bool × Value) (fun x => [(13, .int .i64 (if x.1 then 1 else 0 : Nat)), (12, .int .i64 1), (11, v1), (3, x.2)]) (fun x => [.row v1 5 1 (bytesR [c]), .row x.2 5 1 (bytesR (if x.1 then hexB c else []))]) (fun x _ => True) (fun x => if x.1 then 0 else 1) ⟨false, v0⟩ ⟨rfl, rfl, rfl, rfl, trivial⟩ (by solve | (apply Takes.sub; (repeat (first | apply Takes.nil | apply Take.hd | apply Take.tl | apply Takes.cons)))) trivial ?_
  rintro ⟨d, v⟩ h1 hle1 _
  cases d with
  | true =>
    simp only [if_true]
    refine G.norm (by (try dsimp only) <;> exact rfl) (by (try dsimp only) <;> exact rfl) ?_
    repeat' (first | (refine G.atCode ?_; first | refine G.seq ?_ | refine G.region ?_ | refine G.exit rfl ?_ | refine G.ret ?_ | (refine G.cond rfl ?_ ?_ <;> intro hc <;> (try simp only [tests, reduceCtorEq] at hc) <;> (try (exfalso; first | omega | exact absurd hc (by with_reducible assumption) | exact absurd (by with_reducible assumption) hc | exact Bool.noConfusion hc | exact hc | exact hc trivial | fail)))) | refine G.endOps ?_ | (refine G.atBin ?_; first | refine G.op rfl rfl ?_) | refine G.op rfl rfl ?_ | (refine G.atConv ?_; first | refine G.convStr rfl (tyy rfl) (tyy rfl) (tyy rfl) (by solve | (repeat (first | apply Take.hd | apply Take.tl))) rfl ?_))
    all_goals first | (exfalso; omega) | exact G.done1 rfl rfl _ (SubH.nil _) ⟨rfl, rfl⟩
  | false =>
    simp only [Bool.false_eq_true, if_false]
    refine G.norm (by (try dsimp only) <;> exact rfl) (by (try dsimp only) <;> exact rfl) ?_
    have hand : byteAt [c] 0 &&& 15 ≤ 15 := Nat.and_le_right
    have hx1 : byteAt digS (((byteAt [c] 0 : Nat) : Int) / 2 ^ 4).toNat = digN (c.toNat / 16) := by
      have e9 : (((byteAt [c] 0 : Nat) : Int) / 2 ^ 4).toNat = c.toNat / 16 := by rw [hbc]; omega
      rw [e9]
      exact digS_at ⟨c.toNat / 16, by omega⟩
    have hx2 : byteAt digS (byteAt [c] 0 &&& 15) = digN (c.toNat % 16) := by
      rw [hbc, show c.toNat &&& 15 = c.toNat % 16 from Nat.and_two_pow_sub_one_eq_mod c.toNat 4]
      exact digS_at ⟨c.toNat % 16, by omega⟩
    repeat' (first | (refine G.atIdx ?_; refine G.idxRow' rfl rfl (tyy rfl) (tyy rfl) (by solve | (repeat (first | apply Take.hd | apply Take.tl))) (by first | (simp only [Int.reduceToNat]; rfl) | with_reducible apply Int.toNat_natCast | exact Eq.refl _) rfl (by rw [bytesR_length]; omega) ?_; intro _ _) | (refine G.atApp ?_; refine G.appendBlk (news := [[.int .u8 (byteAt digS (((byteAt [c] 0 : Nat) : Int) / 2 ^ 4).toNat : Nat)], [.int .u8 (byteAt digS (byteAt [c] 0 &&& 15) : Nat)]]) rfl rfl (tyy rfl) (tyy rfl) rfl rfl (by solve | (repeat (first | apply Take.hd | apply Take.tl))) (by solve | (repeat (first | apply Take.hd | apply Take.tl))) rfl rfl (fun q hq => by simp only [List.mem_cons, List.mem_nil_iff, or_false] at hq; rcases hq with rfl | rfl <;> rfl) rfl rfl (by simp only [List.length_cons, List.length_nil, bytesR_length]; omega) ?_; intro _) | (refine G.atCode ?_; first | refine G.seq ?_ | refine G.region ?_ | refine G.block ?_ | refine G.skip ?_ | refine G.anyIn mixedOk ?_ | (refine G.cond rfl ?_ ?_ <;> intro hc <;> (try simp only [tests, reduceCtorEq] at hc) <;> (try (exfalso; first | omega | exact absurd hc (by with_reducible assumption) | exact absurd (by with_reducible assumption) hc | exact Bool.noConfusion hc | exact hc | exact hc trivial | fail)))) | refine G.endOps ?_ | refine G.endHeld ?_ | refine G.back ?_ | refine G.endBlk ?_ | (refine G.atAny ?_; first | refine G.anyAutoX slB rfl rfl (by decide +kernel) (by first | apply Heap.none_le | apply Heap.le_refl | assumption | (refine Heap.le_trans ?_ (by assumption); assumption)) (by solve | (repeat (first | apply DropS.nil | (apply DropS.cons; rfl; solve | repeat (first | apply Take.hd | apply Take.tl)) | (apply DropS.rows; repeat (first | apply DropRows.nil | apply DropRows.drop | apply DropRows.keep)) | apply DropS.skip))) ?_ | refine G.anyOne rfl (by decide +kernel) (by first | apply Heap.none_le | apply Heap.le_refl | assumption | (refine Heap.le_trans ?_ (by assumption); assumption)) (by solve | (apply Takes.sub; (repeat (first | apply Takes.nil | apply Take.hd | apply Take.tl | apply Takes.cons)))) ?_ | refine G.anyEndX (by decide +kernel) ?_) | (refine G.atBin ?_; first | (refine G.atAdd ?_; first | refine G.arith rfl rfl rfl rfl rfl (by simp only [inR]; omega) ?_) | (refine G.atShr ?_; refine G.shr rfl rfl (by first | (simp only [Int.reduceToNat]; rfl) | with_reducible apply Int.toNat_natCast | exact Eq.refl _) rfl (by simp only [IntKind.bits]; omega) rfl ?_) | refine G.op rfl rfl ?_ | refine G.bit rfl rfl rfl (by first | (simp only [Int.reduceToNat]; rfl) | with_reducible apply Int.toNat_natCast | exact Eq.refl _) (by first | (simp only [Int.reduceToNat]; rfl) | with_reducible apply Int.toNat_natCast | exact Eq.refl _) rfl rfl (by simp only [lim]; omega) (by simp only [lim]; omega) ?_) | refine G.op rfl rfl ?_ | (refine G.atLoad ?_; first | (refine G.loadRowB rfl (tyy rfl) (by assumption) (by solve | (repeat (first | apply Take.hd | apply Take.tl))) (by first | omega | (simp only [lens] at *; omega)) rfl ?_; intro _)) | (refine G.atBsl ?_; refine G.buildSlice (tyy rfl) (tyy rfl) rfl rfl rfl rfl ?_; intro _) | (refine G.atInd ?_; refine G.idxStr rfl rfl (tyy rfl) rfl (by first | (simp only [Int.reduceToNat]; rfl) | with_reducible apply Int.toNat_natCast | exact Eq.refl _) (by first | omega | (simp only [lens] at *; omega)) ?_; intro _))
    rw [hx1, hx2, show bytesR [] ++ [[Value.int .u8 (digN (c.toNat / 16) : Nat)], [.int .u8 (digN (c.toNat % 16) : Nat)]] = bytesR (hexB c) from (hexB_rows c).symm]
    exact G.again ⟨true, _⟩ ⟨rfl, rfl, rfl, rfl, trivial⟩ (by solve | (apply Takes.sub; (repeat (first | apply Takes.nil | apply Take.hd | apply Take.tl | apply Takes.cons)))) trivial (by solve | (repeat (first | assumption | exact Heap.le_refl _ | (refine Heap.le_trans ?_ (by assumption))))) (by simp)
def esF : List UInt8 := [40, 41, 42, 92]
theorem esc_pos : ∀ n : Fin 256, isEsc (UInt8.ofNat n.val) ↔ (n.val = 0 ∨ posB (UInt8.ofNat n.val) esF < esF.length) := by decide +kernel
theorem escB_yes {b : UInt8} (h : isEsc b) : escB b = 92 :: hexB b := by unfold escB hexB; rw [if_pos h]
theorem escB_no {b : UInt8} (h : ¬ isEsc b) : escB b = [b] := by unfold escB; rw [if_neg h]
theorem escS_take {s : List UInt8} {i : Nat} (h : i < s.length) : escS (s.take (i + 1)) = escS (s.take i) ++ escB s[i] := by
  rw [List.take_succ_eq_append_getElem h, escS_app]; simp [escS]
set_option maxRecDepth 8000 in
set_option maxHeartbeats 1000000 in
theorem filt_written (s : List UInt8) (hs : s.length ≤ 100000000) (h : Heap) : Spec Tryd.prog 35 [str s] h [] (fun u _ H' => u = str (escS s) ∧ H' = []) := by
  refine Spec.enter Tryd.func35 rfl rfl ?_; intro w0
  repeat' (first | (refine G.atCode ?_; refine G.stopLoop ?_) | (refine G.atCode ?_; first | refine G.seq ?_ | refine G.region ?_ | refine G.block ?_) | refine G.endOps ?_ | refine G.op rfl rfl ?_ | (refine G.atLen ?_; first | refine G.lenRowB rfl (tyy rfl) (by solve | (repeat (first | apply Take.hd | apply Take.tl))) rfl ?_) | (refine G.atConv ?_; first | (refine G.convBytes rfl (tyy rfl) (tyy rfl) (tyy rfl) rfl (by first | omega | (simp only [lens] at *; omega)) ?_; intro _)))
  rename_i v
  refine G.nilRowB 5 ?_
  refine G.go ?_
  refine G.loop (σ := Nat × Value) (fun x => [(9, .int .i64 x.1), (8, .int .i64 s.length), (7, v), (3, x.2)])
    (fun x => [.row v 5 1 (bytesR s), .row x.2 5 1 (bytesR (escS (s.take x.1)))])
    (fun x _ => x.1 ≤ s.length) (fun x => s.length - x.1) ⟨0, .slice none 0 0⟩ ⟨rfl, rfl, rfl, rfl, trivial⟩ (by solve | (apply Takes.sub; (repeat (first | apply Takes.nil | apply Take.hd | apply Take.tl | apply Takes.cons)))) (Nat.zero_le _) ?_
  rintro ⟨i, v2⟩ h1 hle1 hi
  simp only at hi
  refine G.norm (by (try dsimp only) <;> exact rfl) (by (try dsimp only) <;> exact rfl) ?_
  have hel := escS_len (s.take i)
  rw [List.length_take] at hel
  by_cases hlt : i < s.length
  · have hst := escS_take hlt
    have hof := ofNat_byteAt hlt
    have hcb := byteAt_lt s i
    have hp := esc_pos ⟨byteAt s i, hcb⟩
    simp only at hp
    generalize escS (s.take i) = B at *
    have hhl : (hexB s[i]).length = 2 := rfl
    rw [hof] at hp
    by_cases he : isEsc s[i]
    · rw [escB_yes he] at hst
      have hp := hp.1 he
      rw [← hof] at hp
      repeat' (first | (refine G.atIdx ?_; refine G.idxRow' rfl rfl (tyy rfl) (tyy rfl) (by solve | (repeat (first | apply Take.hd | apply Take.tl))) (by first | (simp only [Int.reduceToNat]; rfl) | with_reducible apply Int.toNat_natCast | exact Eq.refl _) rfl (by rw [bytesR_length]; omega) ?_; intro _ _) | (show G _ (.ops .seq _ (⟨some _, .call { callee := .value (.func 46), args := _, argTypes := _ }, _, _, _, none⟩ :: _) :: _) _ _ _; refine G.call callIdxB rfl rfl (str_IndexByte esF (byteAt s i) hcb _) (by solve | (repeat (first | apply Takes.nil | apply Take.hd | apply Take.tl | apply Takes.cons))) ?_; rintro _ h2 H2 ⟨rfl, rfl⟩ hle2) | (show G _ (.ops .seq _ (⟨some _, .call { callee := .value (.func 47), args := _, argTypes := _ }, _, _, _, none⟩ :: _) :: _) _ _ _; (try rw [Int.toNat_natCast]); (try rw [hof]); refine G.call callHex rfl rfl (octet_Hex s[i] _) (by solve | (repeat (first | apply Takes.nil | apply Take.hd | apply Take.tl | apply Takes.cons))) ?_; rintro _ h3 H3 ⟨rfl, rfl⟩ hle3) | (refine G.atCode ?_; first | refine G.seq ?_ | refine G.region ?_ | refine G.block ?_ | refine G.skip ?_ | (refine G.cond rfl ?_ ?_ <;> intro hc <;> (try simp only [tests, reduceCtorEq] at hc) <;> (try (exfalso; first | omega | exact absurd hc (by with_reducible assumption) | exact absurd (by with_reducible assumption) hc | exact Bool.noConfusion hc | exact hc | exact hc trivial | fail)))) | refine G.endOps ?_ | refine G.endBlk ?_ | (refine G.atGd ?_; first | refine G.guardYes rfl rfl ?_ | refine G.guardNoS rfl rfl rfl ?_ | (refine G.guardS rfl rfl rfl ?_ ?_ <;> intro hc <;> (try simp only [tests, reduceCtorEq] at hc) <;> (try (exfalso; first | omega | exact absurd hc (by with_reducible assumption) | exact absurd (by with_reducible assumption) hc | exact Bool.noConfusion hc | exact hc | exact hc trivial | fail)))) | (refine G.atBin ?_; first | (refine G.atAdd ?_; first | refine G.arith rfl rfl rfl rfl rfl (by simp only [inR]; omega) ?_ | refine G.catStr rfl rfl rfl (by first | omega | (simp only [lens] at *; omega)) ?_) | (refine G.atEql ?_; first | refine G.op rfl rfl ?_) | refine G.op rfl rfl ?_) | refine G.op rfl rfl ?_ | (refine G.atLoad ?_; first | (refine G.loadRowB rfl (tyy rfl) (by assumption) (by solve | (repeat (first | apply Take.hd | apply Take.tl))) (by first | omega | (simp only [lens] at *; omega)) rfl ?_; intro _)) | (refine G.atBsl ?_; refine G.buildSlice (tyy rfl) (tyy rfl) rfl rfl rfl rfl ?_; intro _) | (refine G.atApp ?_; first | (refine G.appendStr rfl rfl (tyy rfl) (tyy rfl) (tyy rfl) rfl rfl (by solve | (repeat (first | apply Take.hd | apply Take.tl))) rfl (by first | omega | (simp only [lens] at *; omega)) ?_; intro _)) | (refine G.atConv ?_; first | refine G.convStrBlk1 rfl (tyy rfl) (tyy rfl) (tyy rfl) (by solve | (repeat (first | apply Take.hd | apply Take.tl))) (by first | omega | (simp only [lens] at *; omega)) rfl ?_))
      all_goals first
        | exact G.again ⟨i + 1, _⟩ ⟨sint (by simp), rfl, rfl, rfl, trivial⟩ (by rw [hst]; exact (by solve | (apply Takes.sub; (repeat (first | apply Takes.nil | apply Take.hd | apply Take.tl | apply Takes.cons))))) (by simp only; omega) (by solve | (repeat (first | assumption | exact Heap.le_refl _ | (refine Heap.le_trans ?_ (by assumption))))) (by simp only; omega)
        | (exfalso; rename_i q; rw [if_neg (by omega)] at q; omega)
        | (exfalso; rename_i q _; rw [if_pos (by omega)] at q; omega)
        | (exfalso; omega)
        | skip
    · rw [escB_no he] at hst
      have hp := fun h9 => he (hp.2 h9)
      rw [← hof] at hp
      repeat' (first | (refine G.atIdx ?_; refine G.idxRow' rfl rfl (tyy rfl) (tyy rfl) (by solve | (repeat (first | apply Take.hd | apply Take.tl))) (by first | (simp only [Int.reduceToNat]; rfl) | with_reducible apply Int.toNat_natCast | exact Eq.refl _) rfl (by rw [bytesR_length]; omega) ?_; intro _ _) | (show G _ (.ops .seq _ (⟨some _, .call { callee := .value (.func 46), args := _, argTypes := _ }, _, _, _, none⟩ :: _) :: _) _ _ _; refine G.call callIdxB rfl rfl (str_IndexByte esF (byteAt s i) hcb _) (by solve | (repeat (first | apply Takes.nil | apply Take.hd | apply Take.tl | apply Takes.cons))) ?_; rintro _ h2 H2 ⟨rfl, rfl⟩ hle2) | (show G _ (.ops .seq _ (⟨some _, .call { callee := .value (.func 47), args := _, argTypes := _ }, _, _, _, none⟩ :: _) :: _) _ _ _; (try rw [Int.toNat_natCast]); (try rw [hof]); refine G.call callHex rfl rfl (octet_Hex s[i] _) (by solve | (repeat (first | apply Takes.nil | apply Take.hd | apply Take.tl | apply Takes.cons))) ?_; rintro _ h3 H3 ⟨rfl, rfl⟩ hle3) | (refine G.atCode ?_; first | refine G.seq ?_ | refine G.region ?_ | refine G.block ?_ | refine G.skip ?_ | (refine G.cond rfl ?_ ?_ <;> intro hc <;> (try simp only [tests, reduceCtorEq] at hc) <;> (try (exfalso; first | omega | exact absurd hc (by with_reducible assumption) | exact absurd (by with_reducible assumption) hc | exact Bool.noConfusion hc | exact hc | exact hc trivial | fail)))) | refine G.endOps ?_ | refine G.endBlk ?_ | (refine G.atGd ?_; first | refine G.guardYes rfl rfl ?_ | refine G.guardNoS rfl rfl rfl ?_ | (refine G.guardS rfl rfl rfl ?_ ?_ <;> intro hc <;> (try simp only [tests, reduceCtorEq] at hc) <;> (try (exfalso; first | omega | exact absurd hc (by with_reducible assumption) | exact absurd (by with_reducible assumption) hc | exact Bool.noConfusion hc | exact hc | exact hc trivial | fail)))) | (refine G.atBin ?_; first | (refine G.atAdd ?_; first | refine G.arith rfl rfl rfl rfl rfl (by simp only [inR]; omega) ?_ | refine G.catStr rfl rfl rfl (by first | omega | (simp only [lens] at *; omega)) ?_) | (refine G.atEql ?_; first | refine G.op rfl rfl ?_) | refine G.op rfl rfl ?_) | refine G.op rfl rfl ?_ | (refine G.atLoad ?_; first | (refine G.loadRowB rfl (tyy rfl) (by assumption) (by solve | (repeat (first | apply Take.hd | apply Take.tl))) (by first | omega | (simp only [lens] at *; omega)) rfl ?_; intro _)) | (refine G.atBsl ?_; refine G.buildSlice (tyy rfl) (tyy rfl) rfl rfl rfl rfl ?_; intro _) | (refine G.atApp ?_; first | (refine G.append1B rfl rfl (tyy rfl) (tyy rfl) rfl rfl (by solve | (repeat (first | apply Take.hd | apply Take.tl))) (by solve | (repeat (first | apply Take.hd | apply Take.tl))) rfl (by first | omega | (simp only [lens] at *; omega)) (by first | omega | (simp only [lens] at *; omega)) ?_; intro _) | (refine G.appendStr rfl rfl (tyy rfl) (tyy rfl) (tyy rfl) rfl rfl (by solve | (repeat (first | apply Take.hd | apply Take.tl))) rfl (by first | omega | (simp only [lens] at *; omega)) ?_; intro _)) | (refine G.atConv ?_; first | refine G.convStrBlk1 rfl (tyy rfl) (tyy rfl) (tyy rfl) (by solve | (repeat (first | apply Take.hd | apply Take.tl))) (by first | omega | (simp only [lens] at *; omega)) rfl ?_))
      all_goals first
        | (exfalso; exact hp (.inl (by omega)))
        | (rw [Int.toNat_natCast, hof, ← hst]; exact G.again ⟨i + 1, _⟩ ⟨sint (by simp), rfl, rfl, rfl, trivial⟩ (by solve | (apply Takes.sub; (repeat (first | apply Takes.nil | apply Take.hd | apply Take.tl | apply Takes.cons)))) (by simp only; omega) (by solve | (repeat (first | assumption | exact Heap.le_refl _ | (refine Heap.le_trans ?_ (by assumption))))) (by simp only; omega))
        | (exfalso; rw [if_neg (fun q => hp (.inr q))] at hc; omega)
  · obtain rfl : i = s.length := by omega
    rw [List.take_of_length_le (Nat.le_refl _)]
    repeat' (first | (refine G.atCode ?_; first | refine G.seq ?_ | refine G.region ?_ | refine G.exit rfl ?_ | refine G.ret ?_ | (refine G.cond rfl ?_ ?_ <;> intro hc <;> (try simp only [tests, reduceCtorEq] at hc) <;> (try (exfalso; first | omega | exact absurd hc (by with_reducible assumption) | exact absurd (by with_reducible assumption) hc | exact Bool.noConfusion hc | exact hc | exact hc trivial | fail)))) | refine G.endOps ?_ | (refine G.atBin ?_; first | refine G.op rfl rfl ?_) | refine G.op rfl rfl ?_ | (refine G.atConv ?_; first | refine G.convStr rfl (tyy rfl) (tyy rfl) (tyy rfl) (by solve | (repeat (first | apply Take.hd | apply Take.tl))) rfl ?_))
    all_goals first | (exfalso; omega) | exact G.done1 rfl rfl _ (SubH.nil _) ⟨rfl, rfl⟩
end Go.Proofs.YtcghcdnmpjhifaaDoor
namespace Go.Proofs.YtcghcdnmpjhifaaDoor
set_option linter.all false
open Go.RowKit

theorem pcTA_len : ∀ ps : Pcs, (pcTA ps).length ≤ 1 + 4 * pcW ps
  | [] => by simp [pcTA]
  | (k, t) :: ps => by
    have ih := pcTA_len ps
    have hl := (escS_len t).2
    rw [pcTA]
    split <;> simp only [pcW, List.length_cons, List.length_append] <;> omega
theorem pcT_len (ps : Pcs) : (pcT ps).length ≤ 1 + 4 * pcW ps := by
  match ps with
  | [] => exact pcTA_len []
  | (k, t) :: ps =>
    by_cases hk : k = 0
    · have ih := pcTA_len ps
      have hl := (escS_len t).2
      rw [pcT, if_pos hk]
      simp only [pcW, List.length_append]; omega
    · rw [pcT, if_neg hk]; exact pcTA_len _
theorem sgT_len (k : Int) : 1 ≤ (sgT k).length ∧ (sgT k).length ≤ 2 := by
  unfold sgT
  split
  · decide
  · split
    · decide
    · split <;> decide
theorem opT_len (k : Int) : (opT k).length = 1 := by unfold opT; split; rfl; split <;> rfl
theorem txF_mk {k : Int} {a v : List UInt8} {ps : Pcs} {ks : List Fl} : txF (.mk k a v ps ks) = 40 :: ((if k ≤ 2 then opT k ++ txFs ks else txB k a v ps) ++ [41]) := by rw [txF]
mutual
theorem txF_len8 : ∀ f : Fl, (txF f).length ≤ 8 * f.wt
  | .mk k a v ps ks => by
    have h1 := txFs_len8 ks
    have h2 := pcT_len ps
    have h3 := (escS_len v).2
    have h4 := (sgT_len k).2
    have h5 := opT_len k
    rw [txF_mk]
    by_cases hk : k ≤ 2
    · rw [if_pos hk]; simp only [Fl.wt, List.length_cons, List.length_append, List.length_nil]; omega
    · rw [if_neg hk]
      unfold txB
      by_cases h7 : k = 7
      · rw [if_pos h7]; simp only [Fl.wt, List.length_cons, List.length_append, List.length_nil]; omega
      · rw [if_neg h7]
        by_cases h4 : k = 4
        · rw [if_pos h4]; simp only [Fl.wt, List.length_cons, List.length_append, List.length_nil]; omega
        · rw [if_neg h4]; simp only [Fl.wt, List.length_cons, List.length_append, List.length_nil]; omega
theorem txFs_len8 : ∀ ks : List Fl, (txFs ks).length ≤ 8 * flwt ks
  | [] => by simp [txFs]
  | k :: ks => by
    have := txF_len8 k
    have := txFs_len8 ks
    simp only [txFs, flwt, List.length_append]; omega
end
theorem txFs_app : ∀ (a b : List Fl), txFs (a ++ b) = txFs a ++ txFs b
  | [], b => by simp [txFs]
  | k :: a, b => by simp [txFs, txFs_app a b]
theorem okF_kids {k : Int} {a v : List UInt8} {ps : Pcs} {ks : List Fl} (h : okF (.mk k a v ps ks)) (hk : k ≤ 2) : okFs ks := by simp only [okF] at h; exact (h.2.2.1 hk).2
theorem okF_pcs {k : Int} {a v : List UInt8} {ps : Pcs} {ks : List Fl} (h : okF (.mk k a v ps ks)) (hk : k = 4) : pcsOk ps = true := by simp only [okF] at h; exact (h.2.2.2 (by omega)).2 hk
theorem okF_rng {k : Int} {a v : List UInt8} {ps : Pcs} {ks : List Fl} (h : okF (.mk k a v ps ks)) : 0 ≤ k ∧ k ≤ 8 := by simp only [okF] at h; exact ⟨h.1, h.2.1⟩
theorem okFs_get : ∀ {ks : List Fl} {i : Nat} {f : Fl}, okFs ks → ks[i]? = some f → okF f
  | [], i, f, _, h => by simp at h
  | k :: ks, 0, f, hk, h => by simp at h; subst h; simp only [okFs] at hk; exact hk.1
  | k :: ks, i + 1, f, hk, h => by simp only [okFs] at hk; exact okFs_get hk.2 (by simpa using h)
theorem pcsOk_F {ps : Pcs} (h : pcsOk ps = true) : pcsOkF true ps = true ∧ ps ≠ [] := by
  unfold pcsOk at h
  simp only [Bool.and_eq_true, decide_eq_true_eq] at h
  exact ⟨h.2, h.1⟩
theorem flwt_takeY : ∀ (ks : List Fl) (i : Nat), flwt (ks.take i) ≤ flwt ks
  | [], i => by simp [flwt]
  | k :: ks, 0 => by simp [flwt]
  | k :: ks, i + 1 => by have := flwt_takeY ks i; simp only [List.take_succ_cons, flwt]; omega
theorem txFs_drop {ks : List Fl} {i : Nat} {f : Fl} (h : ks[i]? = some f) : (txFs (ks.drop i)).length = (txF f).length + (txFs (ks.drop (i + 1))).length := by
  obtain ⟨hlt, he⟩ := List.getElem?_eq_some_iff.1 h
  rw [List.drop_eq_getElem_cons hlt, he, txFs, List.length_append]
theorem pcTA_cons1 {t : List UInt8} {r : Pcs} : pcTA ((1, t) :: r) = 42 :: (escS t ++ pcTA r) := by rw [pcTA, if_neg (by decide)]
theorem pcTA_cons2 {t : List UInt8} : pcTA [(2, t)] = 42 :: escS t := by rw [pcTA, if_pos rfl]
/-- From the i-th piece on. -/
def pcRem (ps : Pcs) (i : Nat) : List UInt8 := if i = 0 then pcT ps else pcTA (ps.drop i)
theorem pcsOk_drop {ps : Pcs} (h : pcsOkF true ps = true) : ∀ i, pcsOkF (decide (i = 0)) (ps.drop i) = true
  | 0 => h
  | i + 1 => by
    have ih := pcsOk_drop h i
    by_cases hi : i < ps.length
    · rw [List.drop_eq_getElem_cons hi] at ih
      exact (pcsOkF_cons (k := ps[i].1) (t := ps[i].2) ih).2.2
    · rw [List.drop_eq_nil_of_le (by omega)]; rfl
/-- What stands at the i-th place. -/
theorem pcRem_at {ps : Pcs} (h : pcsOkF true ps = true) {i : Nat} {k : Int} {t : List UInt8} (hp : ps[i]? = some (k, t)) :
    t ≠ [] ∧ ((k = 0 ∧ i = 0 ∧ pcRem ps i = escS t ++ pcRem ps (i + 1)) ∨ (k = 1 ∧ pcRem ps i = 42 :: (escS t ++ pcRem ps (i + 1))) ∨ (k = 2 ∧ i + 1 = ps.length ∧ pcRem ps i = 42 :: escS t)) := by
  obtain ⟨hlt, he⟩ := List.getElem?_eq_some_iff.1 hp
  have hd := pcsOk_drop h i
  have hcons := List.drop_eq_getElem_cons hlt
  rw [he] at hcons
  rw [hcons] at hd
  obtain ⟨h1, h2, h3⟩ := pcsOkF_cons hd
  have hr1 : pcRem ps (i + 1) = pcTA (ps.drop (i + 1)) := by unfold pcRem; rw [if_neg (by omega)]
  refine ⟨h1, ?_⟩
  rw [hr1]
  unfold pcRem
  rcases h2 with rfl | ⟨rfl, h2⟩ | ⟨rfl, h2⟩
  · refine .inr (.inl ⟨rfl, ?_⟩)
    by_cases hi : i = 0
    · subst hi
      rw [if_pos rfl]
      rw [List.drop_zero] at hcons
      rw [hcons, pcT, if_neg (by decide), pcTA_cons1]; rfl
    · rw [if_neg hi, hcons, pcTA_cons1]
  · have hi : i = 0 := of_decide_eq_true h2
    subst hi
    refine .inl ⟨rfl, rfl, ?_⟩
    rw [List.drop_zero] at hcons
    rw [if_pos rfl, hcons, pcT, if_pos rfl]; rfl
  · refine .inr (.inr ⟨rfl, ?_, ?_⟩)
    · have := congrArg List.length h2
      rw [List.length_drop] at this
      simp at this; omega
    · by_cases hi : i = 0
      · subst hi
        rw [if_pos rfl]
        rw [List.drop_zero] at hcons
        rw [hcons, pcT, if_neg (by decide), h2, pcTA_cons2]
      · rw [if_neg hi, hcons, h2, pcTA_cons2]
theorem pcRem_end {ps : Pcs} (h : ps ≠ []) : pcRem ps ps.length = [42] := by
  unfold pcRem
  rw [if_neg (fun e => h (List.eq_nil_of_length_eq_zero e)), List.drop_length]; rfl
end Go.Proofs.YtcghcdnmpjhifaaDoor
