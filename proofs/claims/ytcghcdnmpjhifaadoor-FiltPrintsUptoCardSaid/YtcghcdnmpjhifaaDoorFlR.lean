/- Filters: the reference's is, bad, item. -/
import Derived.Test.YtcghcdnmpjhifaaDoorFlF
import Derived.Test.YtcghcdnmpjhifaaDoorOcD
namespace Go.Proofs.YtcghcdnmpjhifaaDoor
set_option linter.all false
set_option maxRecDepth 4000
open Go.RowKit

theorem callIs : Callable Tryd.prog 30 := ⟨_, Tryd.func30, by kernel_rfl, rfl⟩
theorem callBad : Callable Tryd.prog 31 := ⟨_, Tryd.func31, by kernel_rfl, rfl⟩
theorem callRItem : Callable Tryd.prog 32 := ⟨_, Tryd.func32, by kernel_rfl, rfl⟩
abbrev rdf (g : Nat) (S : List UInt8) (a : Nat) (n b : Int) : Chunk := .blk g [str S, .int .i64 a, .int .i64 n, .int .i64 b] 51
theorem preM_at {S : List UInt8} {a c : Nat} (h : a < S.length) (hc : c < 256) : preM [UInt8.ofNat c] (S.drop a) = decide (byteAt S a = c) := by
  unfold preM
  rw [byteAt_eq h, List.drop_eq_getElem_cons h]
  simp only [List.length_cons, List.length_nil, List.take_succ_cons, List.take_zero, List.cons.injEq, and_true]
  refine decide_eq_decide.2 ⟨fun e => by rw [e]; simp [UInt8.toNat_ofNat']; omega, fun e => by rw [<- e]; simp⟩
theorem preM_out {S : List UInt8} {a : Nat} {c : UInt8} (h : ¬ a < S.length) : preM [c] (S.drop a) = false := by
  rw [List.drop_eq_nil_of_le (by omega)]; rfl
theorem ref_is (g : Nat) (S : List UInt8) (a : Nat) (n b : Int) (c : Nat) (hc : c < 256) (hS : S.length <= 1000000000) (ha : a <= S.length) (h : Heap) :
    Spec Tryd.prog 30 [.pointer (some ⟨g, 0, none⟩), .int .u8 c] h [rdf g S a n b] (fun u _ H' => u = .bool (preM [UInt8.ofNat c] (S.drop a)) /\ H' = [rdf g S (if preM [UInt8.ofNat c] (S.drop a) = true then a + 1 else a) n b]) := by
  unfold rdf
  by_cases hlt : a < S.length
  . rw [preM_at hlt hc]
    by_cases hb : byteAt S a = c
    . rw [decide_eq_true hb, if_pos rfl]
      refine Spec.enter Tryd.func30 rfl rfl ?_; intro w0
      repeat' (first | (refine G.atCode ?_; first | refine G.seq ?_ | refine G.region ?_ | refine G.drawAll slB Zw mixedOk Zw ?_ | refine G.ret ?_ | (refine G.cond rfl ?_ ?_ <;> intro hc <;> (try simp only [tests, reduceCtorEq] at hc) <;> (try exact Zf))) | refine G.endOps ?_ | refine G.endStill ?_ | (refine G.atGd ?_; first | refine G.guardYes rfl rfl ?_ | (refine G.guardS rfl rfl rfl ?_ ?_ <;> intro hc <;> (try simp only [tests, reduceCtorEq] at hc) <;> (try exact Zf))) | (refine G.atBin ?_; first | (refine G.atAdd ?_; first | refine G.arith rfl rfl rfl rfl rfl Zi ?_) | (refine G.atEql ?_; first | refine G.op rfl rfl ?_) | refine G.op rfl rfl ?_) | refine G.op rfl rfl ?_ | (refine G.atLen ?_; first | refine G.lenStr rfl (tyy rfl) rfl ?_) | (refine G.atLoad ?_; first | refine G.loadOwn1 rfl (tyy rfl) rfl rfl Za rfl rfl ?_) | (refine G.atFld ?_; first | refine G.fieldAddr rfl (tyy rfl) rfl rfl ?_) | (refine G.atSto ?_; refine G.storeOwn rfl rfl (tyy rfl) Za rfl rfl rfl rfl ?_) | (refine G.atInd ?_; refine G.idxStr rfl rfl (tyy rfl) rfl Zj Zo ?_; intro _))
      all_goals first | (exfalso; omega) | exact G.done1 rfl rfl [rdf g S (a + 1) n b] Zu ⟨rfl, rfl⟩
    . rw [decide_eq_false hb, if_neg (by simp)]
      refine Spec.enter Tryd.func30 rfl rfl ?_; intro w0
      repeat' (first | (refine G.atCode ?_; first | refine G.seq ?_ | refine G.region ?_ | refine G.skip ?_ | refine G.drawAll slB Zw mixedOk Zw ?_ | refine G.ret ?_ | (refine G.cond rfl ?_ ?_ <;> intro hc <;> (try simp only [tests, reduceCtorEq] at hc) <;> (try exact Zf))) | refine G.endOps ?_ | refine G.endStill ?_ | (refine G.atGd ?_; first | refine G.guardYes rfl rfl ?_ | (refine G.guardS rfl rfl rfl ?_ ?_ <;> intro hc <;> (try simp only [tests, reduceCtorEq] at hc) <;> (try exact Zf))) | (refine G.atBin ?_; first | (refine G.atEql ?_; first | refine G.op rfl rfl ?_) | refine G.op rfl rfl ?_) | refine G.op rfl rfl ?_ | (refine G.atLen ?_; first | refine G.lenStr rfl (tyy rfl) rfl ?_) | (refine G.atLoad ?_; first | refine G.loadOwn1 rfl (tyy rfl) rfl rfl Za rfl rfl ?_) | (refine G.atFld ?_; first | refine G.fieldAddr rfl (tyy rfl) rfl rfl ?_) | (refine G.atInd ?_; refine G.idxStr rfl rfl (tyy rfl) rfl Zj Zo ?_; intro _))
      all_goals first | (exfalso; omega) | exact G.done1 rfl rfl [rdf g S a n b] Zu ⟨rfl, rfl⟩
  . rw [preM_out hlt, if_neg (by simp)]
    refine Spec.enter Tryd.func30 rfl rfl ?_; intro w0
    repeat' (first | (refine G.atCode ?_; first | refine G.seq ?_ | refine G.region ?_ | refine G.skip ?_ | refine G.drawAll slB Zw mixedOk Zw ?_ | refine G.ret ?_ | (refine G.cond rfl ?_ ?_ <;> intro hc <;> (try simp only [tests, reduceCtorEq] at hc) <;> (try exact Zf))) | refine G.endOps ?_ | refine G.endStill ?_ | (refine G.atGd ?_; first | refine G.guardNoS rfl rfl rfl ?_ | (refine G.guardS rfl rfl rfl ?_ ?_ <;> intro hc <;> (try simp only [tests, reduceCtorEq] at hc) <;> (try exact Zf))) | (refine G.atBin ?_; first | refine G.op rfl rfl ?_) | refine G.op rfl rfl ?_ | (refine G.atLen ?_; first | refine G.lenStr rfl (tyy rfl) rfl ?_) | (refine G.atLoad ?_; first | refine G.loadOwn1 rfl (tyy rfl) rfl rfl Za rfl rfl ?_) | (refine G.atFld ?_; first | refine G.fieldAddr rfl (tyy rfl) rfl rfl ?_))
    all_goals first | (exfalso; omega) | exact G.done1 rfl rfl [rdf g S a n b] Zu ⟨rfl, rfl⟩
theorem ref_bad (g : Nat) (S : List UInt8) (a : Nat) (n e : Int) (h : Heap) :
    Spec Tryd.prog 31 [.pointer (some ⟨g, 0, none⟩), .int .i64 e] h [rdf g S a n 0] (fun u _ H' => u = zFv /\ H' = [rdf g S a n e]) := by
  unfold rdf
  refine Spec.enter Tryd.func31 rfl rfl ?_; intro w0
  repeat' (first | (refine G.atCode ?_; first | refine G.seq ?_ | refine G.region ?_ | refine G.ret ?_ | (refine G.cond rfl ?_ ?_ <;> intro hc <;> (try simp only [tests, reduceCtorEq] at hc) <;> (try exact Zf))) | refine G.endOps ?_ | (refine G.atBin ?_; first | (refine G.atEql ?_; first | refine G.op rfl rfl ?_)) | refine G.op rfl rfl ?_ | (refine G.atLoad ?_; first | refine G.loadOwn1 rfl (tyy rfl) rfl rfl Za rfl rfl ?_) | (refine G.atFld ?_; first | refine G.fieldAddr rfl (tyy rfl) rfl rfl ?_) | (refine G.atSto ?_; refine G.storeOwn rfl rfl (tyy rfl) Za rfl rfl rfl rfl ?_) | (refine G.atAlc ?_; refine G.alloc (tyy rfl) rfl rfl ?_; intro _) | (refine G.atBld ?_; refine G.build (tyy rfl) rfl rfl rfl ?_))
  all_goals first | (exfalso; omega) | exact G.done (rs := [.cell 4 25]) rfl (.cellA rfl (tyy rfl) rfl rfl Za rfl .nil) rfl [rdf g S a n e] Zu ⟨rfl, rfl⟩
def combS (P : List (List UInt8)) (B : List UInt8) : Option (List (List UInt8) × List UInt8) -> Option (List (List UInt8) × List UInt8)
  | none => none
  | some ([], r) => some (P ++ [B], r)
  | some (p :: ps, r) => some (P ++ (B ++ p) :: ps, r)
theorem combS_star {P : List (List UInt8)} {B : List UInt8} {x : Option (List (List UInt8) × List UInt8)} (hx : ∀ r, x ≠ some ([], r)) : combS P B (x.map fun y => ([] :: y.1, y.2)) = combS (P ++ [B]) [] x := by
  match x, hx with
  | none, _ => rfl
  | some ([], r), hx => exact absurd rfl (hx r)
  | some (p :: ps, r), _ => simp [combS]
theorem combS_push {P : List (List UInt8)} {B : List UInt8} {z : UInt8} {x : Option (List (List UInt8) × List UInt8)} : combS P B (x.map (pushB z)) = combS P (B ++ [z]) x := by
  match x with
  | none => rfl
  | some ([], r) => simp [combS, pushB]
  | some (p :: ps, r) => simp [combS, pushB]
theorem scanM_ne (s : List UInt8) : ∀ r, scanM s ≠ some ([], r) := fun r h => (scanM_len h).2 rfl
def ItemQ (g : Nat) (S : List UInt8) (n : Int) (u : Value) (h' : Heap) (H' : List Chunk) : Option (Fl × List UInt8) -> Prop
  | none => u = zFv /\ ∃ a', H' = [rdf g S a' n 4]
  | some (f, r) => ∃ a', a' <= S.length /\ S.drop a' = r /\ H' = [rdf g S a' n 0] /\ ∃ c, FlC h' f c /\ u = .agg c.toArray
theorem signM_61 (c : UInt8) (k : Int) (hc : c = 62 /\ k = 5 \/ c = 60 /\ k = 6 \/ c = 126 /\ k = 8) (T : List UInt8) (h : preM [c] T = true) : signM T = if preM [61] (T.drop 1) = true then some (k, T.drop 2) else none := by
  obtain ⟨l, rfl⟩ := preM_one h
  rw [signM_eq, if_neg (by rcases hc with ⟨rfl, _⟩ | ⟨rfl, _⟩ | ⟨rfl, _⟩ <;> decide)]
  simp only [List.drop_succ_cons, List.drop_zero]
  cases l with
  | nil => rfl
  | cons x r =>
    simp only
    by_cases hx : x.toNat = 61
    . obtain rfl := byte_of hx (by decide)
      rw [if_pos (by rfl), show UInt8.ofNat 61 = (61 : UInt8) from rfl, preM_cons1, if_pos rfl]
      rcases hc with ⟨rfl, rfl⟩ | ⟨rfl, rfl⟩ | ⟨rfl, rfl⟩ <;> rfl
    . rw [if_neg hx]
      have : preM [61] (x :: r) = false := by
        cases h9 : preM [61] (x :: r) with
        | false => rfl
        | true => obtain ⟨l, h8⟩ := preM_one h9; injection h8 with h8 _; exact absurd (by rw [h8]; rfl) hx
      rw [this, if_neg (by simp)]
theorem signM_eqs (T : List UInt8) (h1 : preM [62] T = false) (h2 : preM [60] T = false) (h3 : preM [126] T = false) : signM T = if preM [61] T = true then some (3, T.drop 1) else none := by
  cases T with
  | nil => rfl
  | cons b l =>
    rw [signM_eq]
    by_cases hb : b.toNat = 61
    . obtain rfl := byte_of hb (by decide)
      rw [if_pos (by rfl), show UInt8.ofNat 61 = (61 : UInt8) from rfl, preM_cons1, if_pos rfl]; rfl
    . rw [if_neg hb]
      have e : preM [61] (b :: l) = false := by
        cases h9 : preM [61] (b :: l) with
        | false => rfl
        | true => obtain ⟨l, h8⟩ := preM_one h9; injection h8 with h8 _; exact absurd (by rw [h8]; rfl) hb
      have hn : ∀ c : UInt8, preM [c] (b :: l) = false -> b.toNat ≠ c.toNat := fun c h9 e => preM_one_no h9 l (by rw [UInt8.toNat_inj.1 e])
      have n1 := hn _ h1
      have n2 := hn _ h2
      have n3 := hn _ h3
      rw [e, if_neg (by simp)]
      cases l with
      | nil => rfl
      | cons x r =>
        simp only
        rw [if_neg (show ¬ b.toNat = 62 from n1), if_neg (show ¬ b.toNat = 60 from n2), if_neg (show ¬ b.toNat = 126 from n3), ite_self]
set_option maxRecDepth 8000 in
set_option maxHeartbeats 4000000 in
theorem ref_item (g : Nat) (S : List UInt8) (a : Nat) (n : Int) (hS : S.length <= 10000000) (ha : a <= S.length) (h : Heap) :
    Spec Tryd.prog 32 [.pointer (some ⟨g, 0, none⟩)] h [rdf g S a n 0] (fun u h' H' => ItemQ g S n u h' H' (itemM (S.drop a))) := by
  unfold rdf
  generalize hq : S.drop a = q
  have hql : q.length = S.length - a := by rw [<- hq, List.length_drop]
  have htl := typL_le q
  generalize hR0 : itemM q = R
  rw [itemM] at hR0
  refine Spec.enter Tryd.func32 rfl rfl ?_; intro w0
  repeat' (first | (refine G.atCode ?_; refine G.stopLoop ?_) | (refine G.atCode ?_; first | refine G.seq ?_ | refine G.region ?_ | refine G.block ?_) | refine G.endOps ?_ | refine G.op rfl rfl ?_ | (refine G.atLoad ?_; first | refine G.loadOwn1 rfl (tyy rfl) rfl rfl Za rfl rfl ?_) | (refine G.atFld ?_; first | refine G.fieldAddr rfl (tyy rfl) rfl rfl ?_) | (refine G.atAlc ?_; refine G.alloc (tyy rfl) rfl rfl ?_; intro _))
  rename_i gr
  refine G.go ?_
  refine G.loop (σ := Nat) (fun _ => [(0, .pointer (some ⟨g, 0, none⟩)), (2, .pointer (some ⟨gr, 0, none⟩)), (3, .int .i64 a)])
    (fun j => [.blk g [str S, .int .i64 (a + j : Nat), .int .i64 n, .int .i64 0] 51, .blk gr [.int .i64 0, str [], str [], .slice none 0 0, .slice none 0 0] 25])
    (fun j _ => j <= typL q) (fun j => typL q - j) 0 ⟨rfl, rfl, rfl, trivial⟩ Zu (Nat.zero_le _) ?_
  rintro j h1 hle1 hj
  have hsl : ((S.drop a).take ((((a + j : Nat) : Int) + 1).toNat - a)) = q.take (j + 1) := by rw [hq, show (((a + j : Nat) : Int) + 1).toNat - a = j + 1 by omega]
  by_cases hlt : j < typL q
  . have hty := typeM_pre hlt
    repeat' (first | (show G _ (.ops .seq _ (⟨some _, .call { callee := .value (.func 37), args := _, argTypes := _ }, _, _, _, none⟩ :: _) :: _) _ _ _; rw [hsl]; refine G.call callRType9 rfl rfl (ref09_Type _ (by rw [List.length_take]; omega) _) Ze ?_; rintro _ h3 H3 ⟨rfl, rfl⟩ hle3; rw [hty]) | (refine G.atCode ?_; first | refine G.seq ?_ | refine G.region ?_ | refine G.block ?_ | refine G.skip ?_ | refine G.drawAuto mixedOk rfl Zw ?_ | (refine G.cond rfl ?_ ?_ <;> intro hc <;> (try simp only [tests, reduceCtorEq] at hc) <;> (try exact Zf))) | refine G.endOps ?_ | refine G.endStill ?_ | refine G.endBlk ?_ | (refine G.atGd ?_; first | refine G.guardYes rfl rfl ?_ | (refine G.guardS rfl rfl rfl ?_ ?_ <;> intro hc <;> (try simp only [tests, reduceCtorEq] at hc) <;> (try exact Zf))) | (refine G.atBin ?_; first | (refine G.atAdd ?_; first | refine G.arith rfl rfl rfl rfl rfl Zi ?_) | refine G.op rfl rfl ?_) | refine G.op rfl rfl ?_ | (refine G.atLen ?_; first | refine G.lenStr rfl (tyy rfl) rfl ?_) | (refine G.atLoad ?_; first | refine G.loadOwn1 rfl (tyy rfl) rfl rfl Za rfl rfl ?_) | (refine G.atFld ?_; first | refine G.fieldAddr rfl (tyy rfl) rfl rfl ?_) | (refine G.atSto ?_; refine G.storeOwn rfl rfl (tyy rfl) Za rfl rfl rfl rfl ?_) | (refine G.atSlc ?_; first | refine G.sliceStr rfl rfl rfl (tyy rfl) rfl Zj Zj Zo rfl ?_))
    all_goals first | (exfalso; omega) | exact G.again (j + 1) ⟨rfl, rfl, rfl, trivial⟩ Zu (by omega) (by solve | repeat first | assumption | exact Zr _ | refine Zq ?_ Zp) (by omega)
  obtain rfl : j = typL q := by omega
  have hty : a + typL q < S.length -> typeM (q.take (typL q + 1)) = false := fun h => typeM_stop (by omega)
  have hal : (S.drop a).take (a + typL q - a) = q.take (typL q) := by rw [hq, show a + typL q - a = typL q by omega]
  have hatl : (q.take (typL q)).length = typL q := by rw [List.length_take]; omega
  have hT : q.drop (typL q) = S.drop (a + typL q) := by rw [<- hq, List.drop_drop]
  rw [hT] at hR0
  by_cases h0 : typL q = 0
  . rw [if_pos h0] at hR0
    subst hR0
    have hal0 : ((S.drop a).take (a + typL q - a)).length = 0 := by rw [hal, hatl, h0]
    repeat' (first | (show G _ (.ops .seq _ (⟨some _, .call { callee := .value (.func 37), args := _, argTypes := _ }, _, _, _, none⟩ :: _) :: _) _ _ _; rw [hsl]; refine G.call callRType9 rfl rfl (ref09_Type _ (by rw [List.length_take]; omega) _) Ze ?_; rintro _ h3 H3 ⟨rfl, rfl⟩ hle3; rw [hty (by omega)]) | (show G _ (.ops .seq _ (⟨some _, .call { callee := .value (.func 31), args := _, argTypes := _ }, _, _, _, none⟩ :: _) :: _) _ _ _; refine G.call callBad rfl rfl (ref_bad g S _ n 4 _) Ze ?_; rintro _ h5 H5 ⟨rfl, rfl⟩ hle5; unfold zFv) | (refine G.atCode ?_; first | refine G.seq ?_ | refine G.region ?_ | refine G.drawAuto mixedOk rfl Zw ?_ | refine G.anyIn mixedOk ?_ | refine G.exit rfl ?_ | refine G.ret ?_ | (refine G.cond rfl ?_ ?_ <;> intro hc <;> (try simp only [tests, reduceCtorEq] at hc) <;> (try exact Zf))) | refine G.endOps ?_ | refine G.endStill ?_ | refine G.endHeld ?_ | refine G.back ?_ | (refine G.atAny ?_; first | refine G.anyAutoX slB rfl rfl Zw Zg Zd ?_ | refine G.anyOne rfl Zw Zg Zu ?_ | refine G.anyEndX Zw ?_) | (refine G.atGd ?_; first | refine G.guardYes rfl rfl ?_ | refine G.guardNoS rfl rfl rfl ?_ | (refine G.guardS rfl rfl rfl ?_ ?_ <;> intro hc <;> (try simp only [tests, reduceCtorEq] at hc) <;> (try exact Zf))) | (refine G.atBin ?_; first | (refine G.atAdd ?_; first | refine G.arith rfl rfl rfl rfl rfl Zi ?_) | (refine G.atEql ?_; first | refine G.eqStr0 rfl rfl rfl ?_) | refine G.op rfl rfl ?_) | refine G.op rfl rfl ?_ | (refine G.atLen ?_; first | refine G.lenStr rfl (tyy rfl) rfl ?_) | (refine G.atLoad ?_; first | refine G.loadOwn1 rfl (tyy rfl) rfl rfl Za rfl rfl ?_) | (refine G.atFld ?_; first | refine G.fieldAddr rfl (tyy rfl) rfl rfl ?_) | (refine G.atSto ?_; refine G.storeOwn rfl rfl (tyy rfl) Za rfl rfl rfl rfl ?_) | (refine G.atAlc ?_; refine G.alloc (tyy rfl) rfl rfl ?_; intro _) | (refine G.atBld ?_; refine G.build (tyy rfl) rfl rfl rfl ?_) | (refine G.atSlc ?_; first | refine G.sliceStr rfl rfl rfl (tyy rfl) rfl Zj Zj Zo rfl ?_))
    all_goals first | (exfalso; omega) | exact G.done (rs := [.cell 2 25]) rfl (.cellA rfl (tyy rfl) rfl rfl Za rfl .nil) rfl [rdf g S _ n 4] Zu ⟨rfl, _, rfl⟩
  rw [if_neg h0] at hR0
  have hal1 : ¬ ((S.drop a).take (a + typL q - a)).length = 0 := by rw [hal, hatl]; exact h0
  by_cases hend : a + typL q < S.length
  rotate_left
  . rw [List.drop_eq_nil_of_le (show S.length <= a + typL q by omega)] at hR0
    simp only [signM] at hR0
    subst hR0
    have hno : ∀ c : UInt8, preM [c] (S.drop (a + typL q)) = false := fun c => preM_out (by omega)
    repeat' (first | (show G _ (.ops .seq _ (⟨some _, .call { callee := .value (.func 30), args := _, argTypes := _ }, _, _, _, none⟩ :: _) :: _) _ _ _; refine G.call callIs rfl rfl (ref_is g S (a + typL q) n 0 62 (by decide) (by omega) (by omega) _) Ze ?_; rintro _ h9 H9 ⟨rfl, rfl⟩ hle9; rw [hno, if_neg Bool.false_ne_true]) | (show G _ (.ops .seq _ (⟨some _, .call { callee := .value (.func 30), args := _, argTypes := _ }, _, _, _, none⟩ :: _) :: _) _ _ _; refine G.call callIs rfl rfl (ref_is g S (a + typL q) n 0 60 (by decide) (by omega) (by omega) _) Ze ?_; rintro _ h9 H9 ⟨rfl, rfl⟩ hle9; rw [hno, if_neg Bool.false_ne_true]) | (show G _ (.ops .seq _ (⟨some _, .call { callee := .value (.func 30), args := _, argTypes := _ }, _, _, _, none⟩ :: _) :: _) _ _ _; refine G.call callIs rfl rfl (ref_is g S (a + typL q) n 0 126 (by decide) (by omega) (by omega) _) Ze ?_; rintro _ h9 H9 ⟨rfl, rfl⟩ hle9; rw [hno, if_neg Bool.false_ne_true]) | (show G _ (.ops .seq _ (⟨some _, .call { callee := .value (.func 30), args := _, argTypes := _ }, _, _, _, none⟩ :: _) :: _) _ _ _; refine G.call callIs rfl rfl (ref_is g S (a + typL q) n 0 61 (by decide) (by omega) (by omega) _) Ze ?_; rintro _ h9 H9 ⟨rfl, rfl⟩ hle9; rw [hno, if_neg Bool.false_ne_true]) | (show G _ (.ops .seq _ (⟨some _, .call { callee := .value (.func 31), args := _, argTypes := _ }, _, _, _, none⟩ :: _) :: _) _ _ _; refine G.call callBad rfl rfl (ref_bad g S _ n 4 _) Ze ?_; rintro _ h5 H5 ⟨rfl, rfl⟩ hle5; unfold zFv) | (refine G.atCode ?_; first | refine G.seq ?_ | refine G.region ?_ | refine G.skip ?_ | refine G.drawAuto mixedOk rfl Zw ?_ | refine G.anyIn mixedOk ?_ | refine G.exit rfl ?_ | refine G.ret ?_ | (refine G.cond rfl ?_ ?_ <;> intro hc <;> (try simp only [tests, reduceCtorEq] at hc) <;> (try exact Zf))) | refine G.endOps ?_ | refine G.endStill ?_ | refine G.endHeld ?_ | refine G.back ?_ | (refine G.atAny ?_; first | refine G.anyAutoX slB rfl rfl Zw Zg Zd ?_ | refine G.anyOne rfl Zw Zg Zu ?_ | refine G.anyEndX Zw ?_) | (refine G.atGd ?_; first | refine G.guardNoS rfl rfl rfl ?_ | (refine G.guardS rfl rfl rfl ?_ ?_ <;> intro hc <;> (try simp only [tests, reduceCtorEq] at hc) <;> (try exact Zf))) | (refine G.atBin ?_; first | (refine G.atEql ?_; first | refine G.eqStr0 rfl rfl rfl ?_) | refine G.op rfl rfl ?_) | refine G.op rfl rfl ?_ | (refine G.atLen ?_; first | refine G.lenStr rfl (tyy rfl) rfl ?_) | (refine G.atLoad ?_; first | refine G.loadOwn1 rfl (tyy rfl) rfl rfl Za rfl rfl ?_) | (refine G.atFld ?_; first | refine G.fieldAddr rfl (tyy rfl) rfl rfl ?_) | (refine G.atSto ?_; refine G.storeOwn rfl rfl (tyy rfl) Za rfl rfl rfl rfl ?_) | (refine G.atAlc ?_; refine G.alloc (tyy rfl) rfl rfl ?_; intro _) | (refine G.atBld ?_; refine G.build (tyy rfl) rfl rfl rfl ?_) | (refine G.atSlc ?_; first | refine G.sliceStr rfl rfl rfl (tyy rfl) rfl Zj Zj Zo rfl ?_))
    all_goals first | (exfalso; omega) | exact G.done (rs := [.cell 2 25]) rfl (.cellA rfl (tyy rfl) rfl rfl Za rfl .nil) rfl [rdf g S _ n 4] Zu ⟨rfl, _, rfl⟩
  have hty := hty hend
  repeat' (first | (show G _ (.ops .seq _ (⟨some _, .call { callee := .value (.func 37), args := _, argTypes := _ }, _, _, _, none⟩ :: _) :: _) _ _ _; rw [hsl]; refine G.call callRType9 rfl rfl (ref09_Type _ (by rw [List.length_take]; omega) _) Ze ?_; rintro _ h3 H3 ⟨rfl, rfl⟩ hle3; rw [hty]) | (refine G.atCode ?_; refine G.stopIf 8 ?_) | (refine G.atCode ?_; first | refine G.seq ?_ | refine G.region ?_ | refine G.skip ?_ | refine G.drawAuto mixedOk rfl Zw ?_ | refine G.anyIn mixedOk ?_ | refine G.exit rfl ?_ | (refine G.cond rfl ?_ ?_ <;> intro hc <;> (try simp only [tests, reduceCtorEq] at hc) <;> (try exact Zf))) | refine G.endOps ?_ | refine G.endStill ?_ | refine G.endHeld ?_ | refine G.back ?_ | (refine G.atAny ?_; first | refine G.anyAutoX slB rfl rfl Zw Zg Zd ?_ | refine G.anyOne rfl Zw Zg Zu ?_ | refine G.anyEndX Zw ?_) | (refine G.atGd ?_; first | refine G.guardYes rfl rfl ?_ | (refine G.guardS rfl rfl rfl ?_ ?_ <;> intro hc <;> (try simp only [tests, reduceCtorEq] at hc) <;> (try exact Zf))) | (refine G.atBin ?_; first | (refine G.atAdd ?_; first | refine G.arith rfl rfl rfl rfl rfl Zi ?_) | (refine G.atEql ?_; first | refine G.eqStr0 rfl rfl rfl ?_) | refine G.op rfl rfl ?_) | refine G.op rfl rfl ?_ | (refine G.atLen ?_; first | refine G.lenStr rfl (tyy rfl) rfl ?_) | (refine G.atLoad ?_; first | refine G.loadOwn1 rfl (tyy rfl) rfl rfl Za rfl rfl ?_) | (refine G.atFld ?_; first | refine G.fieldAddr rfl (tyy rfl) rfl rfl ?_) | (refine G.atSto ?_; refine G.storeOwn rfl rfl (tyy rfl) Za rfl rfl rfl rfl ?_) | (refine G.atAlc ?_; refine G.alloc (tyy rfl) rfl rfl ?_; intro _) | (refine G.atBld ?_; refine G.build (tyy rfl) rfl rfl rfl ?_) | (refine G.atSlc ?_; first | refine G.sliceStr rfl rfl rfl (tyy rfl) rfl Zj Zj Zo rfl ?_))
  all_goals try (exfalso; omega)
  rename_i gf
  rw [hal]
  generalize hattr : q.take (typL q) = attr at *
  have h62 : ∃ b, preM [UInt8.ofNat 62] (S.drop (a + typL q)) = b := ⟨_, rfl⟩
  have h60 : ∃ b, preM [UInt8.ofNat 60] (S.drop (a + typL q)) = b := ⟨_, rfl⟩
  have h126 : ∃ b, preM [UInt8.ofNat 126] (S.drop (a + typL q)) = b := ⟨_, rfl⟩
  obtain ⟨b62, h62⟩ := h62
  obtain ⟨b60, h60⟩ := h60
  obtain ⟨b126, h126⟩ := h126
  refine G.go ?_
  refine G.meet (σ := Int × Nat) (fun _ => [(0, .pointer (some ⟨g, 0, none⟩)), (2, .pointer (some ⟨gr, 0, none⟩)), (4, .pointer (some ⟨gf, 0, none⟩))])
    (fun x => [.blk g [str S, .int .i64 x.2, .int .i64 n, .int .i64 0] 51, .blk gf [.int .i64 x.1, str attr, str [], .slice none 0 0, .slice none 0 0] 25, .blk gr [.int .i64 0, str [], str [], .slice none 0 0, .slice none 0 0] 25])
    (fun x _ => x.2 <= S.length /\ 3 <= x.1 /\ x.1 <= 8 /\ signM (S.drop (a + typL q)) = if preM [UInt8.ofNat 61] (S.drop x.2) = true then some (x.1, S.drop (x.2 + 1)) else none) ?_ ?_
  . cases b62 with
    | true =>
      have hsg := signM_61 62 5 (.inl ⟨rfl, rfl⟩) _ h62
      rw [List.drop_drop, List.drop_drop] at hsg
      repeat' (first | (show G _ (.ops .seq _ (⟨some _, .call { callee := .value (.func 30), args := _, argTypes := _ }, _, _, _, none⟩ :: _) :: _) _ _ _; refine G.call callIs rfl rfl (ref_is g S (a + typL q) n 0 62 (by decide) (by omega) (by omega) _) Ze ?_; rintro _ h9 H9 ⟨rfl, rfl⟩ hle9; rw [h62, if_pos rfl]) | (refine G.atCode ?_; first | refine G.seq ?_ | refine G.region ?_ | (refine G.cond rfl ?_ ?_ <;> intro hc <;> (try simp only [tests, reduceCtorEq] at hc) <;> (try exact Zf))) | refine G.endOps ?_ | refine G.op rfl rfl ?_ | (refine G.atFld ?_; first | refine G.fieldAddr rfl (tyy rfl) rfl rfl ?_) | (refine G.atSto ?_; refine G.storeOwn rfl rfl (tyy rfl) Za rfl rfl rfl rfl ?_))
      all_goals first | (exfalso; omega) | exact G.met ⟨5, a + typL q + 1⟩ ⟨rfl, rfl, rfl, trivial⟩ Zu (by solve | repeat first | assumption | exact Zr _ | refine Zq ?_ Zp) ⟨by simp only; omega, by simp, by simp, hsg⟩
    | false =>
      cases b60 with
      | true =>
        have hsg := signM_61 60 6 (.inr (.inl ⟨rfl, rfl⟩)) _ h60
        rw [List.drop_drop, List.drop_drop] at hsg
        repeat' (first | (show G _ (.ops .seq _ (⟨some _, .call { callee := .value (.func 30), args := _, argTypes := _ }, _, _, _, none⟩ :: _) :: _) _ _ _; refine G.call callIs rfl rfl (ref_is g S (a + typL q) n 0 62 (by decide) (by omega) (by omega) _) Ze ?_; rintro _ h9 H9 ⟨rfl, rfl⟩ hle9; rw [h62, if_neg Bool.false_ne_true]) | (show G _ (.ops .seq _ (⟨some _, .call { callee := .value (.func 30), args := _, argTypes := _ }, _, _, _, none⟩ :: _) :: _) _ _ _; refine G.call callIs rfl rfl (ref_is g S (a + typL q) n 0 60 (by decide) (by omega) (by omega) _) Ze ?_; rintro _ h9 H9 ⟨rfl, rfl⟩ hle9; rw [h60, if_pos rfl]) | (refine G.atCode ?_; first | refine G.seq ?_ | refine G.region ?_ | (refine G.cond rfl ?_ ?_ <;> intro hc <;> (try simp only [tests, reduceCtorEq] at hc) <;> (try exact Zf))) | refine G.endOps ?_ | refine G.op rfl rfl ?_ | (refine G.atFld ?_; first | refine G.fieldAddr rfl (tyy rfl) rfl rfl ?_) | (refine G.atSto ?_; refine G.storeOwn rfl rfl (tyy rfl) Za rfl rfl rfl rfl ?_))
        all_goals first | (exfalso; omega) | exact G.met ⟨6, a + typL q + 1⟩ ⟨rfl, rfl, rfl, trivial⟩ Zu (by solve | repeat first | assumption | exact Zr _ | refine Zq ?_ Zp) ⟨by simp only; omega, by simp, by simp, hsg⟩
      | false =>
        cases b126 with
        | true =>
          have hsg := signM_61 126 8 (.inr (.inr ⟨rfl, rfl⟩)) _ h126
          rw [List.drop_drop, List.drop_drop] at hsg
          repeat' (first | (show G _ (.ops .seq _ (⟨some _, .call { callee := .value (.func 30), args := _, argTypes := _ }, _, _, _, none⟩ :: _) :: _) _ _ _; refine G.call callIs rfl rfl (ref_is g S (a + typL q) n 0 62 (by decide) (by omega) (by omega) _) Ze ?_; rintro _ h9 H9 ⟨rfl, rfl⟩ hle9; rw [h62, if_neg Bool.false_ne_true]) | (show G _ (.ops .seq _ (⟨some _, .call { callee := .value (.func 30), args := _, argTypes := _ }, _, _, _, none⟩ :: _) :: _) _ _ _; refine G.call callIs rfl rfl (ref_is g S (a + typL q) n 0 60 (by decide) (by omega) (by omega) _) Ze ?_; rintro _ h9 H9 ⟨rfl, rfl⟩ hle9; rw [h60, if_neg Bool.false_ne_true]) | (show G _ (.ops .seq _ (⟨some _, .call { callee := .value (.func 30), args := _, argTypes := _ }, _, _, _, none⟩ :: _) :: _) _ _ _; refine G.call callIs rfl rfl (ref_is g S (a + typL q) n 0 126 (by decide) (by omega) (by omega) _) Ze ?_; rintro _ h9 H9 ⟨rfl, rfl⟩ hle9; rw [h126, if_pos rfl]) | (refine G.atCode ?_; first | refine G.seq ?_ | refine G.region ?_ | (refine G.cond rfl ?_ ?_ <;> intro hc <;> (try simp only [tests, reduceCtorEq] at hc) <;> (try exact Zf))) | refine G.endOps ?_ | refine G.op rfl rfl ?_ | (refine G.atFld ?_; first | refine G.fieldAddr rfl (tyy rfl) rfl rfl ?_) | (refine G.atSto ?_; refine G.storeOwn rfl rfl (tyy rfl) Za rfl rfl rfl rfl ?_))
          all_goals first | (exfalso; omega) | exact G.met ⟨8, a + typL q + 1⟩ ⟨rfl, rfl, rfl, trivial⟩ Zu (by solve | repeat first | assumption | exact Zr _ | refine Zq ?_ Zp) ⟨by simp only; omega, by simp, by simp, hsg⟩
        | false =>
          have hsg := signM_eqs _ h62 h60 h126
          rw [List.drop_drop] at hsg
          repeat' (first | (show G _ (.ops .seq _ (⟨some _, .call { callee := .value (.func 30), args := _, argTypes := _ }, _, _, _, none⟩ :: _) :: _) _ _ _; refine G.call callIs rfl rfl (ref_is g S (a + typL q) n 0 62 (by decide) (by omega) (by omega) _) Ze ?_; rintro _ h9 H9 ⟨rfl, rfl⟩ hle9; rw [h62, if_neg Bool.false_ne_true]) | (show G _ (.ops .seq _ (⟨some _, .call { callee := .value (.func 30), args := _, argTypes := _ }, _, _, _, none⟩ :: _) :: _) _ _ _; refine G.call callIs rfl rfl (ref_is g S (a + typL q) n 0 60 (by decide) (by omega) (by omega) _) Ze ?_; rintro _ h9 H9 ⟨rfl, rfl⟩ hle9; rw [h60, if_neg Bool.false_ne_true]) | (show G _ (.ops .seq _ (⟨some _, .call { callee := .value (.func 30), args := _, argTypes := _ }, _, _, _, none⟩ :: _) :: _) _ _ _; refine G.call callIs rfl rfl (ref_is g S (a + typL q) n 0 126 (by decide) (by omega) (by omega) _) Ze ?_; rintro _ h9 H9 ⟨rfl, rfl⟩ hle9; rw [h126, if_neg Bool.false_ne_true]) | (refine G.atCode ?_; first | refine G.seq ?_ | refine G.region ?_ | refine G.skip ?_ | (refine G.cond rfl ?_ ?_ <;> intro hc <;> (try simp only [tests, reduceCtorEq] at hc) <;> (try exact Zf))) | refine G.endOps ?_ | refine G.op rfl rfl ?_)
          all_goals first | (exfalso; omega) | exact G.met ⟨3, a + typL q⟩ ⟨rfl, rfl, rfl, trivial⟩ Zu (by solve | repeat first | assumption | exact Zr _ | refine Zq ?_ Zp) ⟨by simp only; omega, by simp, by simp, hsg⟩
  rintro ⟨k, a1⟩ h6 hle6 ⟨ha1, hk1, hk2, hsg⟩
  simp only at ha1 hk1 hk2 hsg
  rw [hsg] at hR0
  clear hsg h62 h60 h126 hty hal hal1 hatl hT hsl hlt hj htl h0
  refine G.norm (by (try dsimp only) <;> exact rfl) (by (try dsimp only) <;> exact rfl) ?_
  cases h61 : preM [UInt8.ofNat 61] (S.drop a1) with
  | false =>
    rw [h61, if_neg (by simp)] at hR0
    simp only at hR0
    subst hR0
    repeat' (first | (show G _ (.ops .seq _ (⟨some _, .call { callee := .value (.func 30), args := _, argTypes := _ }, _, _, _, none⟩ :: _) :: _) _ _ _; refine G.call callIs rfl rfl (ref_is g S (a1) n 0 61 (by decide) (by omega) (by omega) _) Ze ?_; rintro _ h9 H9 ⟨rfl, rfl⟩ hle9; rw [h61, if_neg Bool.false_ne_true]) | (show G _ (.ops .seq _ (⟨some _, .call { callee := .value (.func 31), args := _, argTypes := _ }, _, _, _, none⟩ :: _) :: _) _ _ _; refine G.call callBad rfl rfl (ref_bad g S _ n 4 _) Ze ?_; rintro _ h5 H5 ⟨rfl, rfl⟩ hle5; unfold zFv) | (refine G.atCode ?_; first | refine G.seq ?_ | refine G.region ?_ | refine G.ret ?_ | (refine G.cond rfl ?_ ?_ <;> intro hc <;> (try simp only [tests, reduceCtorEq] at hc) <;> (try exact Zf))) | refine G.endOps ?_ | refine G.op rfl rfl ?_ | (refine G.atSto ?_; refine G.storeOwn rfl rfl (tyy rfl) Za rfl rfl rfl rfl ?_))
    all_goals first | (exfalso; omega) | exact G.done (rs := [.cell 2 25]) rfl (.cellA rfl (tyy rfl) rfl rfl Za rfl .nil) rfl [rdf g S _ n 4] Zu ⟨rfl, _, rfl⟩
  | true =>
  rw [h61, if_pos rfl] at hR0
  simp only at hR0
  have ha2 : a1 < S.length := by
    rcases Nat.lt_or_ge a1 S.length with h9 | h9
    . exact h9
    . rw [preM_out (by omega)] at h61; cases h61
  repeat' (first | (show G _ (.ops .seq _ (⟨some _, .call { callee := .value (.func 30), args := _, argTypes := _ }, _, _, _, none⟩ :: _) :: _) _ _ _; refine G.call callIs rfl rfl (ref_is g S (a1) n 0 61 (by decide) (by omega) (by omega) _) Ze ?_; rintro _ h9 H9 ⟨rfl, rfl⟩ hle9; rw [h61, if_pos rfl]) | (refine G.atCode ?_; refine G.stopLoop ?_) | (refine G.atCode ?_; first | refine G.seq ?_ | refine G.region ?_ | refine G.block ?_ | refine G.skip ?_ | (refine G.cond rfl ?_ ?_ <;> intro hc <;> (try simp only [tests, reduceCtorEq] at hc) <;> (try exact Zf))) | refine G.endOps ?_ | refine G.op rfl rfl ?_)
  all_goals try (exfalso; omega)
  clear hq hql hattr h61 hend hty
  refine G.nilRow 9 1 ?_
  refine G.nilRowB 5 ?_
  refine G.go ?_
  have hRS0 : combS [] [] (scanM (S.drop (a1 + 1))) = scanM (S.drop (a1 + 1)) := by
    have hne := scanM_ne (S.drop (a1 + 1))
    generalize scanM (S.drop (a1 + 1)) = x at hne
    match x, hne with
    | none, _ => rfl
    | some ([], r), hne => exact absurd rfl (hne r)
    | some (p :: ps, r), _ => simp [combS]
  generalize hRS : scanM (S.drop (a1 + 1)) = RS at hR0
  rw [hRS] at hRS0
  refine G.loop (σ := Nat × List (List UInt8) × Value × List UInt8 × Value) (fun x => [(0, .pointer (some ⟨g, 0, none⟩)), (2, .pointer (some ⟨gr, 0, none⟩)), (4, .pointer (some ⟨gf, 0, none⟩)), (5, .int .i64 x.2.1.length), (6, x.2.2.1), (7, x.2.2.2.2)])
    (fun x => [.blk g [str S, .int .i64 x.1, .int .i64 n, .int .i64 0] 51, .blk gf [.int .i64 k, str attr, str [], .slice none 0 0, .slice none 0 0] 25, .blk gr [.int .i64 0, str [], str [], .slice none 0 0, .slice none 0 0] 25, .row x.2.2.1 9 1 (strsR x.2.1), .row x.2.2.2.2 5 1 (bytesR x.2.2.2.1)])
    (fun x _ => x.1 <= S.length /\ x.2.1.length <= x.1 /\ x.2.2.2.1.length <= x.1 /\ combS x.2.1 x.2.2.2.1 (scanM (S.drop x.1)) = RS) (fun x => S.length - x.1) ⟨a1 + 1, [], .slice none 0 0, [], .slice none 0 0⟩
    ⟨rfl, rfl, rfl, rfl, rfl, rfl, trivial⟩ Zu ⟨by simp only; omega, Nat.zero_le _, Nat.zero_le _, by simp only; rw [hRS]; exact hRS0⟩ ?_
  rintro ⟨i, P, v6, B, v7⟩ h10 hle10 ⟨hi, hPl, hBl, hinv⟩
  simp only at hi hPl hBl hinv
  clear hRS hRS0
  refine G.norm (by (try dsimp only) <;> exact rfl) (by (try dsimp only) <;> exact rfl) ?_
  by_cases hlt : i < S.length
  rotate_left
  . obtain rfl : i = S.length := by omega
    have hno : preM [UInt8.ofNat 41] (S.drop S.length) = false := preM_out (by omega)
    rw [List.drop_length] at hinv
    simp only [scanM, combS] at hinv
    subst hinv
    simp only at hR0
    subst hR0
    repeat' (first | (show G _ (.ops .seq _ (⟨some _, .call { callee := .value (.func 30), args := _, argTypes := _ }, _, _, _, none⟩ :: _) :: _) _ _ _; refine G.call callIs rfl rfl (ref_is g S (S.length) n 0 41 (by decide) (by omega) (by omega) _) Ze ?_; rintro _ h9 H9 ⟨rfl, rfl⟩ hle9; rw [hno, if_neg Bool.false_ne_true]) | (show G _ (.ops .seq _ (⟨some _, .call { callee := .value (.func 31), args := _, argTypes := _ }, _, _, _, none⟩ :: _) :: _) _ _ _; refine G.call callBad rfl rfl (ref_bad g S _ n 4 _) Ze ?_; rintro _ h5 H5 ⟨rfl, rfl⟩ hle5; unfold zFv) | (refine G.atCode ?_; first | refine G.seq ?_ | refine G.region ?_ | refine G.block ?_ | refine G.skip ?_ | refine G.drawAll slB Zw mixedOk Zw ?_ | refine G.ret ?_ | (refine G.cond rfl ?_ ?_ <;> intro hc <;> (try simp only [tests, reduceCtorEq] at hc) <;> (try exact Zf))) | refine G.endOps ?_ | refine G.endStill ?_ | (refine G.atBin ?_; first | (refine G.atEql ?_; first | refine G.op rfl rfl ?_)) | refine G.op rfl rfl ?_ | (refine G.atLen ?_; first | refine G.lenStr rfl (tyy rfl) rfl ?_) | (refine G.atLoad ?_; first | refine G.loadOwn1 rfl (tyy rfl) rfl rfl Za rfl rfl ?_) | (refine G.atFld ?_; first | refine G.fieldAddr rfl (tyy rfl) rfl rfl ?_) | (refine G.atSto ?_; refine G.storeOwn rfl rfl (tyy rfl) Za rfl rfl rfl rfl ?_))
    all_goals first | (exfalso; omega) | exact G.done (rs := [.cell 2 25]) rfl (.cellA rfl (tyy rfl) rfl rfl Za rfl .nil) rfl [rdf g S _ n 4] Zu ⟨rfl, _, rfl⟩
  have hbe := byteAt_eq hlt
  have hof := ofNat_byteAt hlt
  have hpm := preM_at (S := S) (a := i) (c := 41) hlt (by decide)
  rw [List.drop_eq_getElem_cons hlt, scanM_eq] at hinv
  by_cases h41 : byteAt S i = 41
  rotate_left
  . rw [decide_eq_false h41] at hpm
    rw [if_neg (by rw [<- hbe]; exact h41)] at hinv
    by_cases h42 : byteAt S i = 42
    . rw [if_pos (by rw [<- hbe]; exact h42), combS_star (scanM_ne _)] at hinv
      repeat' (first | (show G _ (.ops .seq _ (⟨some _, .call { callee := .value (.func 30), args := _, argTypes := _ }, _, _, _, none⟩ :: _) :: _) _ _ _; refine G.call callIs rfl rfl (ref_is g S (i) n 0 41 (by decide) (by omega) (by omega) _) Ze ?_; rintro _ h9 H9 ⟨rfl, rfl⟩ hle9; rw [hpm, if_neg Bool.false_ne_true]) | (refine G.atCode ?_; first | refine G.seq ?_ | refine G.region ?_ | refine G.block ?_ | refine G.skip ?_ | refine G.drawAll slB Zw mixedOk Zw ?_ | (refine G.cond rfl ?_ ?_ <;> intro hc <;> (try simp only [tests, reduceCtorEq] at hc) <;> (try exact Zf))) | refine G.endOps ?_ | refine G.endStill ?_ | refine G.endBlk ?_ | (refine G.atBin ?_; first | (refine G.atAdd ?_; first | refine G.arith rfl rfl rfl rfl rfl Zi ?_) | (refine G.atEql ?_; first | refine G.op rfl rfl ?_)) | refine G.op rfl rfl ?_ | (refine G.atLen ?_; first | refine G.lenStr rfl (tyy rfl) rfl ?_) | (refine G.atLoad ?_; first | refine G.loadOwn1 rfl (tyy rfl) rfl rfl Za rfl rfl ?_) | (refine G.atFld ?_; first | refine G.fieldAddr rfl (tyy rfl) rfl rfl ?_) | (refine G.atSto ?_; refine G.storeOwn rfl rfl (tyy rfl) Za rfl rfl rfl rfl ?_) | (refine G.atBsl ?_; refine G.buildSlice (tyy rfl) (tyy rfl) rfl rfl rfl rfl ?_; intro _) | (refine G.atApp ?_; first | (refine G.append1S rfl rfl (tyy rfl) (tyy rfl) rfl rfl Za Za rfl Zo ?_; intro _)) | (refine G.atInd ?_; refine G.idxStr rfl rfl (tyy rfl) rfl Zj Zo ?_; intro _) | (refine G.atConv ?_; first | refine G.convStr rfl (tyy rfl) (tyy rfl) (tyy rfl) Za rfl ?_))
      all_goals try (exfalso; omega)
      refine G.nilRowB 5 ?_
      exact G.again ⟨i + 1, P ++ [B], _, [], .slice none 0 0⟩ ⟨rfl, rfl, rfl, sint (by simp), rfl, rfl, trivial⟩ Zu ⟨by simp only; omega, by simp only [List.length_append, List.length_cons, List.length_nil]; omega, Nat.zero_le _, hinv⟩ (by solve | repeat first | assumption | exact Zr _ | refine Zq ?_ Zp) (by simp only; omega)
    rw [if_neg (by rw [<- hbe]; exact h42)] at hinv
    by_cases h92 : byteAt S i = 92
    . rw [if_pos (by rw [<- hbe]; exact h92)] at hinv
      by_cases h2 : i + 2 < S.length
      . have hsl : List.take (((i : Int) + 1 + 2).toNat - ((i : Int) + 1).toNat) (List.drop ((i : Int) + 1).toNat S) = [S[i + 1], S[i + 2]] := by
          rw [show ((i : Int) + 1 + 2).toNat - ((i : Int) + 1).toNat = 2 by omega, show ((i : Int) + 1).toNat = i + 1 by omega, List.drop_eq_getElem_cons (by omega), List.drop_eq_getElem_cons (by omega)]; rfl
        rw [List.drop_eq_getElem_cons (show i + 1 < S.length by omega), List.drop_eq_getElem_cons (show i + 1 + 1 < S.length by omega)] at hinv
        simp only at hinv
        generalize S[i + 1] = c1 at *
        generalize S[i + 2] = c2 at *
        cases hx : hexM c1 c2 with
        | none =>
          have hxs : hexS c1 c2 = [] := by unfold hexS; rw [hx]
          rw [hx] at hinv
          simp only [combS] at hinv
          subst hinv
          simp only at hR0
          subst hR0
          repeat' (first | (show G _ (.ops .seq _ (⟨some _, .call { callee := .value (.func 30), args := _, argTypes := _ }, _, _, _, none⟩ :: _) :: _) _ _ _; refine G.call callIs rfl rfl (ref_is g S (i) n 0 41 (by decide) (by omega) (by omega) _) Ze ?_; rintro _ h9 H9 ⟨rfl, rfl⟩ hle9; rw [hpm, if_neg Bool.false_ne_true]) | (show G _ (.ops .seq _ (⟨some _, .call { callee := .value (.func 44), args := _, argTypes := _ }, _, _, _, none⟩ :: _) :: _) _ _ _; rw [hsl]; refine G.call callRUnhex rfl rfl (ref01_Unhex c1 c2 _) Ze ?_; rintro _ h4 H4 ⟨rfl, rfl⟩ hle4; rw [hx, hxs]) | (show G _ (.ops .seq _ (⟨some _, .call { callee := .value (.func 31), args := _, argTypes := _ }, _, _, _, none⟩ :: _) :: _) _ _ _; refine G.call callBad rfl rfl (ref_bad g S _ n 4 _) Ze ?_; rintro _ h5 H5 ⟨rfl, rfl⟩ hle5; unfold zFv) | (refine G.atCode ?_; first | refine G.seq ?_ | refine G.region ?_ | refine G.block ?_ | refine G.skip ?_ | refine G.drawAll slB Zw mixedOk Zw ?_ | refine G.anyIn mixedOk ?_ | refine G.ret ?_ | (refine G.cond rfl ?_ ?_ <;> intro hc <;> (try simp only [tests, reduceCtorEq] at hc) <;> (try exact Zf))) | refine G.endOps ?_ | refine G.endStill ?_ | refine G.endHeld ?_ | refine G.back ?_ | (refine G.atAny ?_; first | refine G.anyAutoX slB rfl rfl Zw Zg Zd ?_ | refine G.anyOne rfl Zw Zg Zu ?_ | refine G.anyAuto slB rfl Zw Zg Zu ?_ | refine G.anyEndX Zw ?_) | (refine G.atBin ?_; first | (refine G.atAdd ?_; first | refine G.arith rfl rfl rfl rfl rfl Zi ?_) | (refine G.atEql ?_; first | refine G.op rfl rfl ?_) | refine G.op rfl rfl ?_) | refine G.op rfl rfl ?_ | (refine G.atLen ?_; first | refine G.lenStr rfl (tyy rfl) rfl ?_) | (refine G.atLoad ?_; first | refine G.loadOwn1 rfl (tyy rfl) rfl rfl Za rfl rfl ?_) | (refine G.atFld ?_; first | refine G.fieldAddr rfl (tyy rfl) rfl rfl ?_) | (refine G.atSto ?_; refine G.storeOwn rfl rfl (tyy rfl) Za rfl rfl rfl rfl ?_) | (refine G.atInd ?_; refine G.idxStr rfl rfl (tyy rfl) rfl Zj Zo ?_; intro _) | (refine G.atSlc ?_; first | refine G.sliceStr rfl rfl rfl (tyy rfl) rfl Zj Zj Zo rfl ?_))
          all_goals first | (exfalso; omega) | exact G.done (rs := [.cell 2 25]) rfl (.cellA rfl (tyy rfl) rfl rfl Za rfl .nil) rfl [rdf g S _ n 4] Zu ⟨rfl, _, rfl⟩
        | some x =>
          have hxs : hexS c1 c2 = [x] := by unfold hexS; rw [hx]
          rw [hx] at hinv
          simp only [combS_push] at hinv
          repeat' (first | (show G _ (.ops .seq _ (⟨some _, .call { callee := .value (.func 30), args := _, argTypes := _ }, _, _, _, none⟩ :: _) :: _) _ _ _; refine G.call callIs rfl rfl (ref_is g S (i) n 0 41 (by decide) (by omega) (by omega) _) Ze ?_; rintro _ h9 H9 ⟨rfl, rfl⟩ hle9; rw [hpm, if_neg Bool.false_ne_true]) | (show G _ (.ops .seq _ (⟨some _, .call { callee := .value (.func 44), args := _, argTypes := _ }, _, _, _, none⟩ :: _) :: _) _ _ _; rw [hsl]; refine G.call callRUnhex rfl rfl (ref01_Unhex c1 c2 _) Ze ?_; rintro _ h4 H4 ⟨rfl, rfl⟩ hle4; rw [hx, hxs]) | (refine G.atCode ?_; first | refine G.seq ?_ | refine G.region ?_ | refine G.block ?_ | refine G.skip ?_ | refine G.drawAll slB Zw mixedOk Zw ?_ | refine G.anyIn mixedOk ?_ | (refine G.cond rfl ?_ ?_ <;> intro hc <;> (try simp only [tests, reduceCtorEq] at hc) <;> (try exact Zf))) | refine G.endOps ?_ | refine G.endStill ?_ | refine G.endHeld ?_ | refine G.back ?_ | refine G.endBlk ?_ | (refine G.atAny ?_; first | refine G.anyAutoX slB rfl rfl Zw Zg Zd ?_ | refine G.anyOne rfl Zw Zg Zu ?_ | refine G.anyAuto slB rfl Zw Zg Zu ?_ | refine G.anyEndX Zw ?_) | (refine G.atBin ?_; first | (refine G.atAdd ?_; first | refine G.arith rfl rfl rfl rfl rfl Zi ?_) | (refine G.atEql ?_; first | refine G.op rfl rfl ?_) | refine G.op rfl rfl ?_) | refine G.op rfl rfl ?_ | (refine G.atLen ?_; first | refine G.lenStr rfl (tyy rfl) rfl ?_) | (refine G.atLoad ?_; first | refine G.loadOwn1 rfl (tyy rfl) rfl rfl Za rfl rfl ?_) | (refine G.atFld ?_; first | refine G.fieldAddr rfl (tyy rfl) rfl rfl ?_) | (refine G.atSto ?_; refine G.storeOwn rfl rfl (tyy rfl) Za rfl rfl rfl rfl ?_) | (refine G.atBsl ?_; refine G.buildSlice (tyy rfl) (tyy rfl) rfl rfl rfl rfl ?_; intro _) | (refine G.atApp ?_; first | (refine G.append1B rfl rfl (tyy rfl) (tyy rfl) rfl rfl Za Za rfl Zo Zo ?_; intro _)) | (refine G.atInd ?_; refine G.idxStr rfl rfl (tyy rfl) rfl Zj Zo ?_; intro _) | (refine G.atSlc ?_; first | refine G.sliceStr rfl rfl rfl (tyy rfl) rfl Zj Zj Zo rfl ?_))
          all_goals try (exfalso; omega)
          rw [Int.toNat_natCast, show UInt8.ofNat (byteAt [x] 0) = x by simp [byteAt]]
          exact G.again ⟨i + 3, P, v6, B ++ [x], _⟩ ⟨rfl, rfl, rfl, rfl, rfl, rfl, trivial⟩ Zu ⟨by simp only; omega, by simp only; omega, by simp only [List.length_append, List.length_cons, List.length_nil]; omega, hinv⟩ (by solve | repeat first | assumption | exact Zr _ | refine Zq ?_ Zp) (by simp only; omega)
      . have hn : RS = none := by
          rw [<- hinv]
          have hd : (S.drop (i + 1)).length = S.length - (i + 1) := by rw [List.length_drop]
          generalize S.drop (i + 1) = q at hd ⊢
          match q, hd with
          | [], _ => rfl
          | [x], _ => rfl
          | x :: y :: r, hd => simp only [List.length_cons] at hd; omega
        subst hn
        simp only at hR0
        subst hR0
        repeat' (first | (show G _ (.ops .seq _ (⟨some _, .call { callee := .value (.func 30), args := _, argTypes := _ }, _, _, _, none⟩ :: _) :: _) _ _ _; refine G.call callIs rfl rfl (ref_is g S (i) n 0 41 (by decide) (by omega) (by omega) _) Ze ?_; rintro _ h9 H9 ⟨rfl, rfl⟩ hle9; rw [hpm, if_neg Bool.false_ne_true]) | (show G _ (.ops .seq _ (⟨some _, .call { callee := .value (.func 31), args := _, argTypes := _ }, _, _, _, none⟩ :: _) :: _) _ _ _; refine G.call callBad rfl rfl (ref_bad g S _ n 4 _) Ze ?_; rintro _ h5 H5 ⟨rfl, rfl⟩ hle5; unfold zFv) | (refine G.atCode ?_; first | refine G.seq ?_ | refine G.region ?_ | refine G.block ?_ | refine G.skip ?_ | refine G.drawAll slB Zw mixedOk Zw ?_ | refine G.ret ?_ | (refine G.cond rfl ?_ ?_ <;> intro hc <;> (try simp only [tests, reduceCtorEq] at hc) <;> (try exact Zf))) | refine G.endOps ?_ | refine G.endStill ?_ | (refine G.atBin ?_; first | (refine G.atAdd ?_; first | refine G.arith rfl rfl rfl rfl rfl Zi ?_) | (refine G.atEql ?_; first | refine G.op rfl rfl ?_) | refine G.op rfl rfl ?_) | refine G.op rfl rfl ?_ | (refine G.atLen ?_; first | refine G.lenStr rfl (tyy rfl) rfl ?_) | (refine G.atLoad ?_; first | refine G.loadOwn1 rfl (tyy rfl) rfl rfl Za rfl rfl ?_) | (refine G.atFld ?_; first | refine G.fieldAddr rfl (tyy rfl) rfl rfl ?_) | (refine G.atSto ?_; refine G.storeOwn rfl rfl (tyy rfl) Za rfl rfl rfl rfl ?_) | (refine G.atInd ?_; refine G.idxStr rfl rfl (tyy rfl) rfl Zj Zo ?_; intro _))
        all_goals first | (exfalso; omega) | exact G.done (rs := [.cell 2 25]) rfl (.cellA rfl (tyy rfl) rfl rfl Za rfl .nil) rfl [rdf g S _ n 4] Zu ⟨rfl, _, rfl⟩
    rw [if_neg (by rw [<- hbe]; exact h92)] at hinv
    by_cases h0 : byteAt S i = 0 \/ byteAt S i = 40
    . rw [if_pos (by rw [<- hbe]; exact h0)] at hinv
      simp only [combS] at hinv
      subst hinv
      simp only at hR0
      subst hR0
      repeat' (first | (show G _ (.ops .seq _ (⟨some _, .call { callee := .value (.func 30), args := _, argTypes := _ }, _, _, _, none⟩ :: _) :: _) _ _ _; refine G.call callIs rfl rfl (ref_is g S (i) n 0 41 (by decide) (by omega) (by omega) _) Ze ?_; rintro _ h9 H9 ⟨rfl, rfl⟩ hle9; rw [hpm, if_neg Bool.false_ne_true]) | (show G _ (.ops .seq _ (⟨some _, .call { callee := .value (.func 31), args := _, argTypes := _ }, _, _, _, none⟩ :: _) :: _) _ _ _; refine G.call callBad rfl rfl (ref_bad g S _ n 4 _) Ze ?_; rintro _ h5 H5 ⟨rfl, rfl⟩ hle5; unfold zFv) | (refine G.atCode ?_; first | refine G.seq ?_ | refine G.region ?_ | refine G.block ?_ | refine G.skip ?_ | refine G.drawAll slB Zw mixedOk Zw ?_ | refine G.ret ?_ | (refine G.cond rfl ?_ ?_ <;> intro hc <;> (try simp only [tests, reduceCtorEq] at hc) <;> (try exact Zf))) | refine G.endOps ?_ | refine G.endStill ?_ | (refine G.atGd ?_; first | refine G.guardYes rfl rfl ?_ | refine G.guardNoS rfl rfl rfl ?_ | (refine G.guardS rfl rfl rfl ?_ ?_ <;> intro hc <;> (try simp only [tests, reduceCtorEq] at hc) <;> (try exact Zf))) | (refine G.atBin ?_; first | (refine G.atAdd ?_; first | refine G.arith rfl rfl rfl rfl rfl Zi ?_) | (refine G.atEql ?_; first | refine G.op rfl rfl ?_)) | refine G.op rfl rfl ?_ | (refine G.atLen ?_; first | refine G.lenStr rfl (tyy rfl) rfl ?_) | (refine G.atLoad ?_; first | refine G.loadOwn1 rfl (tyy rfl) rfl rfl Za rfl rfl ?_) | (refine G.atFld ?_; first | refine G.fieldAddr rfl (tyy rfl) rfl rfl ?_) | (refine G.atSto ?_; refine G.storeOwn rfl rfl (tyy rfl) Za rfl rfl rfl rfl ?_) | (refine G.atInd ?_; refine G.idxStr rfl rfl (tyy rfl) rfl Zj Zo ?_; intro _))
      all_goals first | (exfalso; omega) | exact G.done (rs := [.cell 2 25]) rfl (.cellA rfl (tyy rfl) rfl rfl Za rfl .nil) rfl [rdf g S _ n 4] Zu ⟨rfl, _, rfl⟩
    . rw [if_neg (by rw [<- hbe]; exact h0)] at hinv
      simp only [combS_push] at hinv
      repeat' (first | (show G _ (.ops .seq _ (⟨some _, .call { callee := .value (.func 30), args := _, argTypes := _ }, _, _, _, none⟩ :: _) :: _) _ _ _; refine G.call callIs rfl rfl (ref_is g S (i) n 0 41 (by decide) (by omega) (by omega) _) Ze ?_; rintro _ h9 H9 ⟨rfl, rfl⟩ hle9; rw [hpm, if_neg Bool.false_ne_true]) | (refine G.atCode ?_; first | refine G.seq ?_ | refine G.region ?_ | refine G.block ?_ | refine G.skip ?_ | refine G.drawAll slB Zw mixedOk Zw ?_ | (refine G.cond rfl ?_ ?_ <;> intro hc <;> (try simp only [tests, reduceCtorEq] at hc) <;> (try exact Zf))) | refine G.endOps ?_ | refine G.endStill ?_ | refine G.endBlk ?_ | (refine G.atGd ?_; first | refine G.guardYes rfl rfl ?_ | (refine G.guardS rfl rfl rfl ?_ ?_ <;> intro hc <;> (try simp only [tests, reduceCtorEq] at hc) <;> (try exact Zf))) | (refine G.atBin ?_; first | (refine G.atAdd ?_; first | refine G.arith rfl rfl rfl rfl rfl Zi ?_) | (refine G.atEql ?_; first | refine G.op rfl rfl ?_)) | refine G.op rfl rfl ?_ | (refine G.atLen ?_; first | refine G.lenStr rfl (tyy rfl) rfl ?_) | (refine G.atLoad ?_; first | refine G.loadOwn1 rfl (tyy rfl) rfl rfl Za rfl rfl ?_) | (refine G.atFld ?_; first | refine G.fieldAddr rfl (tyy rfl) rfl rfl ?_) | (refine G.atSto ?_; refine G.storeOwn rfl rfl (tyy rfl) Za rfl rfl rfl rfl ?_) | (refine G.atBsl ?_; refine G.buildSlice (tyy rfl) (tyy rfl) rfl rfl rfl rfl ?_; intro _) | (refine G.atApp ?_; first | (refine G.append1B rfl rfl (tyy rfl) (tyy rfl) rfl rfl Za Za rfl Zo Zo ?_; intro _)) | (refine G.atInd ?_; refine G.idxStr rfl rfl (tyy rfl) rfl Zj Zo ?_; intro _))
      all_goals try (exfalso; omega)
      rw [Int.toNat_natCast, hof]
      exact G.again ⟨i + 1, P, v6, B ++ [S[i]], _⟩ ⟨rfl, rfl, rfl, rfl, rfl, rfl, trivial⟩ Zu ⟨by simp only; omega, by simp only; omega, by simp only [List.length_append, List.length_cons, List.length_nil]; omega, hinv⟩ (by solve | repeat first | assumption | exact Zr _ | refine Zq ?_ Zp) (by simp only; omega)
  rw [decide_eq_true h41] at hpm
  rw [if_pos (by rw [<- hbe]; exact h41)] at hinv
  simp only [combS, List.append_nil] at hinv
  subst hinv
  simp only at hR0
  clear hbe hof hc hk1 hk2 ha2 ha1 h41
  obtain ⟨P', hP'⟩ : ∃ P', P' = P ++ [B] := ⟨_, rfl⟩
  have hPl' : P'.length = P.length + 1 := by rw [hP']; simp
  rw [<- hP'] at hR0
  generalize hst : P.length = st at *
  by_cases h1 : P'.length = 1
  . have hP0 : strAt P' 0 = P'.headD [] := by
      obtain ⟨p0, ps, h9⟩ := List.exists_cons_of_length_pos (show 0 < P'.length by omega)
      rw [h9]; rfl
    rw [finM, if_pos h1, ← hP0] at hR0
    simp only [Option.map_some] at hR0
    subst hR0
    repeat' (first | (show G _ (.ops .seq _ (⟨some _, .call { callee := .value (.func 30), args := _, argTypes := _ }, _, _, _, none⟩ :: _) :: _) _ _ _; refine G.call callIs rfl rfl (ref_is g S (i) n 0 41 (by decide) (by omega) (by omega) _) Ze ?_; rintro _ h9 H9 ⟨rfl, rfl⟩ hle9; rw [hpm, if_pos rfl]) | (refine G.atApp ?_; refine G.append1S rfl rfl (tyy rfl) (tyy rfl) rfl rfl Za Za rfl Zo ?_; intro _; rw [<- hP']) | (refine G.atCode ?_; first | refine G.seq ?_ | refine G.region ?_ | refine G.exit rfl ?_ | refine G.ret ?_ | (refine G.cond rfl ?_ ?_ <;> intro hc <;> (try simp only [tests, reduceCtorEq] at hc) <;> (try exact Zf))) | refine G.endOps ?_ | (refine G.atBin ?_; first | (refine G.atEql ?_; first | refine G.op rfl rfl ?_)) | refine G.op rfl rfl ?_ | (refine G.atLoad ?_; first | refine G.loadOwnA rfl (tyy rfl) rfl rfl Za rfl rfl ?_ | refine G.loadRowS rfl (tyy rfl) Zp Za Zo rfl ?_) | (refine G.atFld ?_; first | refine G.fieldAddr rfl (tyy rfl) rfl rfl ?_) | (refine G.atSto ?_; refine G.storeOwn rfl rfl (tyy rfl) Za rfl rfl rfl rfl ?_) | (refine G.atBsl ?_; refine G.buildSlice (tyy rfl) (tyy rfl) rfl rfl rfl rfl ?_; intro _) | (refine G.atIdx ?_; first | (refine G.idxRow' rfl rfl (tyy rfl) (tyy rfl) Za Zj rfl Zo ?_; intro _ _)) | (refine G.atConv ?_; first | refine G.convStr rfl (tyy rfl) (tyy rfl) (tyy rfl) Za rfl ?_))
    all_goals first | (exfalso; omega) | exact G.done (rs := [.cell 2 25]) rfl (.cellA rfl (tyy rfl) rfl rfl Za rfl .nil) rfl [rdf g S (i + 1) n 0] Zu ⟨i + 1, by omega, rfl, rfl, _, FlC.mk_ (HSl.nil _ 2) (HSl.nil _ 5) (FlsC.nil _), rfl⟩
  rw [finM, if_neg h1] at hR0
  by_cases hk3 : k = 3
  rotate_left
  . rw [if_pos hk3] at hR0
    simp only [Option.map_none] at hR0
    subst hR0
    repeat' (first | (show G _ (.ops .seq _ (⟨some _, .call { callee := .value (.func 30), args := _, argTypes := _ }, _, _, _, none⟩ :: _) :: _) _ _ _; refine G.call callIs rfl rfl (ref_is g S (i) n 0 41 (by decide) (by omega) (by omega) _) Ze ?_; rintro _ h9 H9 ⟨rfl, rfl⟩ hle9; rw [hpm, if_pos rfl]) | (refine G.atApp ?_; refine G.append1S rfl rfl (tyy rfl) (tyy rfl) rfl rfl Za Za rfl Zo ?_; intro _; rw [<- hP']) | (show G _ (.ops .seq _ (⟨some _, .call { callee := .value (.func 31), args := _, argTypes := _ }, _, _, _, none⟩ :: _) :: _) _ _ _; refine G.call callBad rfl rfl (ref_bad g S _ n 4 _) Ze ?_; rintro _ h5 H5 ⟨rfl, rfl⟩ hle5; unfold zFv) | (refine G.atCode ?_; first | refine G.seq ?_ | refine G.region ?_ | refine G.skip ?_ | refine G.exit rfl ?_ | refine G.ret ?_ | (refine G.cond rfl ?_ ?_ <;> intro hc <;> (try simp only [tests, reduceCtorEq] at hc) <;> (try exact Zf))) | refine G.endOps ?_ | (refine G.atBin ?_; first | (refine G.atEql ?_; first | refine G.op rfl rfl ?_) | (refine G.atNeq ?_; first | refine G.op rfl rfl ?_)) | refine G.op rfl rfl ?_ | (refine G.atLoad ?_; first | refine G.loadOwn1 rfl (tyy rfl) rfl rfl Za rfl rfl ?_) | (refine G.atFld ?_; first | refine G.fieldAddr rfl (tyy rfl) rfl rfl ?_) | (refine G.atSto ?_; refine G.storeOwn rfl rfl (tyy rfl) Za rfl rfl rfl rfl ?_) | (refine G.atBsl ?_; refine G.buildSlice (tyy rfl) (tyy rfl) rfl rfl rfl rfl ?_; intro _) | (refine G.atConv ?_; first | refine G.convStr rfl (tyy rfl) (tyy rfl) (tyy rfl) Za rfl ?_))
    all_goals first | (exfalso; omega) | exact G.done (rs := [.cell 2 25]) rfl (.cellA rfl (tyy rfl) rfl rfl Za rfl .nil) rfl [rdf g S _ n 4] Zu ⟨rfl, _, rfl⟩
  rw [if_neg (fun e => e hk3)] at hR0
  subst hk3
  by_cases hs2 : P' = [[], []]
  . rw [if_pos hs2] at hR0
    simp only [Option.map_some] at hR0
    subst hR0
    have hz0 : (strAt P' 0).length = 0 := by rw [hs2]; rfl
    have hz1 : (strAt P' 1).length = 0 := by rw [hs2]; rfl
    have hz2 : P'.length = 2 := by rw [hs2]; rfl
    repeat' (first | (show G _ (.ops .seq _ (⟨some _, .call { callee := .value (.func 30), args := _, argTypes := _ }, _, _, _, none⟩ :: _) :: _) _ _ _; refine G.call callIs rfl rfl (ref_is g S (i) n 0 41 (by decide) (by omega) (by omega) _) Ze ?_; rintro _ h9 H9 ⟨rfl, rfl⟩ hle9; rw [hpm, if_pos rfl]) | (refine G.atApp ?_; refine G.append1S rfl rfl (tyy rfl) (tyy rfl) rfl rfl Za Za rfl Zo ?_; intro _; rw [<- hP']) | (refine G.atCode ?_; first | refine G.seq ?_ | refine G.region ?_ | refine G.skip ?_ | refine G.exit rfl ?_ | refine G.ret ?_ | (refine G.cond rfl ?_ ?_ <;> intro hc <;> (try simp only [tests, reduceCtorEq] at hc) <;> (try exact Zf))) | refine G.endOps ?_ | (refine G.atGd ?_; first | refine G.guardYes rfl rfl ?_ | (refine G.guardS rfl rfl rfl ?_ ?_ <;> intro hc <;> (try simp only [tests, reduceCtorEq] at hc) <;> (try exact Zf))) | (refine G.atBin ?_; first | (refine G.atEql ?_; first | refine G.op rfl rfl ?_ | refine G.eqStr0 rfl rfl rfl ?_) | (refine G.atNeq ?_; first | refine G.op rfl rfl ?_)) | refine G.op rfl rfl ?_ | (refine G.atLoad ?_; first | refine G.loadOwn1 rfl (tyy rfl) rfl rfl Za rfl rfl ?_ | refine G.loadOwnA rfl (tyy rfl) rfl rfl Za rfl rfl ?_ | refine G.loadRowS rfl (tyy rfl) Zp Za Zo rfl ?_) | (refine G.atFld ?_; first | refine G.fieldAddr rfl (tyy rfl) rfl rfl ?_) | (refine G.atSto ?_; refine G.storeOwn rfl rfl (tyy rfl) Za rfl rfl rfl rfl ?_) | (refine G.atBsl ?_; refine G.buildSlice (tyy rfl) (tyy rfl) rfl rfl rfl rfl ?_; intro _) | (refine G.atIdx ?_; first | (refine G.idxRow' rfl rfl (tyy rfl) (tyy rfl) Za Zj rfl Zo ?_; intro _ _)) | (refine G.atConv ?_; first | refine G.convStr rfl (tyy rfl) (tyy rfl) (tyy rfl) Za rfl ?_))
    all_goals first | (exfalso; omega) | exact G.done (rs := [.cell 2 25]) rfl (.cellA rfl (tyy rfl) rfl rfl Za rfl .nil) rfl [rdf g S (i + 1) n 0] Zu ⟨i + 1, by omega, rfl, rfl, _, FlC.mk_ (HSl.nil _ 2) (HSl.nil _ 5) (FlsC.nil _), rfl⟩
  rw [if_neg hs2] at hR0
  have hz : ¬ (st = 1 /\ (strAt P' 0).length = 0 /\ (strAt P' 1).length = 0) := by
    rintro ⟨z1, z2, z3⟩
    refine hs2 ?_
    have hl2 : P'.length = 2 := by omega
    match P', hl2, z2, z3 with
    | [x, y], _, z2, z3 =>
      have e1 : x = [] := List.eq_nil_of_length_eq_zero z2
      have e2 : y = [] := List.eq_nil_of_length_eq_zero z3
      rw [e1, e2]
  have hRQ0 : (pcsF P'.length 0 P').map (([] : Pcs) ++ ·) = pcsF P'.length 0 P' := by cases pcsF P'.length 0 P' <;> rfl
  generalize hRQ : pcsF P'.length 0 P' = RQ at *
  repeat' (first | (show G _ (.ops .seq _ (⟨some _, .call { callee := .value (.func 30), args := _, argTypes := _ }, _, _, _, none⟩ :: _) :: _) _ _ _; refine G.call callIs rfl rfl (ref_is g S (i) n 0 41 (by decide) (by omega) (by omega) _) Ze ?_; rintro _ h9 H9 ⟨rfl, rfl⟩ hle9; rw [hpm, if_pos rfl]) | (refine G.atApp ?_; refine G.append1S rfl rfl (tyy rfl) (tyy rfl) rfl rfl Za Za rfl Zo ?_; intro _; rw [<- hP']) | (refine G.atCode ?_; refine G.stopIf 45 ?_) | (refine G.atCode ?_; first | refine G.seq ?_ | refine G.region ?_ | refine G.skip ?_ | refine G.exit rfl ?_ | (refine G.cond rfl ?_ ?_ <;> intro hc <;> (try simp only [tests, reduceCtorEq] at hc) <;> (try exact Zf))) | refine G.endOps ?_ | (refine G.atBin ?_; first | (refine G.atEql ?_; first | refine G.op rfl rfl ?_) | (refine G.atNeq ?_; first | refine G.op rfl rfl ?_)) | refine G.op rfl rfl ?_ | (refine G.atLoad ?_; first | refine G.loadOwn1 rfl (tyy rfl) rfl rfl Za rfl rfl ?_) | (refine G.atFld ?_; first | refine G.fieldAddr rfl (tyy rfl) rfl rfl ?_) | (refine G.atBsl ?_; refine G.buildSlice (tyy rfl) (tyy rfl) rfl rfl rfl rfl ?_; intro _) | (refine G.atConv ?_; first | refine G.convStr rfl (tyy rfl) (tyy rfl) (tyy rfl) Za rfl ?_))
  all_goals try (exfalso; omega)
  rename_i v _
  refine G.go ?_
  refine G.meet (σ := Unit) (fun _ => [(0, .pointer (some ⟨g, 0, none⟩)), (2, .pointer (some ⟨gr, 0, none⟩)), (4, .pointer (some ⟨gf, 0, none⟩)), (5, .int .i64 st), (6, v)])
    (fun _ => [.row v 9 1 (strsR P'), .blk g [str S, .int .i64 (i + 1 : Nat), .int .i64 n, .int .i64 0] 51, .blk gf [.int .i64 3, str attr, str [], .slice none 0 0, .slice none 0 0] 25, .blk gr [.int .i64 0, str [], str [], .slice none 0 0, .slice none 0 0] 25])
    (fun _ _ => True) ?_ ?_
  . repeat' (first | (refine G.atCode ?_; first | refine G.seq ?_ | refine G.region ?_ | refine G.skip ?_ | (refine G.cond rfl ?_ ?_ <;> intro hc <;> (try simp only [tests, reduceCtorEq] at hc) <;> (try exact Zf))) | refine G.endOps ?_ | (refine G.atGd ?_; first | refine G.guardYes rfl rfl ?_ | refine G.guardNoS rfl rfl rfl ?_ | (refine G.guardS rfl rfl rfl ?_ ?_ <;> intro hc <;> (try simp only [tests, reduceCtorEq] at hc) <;> (try exact Zf))) | (refine G.atBin ?_; first | (refine G.atEql ?_; first | refine G.op rfl rfl ?_ | refine G.eqStr0 rfl rfl rfl ?_)) | refine G.op rfl rfl ?_ | (refine G.atLoad ?_; first | refine G.loadRowS rfl (tyy rfl) Zp Za Zo rfl ?_) | (refine G.atIdx ?_; first | (refine G.idxRow' rfl rfl (tyy rfl) (tyy rfl) Za Zj rfl Zo ?_; intro _ _)))
    all_goals first | (exfalso; omega) | exact G.met () ⟨rfl, rfl, rfl, rfl, rfl, trivial⟩ Zu (by solve | repeat first | assumption | exact Zr _ | refine Zq ?_ Zp) trivial
  rintro _ h11 hle11 _
  clear hz
  repeat' (first | (refine G.atCode ?_; refine G.stopLoop ?_) | (refine G.atCode ?_; first | refine G.seq ?_ | refine G.region ?_ | refine G.block ?_) | refine G.endOps ?_ | refine G.op rfl rfl ?_ | (refine G.atLen ?_; first | refine G.lenRowS rfl (tyy rfl) Za rfl ?_) | (refine G.atFld ?_; first | refine G.fieldAddr rfl (tyy rfl) rfl rfl ?_) | (refine G.atSto ?_; refine G.storeOwn rfl rfl (tyy rfl) Za rfl rfl rfl rfl ?_))
  all_goals try (exfalso; omega)
  refine G.nilRow 54 2 ?_
  refine G.go ?_
  refine G.loop (σ := Nat × Pcs × Option Addr × Nat) (fun x => [(217, .int .i64 x.1), (216, .int .i64 P'.length), (215, v), (5, .int .i64 st), (0, .pointer (some ⟨g, 0, none⟩)), (4, .pointer (some ⟨gf, 0, none⟩)), (2, .pointer (some ⟨gr, 0, none⟩))])
    (fun x => [.row v 9 1 (strsR P'), .row (.slice x.2.2.1 (pcsR x.2.1).length x.2.2.2) 54 2 (pcsR x.2.1), .blk g [str S, .int .i64 (i + 1 : Nat), .int .i64 n, .int .i64 0] 51, .blk gf [.int .i64 4, str attr, str [], .slice x.2.2.1 (pcsR x.2.1).length x.2.2.2, .slice none 0 0] 25, .blk gr [.int .i64 0, str [], str [], .slice none 0 0, .slice none 0 0] 25])
    (fun x _ => x.1 <= P'.length /\ x.2.1.length <= x.1 /\ (pcsF P'.length x.1 (P'.drop x.1)).map (x.2.1 ++ ·) = RQ) (fun x => P'.length - x.1) ⟨0, [], none, 0⟩
    ⟨rfl, rfl, rfl, rfl, rfl, rfl, rfl, trivial⟩ Zu ⟨Nat.zero_le _, Nat.le_refl _, by rw [List.drop_zero, hRQ]; exact hRQ0⟩ ?_
  rintro ⟨j, Q, A, c⟩ h8 hle8 ⟨hj, hQl, hinv⟩
  simp only at hj hQl hinv
  have hpr := pcsR_length Q
  clear hRQ hRQ0 hs2
  refine G.norm (by (try dsimp only) <;> exact rfl) (by (try dsimp only) <;> exact rfl) ?_
  by_cases hlt : j < P'.length
  . have hst : strAt P' j = P'[j] := by unfold strAt; rw [List.getElem?_eq_getElem hlt]; rfl
    rw [List.drop_eq_getElem_cons hlt] at hinv
    generalize P'[j] = x at *
    simp only [pcsF] at hinv
    by_cases hx : x.length = 0
    . obtain rfl := List.eq_nil_of_length_eq_zero hx
      rw [if_pos rfl] at hinv
      by_cases hm : j = 0 \/ j + 1 = P'.length
      . rw [if_pos hm] at hinv
        repeat' (first | (refine G.atLoad ?_; refine G.loadRowS rfl (tyy rfl) Zp Za Zo rfl ?_; rw [hst]) | (refine G.atCode ?_; first | refine G.seq ?_ | refine G.region ?_ | refine G.block ?_ | refine G.skip ?_ | (refine G.cond rfl ?_ ?_ <;> intro hc <;> (try simp only [tests, reduceCtorEq] at hc) <;> (try exact Zf))) | refine G.endOps ?_ | refine G.endBlk ?_ | (refine G.atGd ?_; first | refine G.guardYes rfl rfl ?_ | refine G.guardNoS rfl rfl rfl ?_ | (refine G.guardS rfl rfl rfl ?_ ?_ <;> intro hc <;> (try simp only [tests, reduceCtorEq] at hc) <;> (try exact Zf))) | (refine G.atBin ?_; first | (refine G.atAdd ?_; first | refine G.arith rfl rfl rfl rfl rfl Zi ?_) | (refine G.atNeq ?_; first | refine G.neStr0 rfl rfl rfl ?_) | refine G.op rfl rfl ?_) | refine G.op rfl rfl ?_ | (refine G.atIdx ?_; first | (refine G.idxRow' rfl rfl (tyy rfl) (tyy rfl) Za Zj rfl Zo ?_; intro _ _)))
        all_goals first | (exfalso; omega) | (exfalso; contradiction) | exact G.again ⟨j + 1, Q, A, c⟩ ⟨sint (by simp), rfl, rfl, rfl, rfl, rfl, rfl, trivial⟩ Zu ⟨by simp only; omega, by simp only; omega, hinv⟩ (by solve | repeat first | assumption | exact Zr _ | refine Zq ?_ Zp) (by simp only; omega)
      . rw [if_neg hm] at hinv
        simp only [Option.map_none] at hinv
        subst hinv
        simp only [Option.map_none] at hR0
        subst hR0
        repeat' (first | (refine G.atLoad ?_; refine G.loadRowS rfl (tyy rfl) Zp Za Zo rfl ?_; rw [hst]) | (show G _ (.ops .seq _ (⟨some _, .call { callee := .value (.func 31), args := _, argTypes := _ }, _, _, _, none⟩ :: _) :: _) _ _ _; refine G.call callBad rfl rfl (ref_bad g S _ n 4 _) Ze ?_; rintro _ h5 H5 ⟨rfl, rfl⟩ hle5; unfold zFv) | (refine G.atCode ?_; first | refine G.seq ?_ | refine G.region ?_ | refine G.block ?_ | refine G.skip ?_ | refine G.ret ?_ | (refine G.cond rfl ?_ ?_ <;> intro hc <;> (try simp only [tests, reduceCtorEq] at hc) <;> (try exact Zf))) | refine G.endOps ?_ | (refine G.atGd ?_; first | refine G.guardYes rfl rfl ?_ | (refine G.guardS rfl rfl rfl ?_ ?_ <;> intro hc <;> (try simp only [tests, reduceCtorEq] at hc) <;> (try exact Zf))) | (refine G.atBin ?_; first | (refine G.atEql ?_; first | refine G.eqStr0 rfl rfl rfl ?_) | refine G.op rfl rfl ?_) | refine G.op rfl rfl ?_ | (refine G.atSto ?_; refine G.storeOwn rfl rfl (tyy rfl) Za rfl rfl rfl rfl ?_) | (refine G.atIdx ?_; first | (refine G.idxRow' rfl rfl (tyy rfl) (tyy rfl) Za Zj rfl Zo ?_; intro _ _)))
        all_goals first | (exfalso; omega) | (exfalso; contradiction) | exact G.done (rs := [.cell 2 25]) rfl (.cellA rfl (tyy rfl) rfl rfl Za rfl .nil) rfl [rdf g S _ n 4] Zu ⟨rfl, _, rfl⟩
    . rw [if_neg (fun e => hx (by rw [e]; rfl))] at hinv
      have hsn : ∀ z : Int, pcsR Q ++ [[.int .i64 z, str x]] = pcsR (Q ++ [(z, x)]) := fun z => by simp [pcsR]
      have hk : ∀ z : Int, z = (if j = 0 then 0 else if j + 1 = P'.length then 2 else 1) -> (pcsF P'.length (j + 1) (P'.drop (j + 1))).map ((Q ++ [(z, x)]) ++ ·) = RQ := fun z hj => by
        rw [<- hinv, hj]; cases pcsF P'.length (j + 1) (P'.drop (j + 1)) <;> simp
      clear hinv
      by_cases hj0 : j = 0
      . repeat' (first | (refine G.atLoad ?_; refine G.loadRowS rfl (tyy rfl) Zp Za Zo rfl ?_; rw [hst]) | (refine G.atCode ?_; first | refine G.seq ?_ | refine G.region ?_ | refine G.block ?_ | refine G.skip ?_ | (refine G.cond rfl ?_ ?_ <;> intro hc <;> (try simp only [tests, reduceCtorEq] at hc) <;> (try exact Zf))) | refine G.endOps ?_ | refine G.endBlk ?_ | (refine G.atGd ?_; first | refine G.guardNoS rfl rfl rfl ?_ | (refine G.guardS rfl rfl rfl ?_ ?_ <;> intro hc <;> (try simp only [tests, reduceCtorEq] at hc) <;> (try exact Zf))) | (refine G.atBin ?_; first | (refine G.atAdd ?_; first | refine G.arith rfl rfl rfl rfl rfl Zi ?_) | (refine G.atEql ?_; first | refine G.op rfl rfl ?_) | (refine G.atNeq ?_; first | refine G.neStr0 rfl rfl rfl ?_) | refine G.op rfl rfl ?_) | refine G.op rfl rfl ?_ | (refine G.atLoad ?_; first | refine G.loadOwn1 rfl (tyy rfl) rfl rfl Za rfl rfl ?_) | (refine G.atFld ?_; first | refine G.fieldAddr rfl (tyy rfl) rfl rfl ?_) | (refine G.atSto ?_; refine G.storeOwn rfl rfl (tyy rfl) Za rfl rfl rfl rfl ?_) | (refine G.atBld ?_; refine G.build (tyy rfl) rfl rfl rfl ?_) | (refine G.atBsl ?_; refine G.buildSlice (tyy rfl) (tyy rfl) rfl rfl rfl rfl ?_; intro _) | (refine G.atApp ?_; first | (refine G.append1 rfl rfl (tyy rfl) (tyy rfl) rfl rfl Za Za rfl rfl rfl Zo ?_; intro _; refine G.rowForm Take.hd ?_; rintro _ _ rfl)) | (refine G.atIdx ?_; first | (refine G.idxRow' rfl rfl (tyy rfl) (tyy rfl) Za Zj rfl Zo ?_; intro _ _)))
        all_goals try (exfalso; first | omega | contradiction)
        all_goals (
          rw [hsn 0]
          exact G.again ⟨j + 1, Q ++ [(0, x)], _, _⟩ ⟨sint (by simp), rfl, rfl, rfl, rfl, rfl, rfl, trivial⟩ Zu ⟨by simp only; omega, by simp only [List.length_append, List.length_cons, List.length_nil]; omega, hk 0 (by rw [if_pos (by omega)])⟩ (by solve | repeat first | assumption | exact Zr _ | refine Zq ?_ Zp) (by simp only; omega))
      . by_cases hjl : j + 1 = P'.length
        . repeat' (first | (refine G.atLoad ?_; refine G.loadRowS rfl (tyy rfl) Zp Za Zo rfl ?_; rw [hst]) | (refine G.atCode ?_; first | refine G.seq ?_ | refine G.region ?_ | refine G.block ?_ | refine G.skip ?_ | (refine G.cond rfl ?_ ?_ <;> intro hc <;> (try simp only [tests, reduceCtorEq] at hc) <;> (try exact Zf))) | refine G.endOps ?_ | refine G.endBlk ?_ | (refine G.atGd ?_; first | refine G.guardYes rfl rfl ?_ | refine G.guardNoS rfl rfl rfl ?_ | (refine G.guardS rfl rfl rfl ?_ ?_ <;> intro hc <;> (try simp only [tests, reduceCtorEq] at hc) <;> (try exact Zf))) | (refine G.atBin ?_; first | (refine G.atAdd ?_; first | refine G.arith rfl rfl rfl rfl rfl Zi ?_) | (refine G.atEql ?_; first | refine G.op rfl rfl ?_) | (refine G.atNeq ?_; first | refine G.neStr0 rfl rfl rfl ?_) | refine G.op rfl rfl ?_) | refine G.op rfl rfl ?_ | (refine G.atLoad ?_; first | refine G.loadOwn1 rfl (tyy rfl) rfl rfl Za rfl rfl ?_) | (refine G.atFld ?_; first | refine G.fieldAddr rfl (tyy rfl) rfl rfl ?_) | (refine G.atSto ?_; refine G.storeOwn rfl rfl (tyy rfl) Za rfl rfl rfl rfl ?_) | (refine G.atBld ?_; refine G.build (tyy rfl) rfl rfl rfl ?_) | (refine G.atBsl ?_; refine G.buildSlice (tyy rfl) (tyy rfl) rfl rfl rfl rfl ?_; intro _) | (refine G.atApp ?_; first | (refine G.append1 rfl rfl (tyy rfl) (tyy rfl) rfl rfl Za Za rfl rfl rfl Zo ?_; intro _; refine G.rowForm Take.hd ?_; rintro _ _ rfl)) | (refine G.atIdx ?_; first | (refine G.idxRow' rfl rfl (tyy rfl) (tyy rfl) Za Zj rfl Zo ?_; intro _ _)))
          all_goals try (exfalso; first | omega | contradiction)
          all_goals (
            rw [hsn 2]
            exact G.again ⟨j + 1, Q ++ [(2, x)], _, _⟩ ⟨sint (by simp), rfl, rfl, rfl, rfl, rfl, rfl, trivial⟩ Zu ⟨by simp only; omega, by simp only [List.length_append, List.length_cons, List.length_nil]; omega, hk 2 (by rw [if_neg (by omega), if_pos (by omega)])⟩ (by solve | repeat first | assumption | exact Zr _ | refine Zq ?_ Zp) (by simp only; omega))
        . repeat' (first | (refine G.atLoad ?_; refine G.loadRowS rfl (tyy rfl) Zp Za Zo rfl ?_; rw [hst]) | (refine G.atCode ?_; first | refine G.seq ?_ | refine G.region ?_ | refine G.block ?_ | refine G.skip ?_ | (refine G.cond rfl ?_ ?_ <;> intro hc <;> (try simp only [tests, reduceCtorEq] at hc) <;> (try exact Zf))) | refine G.endOps ?_ | refine G.endBlk ?_ | (refine G.atGd ?_; first | refine G.guardYes rfl rfl ?_ | (refine G.guardS rfl rfl rfl ?_ ?_ <;> intro hc <;> (try simp only [tests, reduceCtorEq] at hc) <;> (try exact Zf))) | (refine G.atBin ?_; first | (refine G.atAdd ?_; first | refine G.arith rfl rfl rfl rfl rfl Zi ?_) | (refine G.atEql ?_; first | refine G.op rfl rfl ?_ | refine G.eqStr0 rfl rfl rfl ?_) | (refine G.atNeq ?_; first | refine G.neStr0 rfl rfl rfl ?_) | refine G.op rfl rfl ?_) | refine G.op rfl rfl ?_ | (refine G.atLoad ?_; first | refine G.loadOwn1 rfl (tyy rfl) rfl rfl Za rfl rfl ?_) | (refine G.atFld ?_; first | refine G.fieldAddr rfl (tyy rfl) rfl rfl ?_) | (refine G.atSto ?_; refine G.storeOwn rfl rfl (tyy rfl) Za rfl rfl rfl rfl ?_) | (refine G.atBld ?_; refine G.build (tyy rfl) rfl rfl rfl ?_) | (refine G.atBsl ?_; refine G.buildSlice (tyy rfl) (tyy rfl) rfl rfl rfl rfl ?_; intro _) | (refine G.atApp ?_; first | (refine G.append1 rfl rfl (tyy rfl) (tyy rfl) rfl rfl Za Za rfl rfl rfl Zo ?_; intro _; refine G.rowForm Take.hd ?_; rintro _ _ rfl)) | (refine G.atIdx ?_; first | (refine G.idxRow' rfl rfl (tyy rfl) (tyy rfl) Za Zj rfl Zo ?_; intro _ _)))
          all_goals try (exfalso; first | omega | contradiction)
          all_goals (
            rw [hsn 1]
            exact G.again ⟨j + 1, Q ++ [(1, x)], _, _⟩ ⟨sint (by simp), rfl, rfl, rfl, rfl, rfl, rfl, trivial⟩ Zu ⟨by simp only; omega, by simp only [List.length_append, List.length_cons, List.length_nil]; omega, hk 1 (by rw [if_neg (by omega), if_neg (by omega)])⟩ (by solve | repeat first | assumption | exact Zr _ | refine Zq ?_ Zp) (by simp only; omega))
  . obtain rfl : j = P'.length := by omega
    rw [List.drop_length] at hinv
    simp only [pcsF, Option.map_some, List.append_nil] at hinv
    subst hinv
    simp only [Option.map_some] at hR0
    subst hR0
    repeat' (first | (refine G.atCode ?_; first | refine G.seq ?_ | refine G.region ?_ | refine G.exit rfl ?_ | refine G.ret ?_ | (refine G.cond rfl ?_ ?_ <;> intro hc <;> (try simp only [tests, reduceCtorEq] at hc) <;> (try exact Zf))) | refine G.endOps ?_ | (refine G.atBin ?_; first | refine G.op rfl rfl ?_) | (refine G.atLoad ?_; first | refine G.loadOwnA rfl (tyy rfl) rfl rfl Za rfl rfl ?_) | (refine G.atSto ?_; refine G.storeOwn rfl rfl (tyy rfl) Za rfl rfl rfl rfl ?_))
    all_goals try (exfalso; first | omega | contradiction)
    refine G.freezeRow (v := .slice A (pcsR Q).length c) Za ?_
    intro h9 hle9 hs9
    exact G.done (rs := [.cell 2 25]) rfl (.cellA rfl (tyy rfl) rfl rfl Za rfl .nil) rfl [rdf g S (i + 1) n 0] Zu ⟨i + 1, by omega, rfl, rfl, _, FlC.mk_ hs9 (HSl.nil _ 5) (FlsC.nil _), rfl⟩
end Go.Proofs.YtcghcdnmpjhifaaDoor
