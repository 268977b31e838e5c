/- Package journal: read. -/
import Derived.Test.YtmbpjgjajedonaaGreatDoorJoS
import Derived.Test.YtmbpjgjajedonaaGreatDoorLtAb
namespace Go.Proofs.YtmbpjgjajedonaaGreatDoor
set_option linter.all false
set_option maxRecDepth 4000
open Go.RowKit

def rdRows (g : Nat) : List (List Value) := [[.pointer (some ⟨g, 0, none⟩), .int .i64 5, .int .i64 4], [.pointer (some ⟨g, 1, none⟩), .int .i64 9, .int .i64 4], [.pointer (some ⟨g, 2, none⟩), .int .i64 13, .int .i64 2], [.pointer (some ⟨g, 3, none⟩), .int .i64 15, .int .i64 2]]
def rdC (a b c d : Nat) : Nat -> List Value
  | 0 => [.int .u64 0, .int .u64 0, .int .u64 0, .int .u64 0, str []]
  | 1 => [.int .u64 a, .int .u64 0, .int .u64 0, .int .u64 0, str []]
  | 2 => [.int .u64 a, .int .u64 b, .int .u64 0, .int .u64 0, str []]
  | 3 => [.int .u64 a, .int .u64 b, .int .u64 c, .int .u64 0, str []]
  | _ => [.int .u64 a, .int .u64 b, .int .u64 c, .int .u64 d, str []]
theorem cell_val {s : B8} (hs : s.length = 128) : cellM s = if crcM (s.drop 4) = num s 0 4 /\ byteAt s 4 = 67 /\ byteAt s 17 <= 110 /\ num s 5 4 ≠ 0 /\ num s 13 2 < num s 15 2 /\ s.drop (18 + byteAt s 17) = List.replicate (110 - byteAt s 17) 0 ∧
      (num s 13 2 ≠ num s 15 2 - 1 -> ¬ byteAt s 17 < 110) /\ (num s 13 2 = num s 15 2 - 1 -> byteAt s 17 = 0 -> ¬ 1 < num s 15 2)
    then some ⟨num s 5 4, num s 9 4, num s 13 2, num s 15 2, (s.drop 18).take (byteAt s 17)⟩ else none := by
  have hb := num_byte (s := s) (i := 17) (by omega)
  have hh := sec_iff hs
  have hdl : (cellOf s).data.length = min (byteAt s 17) 110 := by
    simp only [cellOf]
    rw [hb, List.length_take, List.length_drop]; omega
  rw [hb] at hh
  have c1 : (cellOf s).gen = num s 5 4 := rfl
  have c2 : (cellOf s).part = num s 13 2 := rfl
  have c3 : (cellOf s).parts = num s 15 2 := rfl
  unfold cellM
  rw [hb]
  by_cases h : crcM (s.drop 4) = num s 0 4 /\ byteAt s 4 = 67 /\ byteAt s 17 <= 110 /\ num s 5 4 ≠ 0 /\ num s 13 2 < num s 15 2 /\ s.drop (18 + byteAt s 17) = List.replicate (110 - byteAt s 17) 0 ∧
      (num s 13 2 ≠ num s 15 2 - 1 -> ¬ byteAt s 17 < 110) /\ (num s 13 2 = num s 15 2 - 1 -> byteAt s 17 = 0 -> ¬ 1 < num s 15 2)
  . obtain ⟨h1, h2, h3, h4, h5, h6, h7, h8⟩ := id h
    have hok : (cellOf s).Ok := ⟨by omega, by omega, by omega, fun hx => by have := h7 (by omega); omega, fun hx hy => by have := h8 (by omega) (by omega); omega⟩
    refine Eq.trans (if_pos ⟨h3, hok, (hh h3).2 ⟨h1, h2, h6⟩⟩) ?_
    rw [if_pos h]
    simp only [cellOf, hb]
  . refine Eq.trans (if_neg ?_) (if_neg h).symm
    rintro ⟨h1, ⟨o1, o2, o3, o4, o5⟩, h3⟩
    obtain ⟨a, b, c⟩ := (hh h1).1 h3
    exact h ⟨a, b, h1, by omega, by omega, c, fun hx => by have := o4 (by omega); omega, fun hx hy => by have := o5 (by omega) (by omega); omega⟩
def ceV : Option Cl -> Value
  | none => .tuple #[.agg (Cl.vals ⟨0, 0, 0, 0, []⟩).toArray, .bool false]
  | some c => .tuple #[.agg c.vals.toArray, .bool true]
set_option maxRecDepth 8000 in
set_option maxHeartbeats 4000000 in
theorem jo_read (s : B8) (hs : s.length = 128) (h : Heap) : Spec Tryz.prog 40 [str s] h [] (fun u _ H' => u = ceV (cellM s) /\ H' = []) := by
  have hv := cell_val hs
  have hSe := jo_sealed s hs
  have hd4 : (s.drop 4).length = 124 := by rw [List.length_drop]; omega
  have hb4 : byteAt (s.drop 4) 0 = byteAt s 4 := byteAt_drop s 4 0
  have hb17 := byteAt_lt s 17
  have hG1 := octet_Get s 5 4 (by omega) (by omega) (by omega)
  have hG2 := octet_Get s 9 4 (by omega) (by omega) (by omega)
  have hG3 := octet_Get s 13 2 (by omega) (by omega) (by omega)
  have hG4 := octet_Get s 15 2 (by omega) (by omega) (by omega)
  rw [show getV s 5 4 = num s 5 4 from getV_num 5 4 (by omega) (by omega)] at hG1
  rw [show getV s 9 4 = num s 9 4 from getV_num 9 4 (by omega) (by omega)] at hG2
  rw [show getV s 13 2 = num s 13 2 from getV_num 13 2 (by omega) (by omega)] at hG3
  rw [show getV s 15 2 = num s 15 2 from getV_num 15 2 (by omega) (by omega)] at hG4
  have n1 := num_lt s 5 4
  have n2 := num_lt s 9 4
  have n3 := num_lt s 13 2
  have n4 := num_lt s 15 2
  generalize num s 5 4 = a at *
  generalize num s 9 4 = b at *
  generalize num s 13 2 = c at *
  generalize num s 15 2 = d at *
  generalize crcM (s.drop 4) = K at *
  generalize num s 0 4 = K2 at *
  generalize s.drop 4 = r at *
  have hTr := fun (n : Int) (hn : 0 <= n) (hn2 : n <= 110) => strs_Trim (s.drop (18 + n).toNat) (by rw [List.length_drop]; omega)
  refine Spec.enter Tryz.func40 rfl rfl ?_; intro w0
  repeat' (first | (show G _ (.ops .seq _ (⟨some _, .call { callee := .value (.func 64), args := _, argTypes := _ }, _, _, _, none⟩ :: _) :: _) _ _ _; refine G.call callSealed rfl rfl (hSe _) Ze ?_; rintro _ h2 H2 ⟨rfl, rfl⟩ hle2) | (refine G.atCode ?_; refine G.stopLoop ?_) | (refine G.atCode ?_; first | refine G.seq ?_ | refine G.region ?_ | refine G.block ?_ | refine G.skip ?_ | refine G.ret ?_ | (refine G.cond rfl ?_ ?_ <;> intro hc <;> (try simp only [tests, reduceCtorEq] at hc) <;> (try exact Zf))) | refine G.endOps ?_ | (refine G.atGd ?_; first | refine G.guardYes rfl rfl ?_ | refine G.guardNoS rfl rfl rfl ?_ | (refine G.guardS rfl rfl rfl ?_ ?_ <;> intro hc <;> (try simp only [tests, reduceCtorEq] at hc) <;> (try exact Zf))) | (refine G.atBin ?_; first | (refine G.atNeq ?_; first | refine G.op rfl rfl ?_)) | refine G.op rfl rfl ?_ | (refine G.atLen ?_; first | refine G.lenSlice rfl (tyy rfl) rfl ?_) | (refine G.atFld ?_; first | refine G.fieldAddr rfl (tyy rfl) rfl rfl ?_) | (refine G.atSto ?_; refine G.storeOwn rfl rfl (tyy rfl) Za rfl rfl rfl rfl ?_) | (refine G.atAlc ?_; refine G.alloc (tyy rfl) rfl rfl ?_; intro _) | (refine G.atBld ?_; refine G.build (tyy rfl) rfl rfl rfl ?_) | (refine G.atBsl ?_; refine G.buildSlice (tyy rfl) (tyy rfl) rfl rfl rfl rfl ?_; intro _) | (refine G.atInd ?_; refine G.idxStr rfl rfl (tyy rfl) rfl Zj Zo ?_; intro _))
  all_goals first
    | (refine G.done (rs := [.cell 2 77, .tmp 3]) rfl (.cellA rfl (tyy rfl) rfl rfl Za rfl (.tmp rfl .nil)) rfl _ (SubH.nil _) ⟨?_, rfl⟩; rw [hv, if_neg (by rintro ⟨h1, h2, h3⟩; first | contradiction | omega)]; rfl)
    | skip
  rename_i g2 hx1 hx2 gc gs
  refine G.freezeBlk Take.hd ?_
  intro hf1 hle4 hc1
  have hs1 := HSl.ofBlk1 (sz := 3) (rows := rdRows gc) (n := 4) hc1 (by intro r hr; simp only [rdRows, List.mem_cons, List.mem_nil_iff, or_false] at hr; rcases hr with rfl | rfl | rfl | rfl <;> rfl) rfl (by decide)
  clear hc1
  refine G.go ?_
  refine G.loop (σ := Nat) (fun i => [(34, .int .i64 i), (33, .int .i64 4), (32, .slice (some ⟨gs, 0, none⟩) 4 4), (6, .pointer (some ⟨gc, 0, none⟩)), (2, .pointer (some ⟨g2, 0, none⟩)), (0, str s)])
    (fun i => [.blk gc (rdC a b c d i) 77, .blk g2 (rdC 0 0 0 0 0) 77])
    (fun i _ => i <= 4) (fun i => 4 - i) 0 ⟨rfl, rfl, rfl, rfl, rfl, rfl, trivial⟩ Zu (Nat.zero_le _) ?_
  rintro i h1 hle1 hi
  have hs2 := hs1.mono (show Heap.le hf1 h1 from (by solve | repeat first | assumption | exact Zr _ | refine Zq ?_ Zp))
  clear hs1
  have hrl : (rdRows gc).length = 4 := rfl
  rcases (show i = 0 \/ i = 1 \/ i = 2 \/ i = 3 \/ i = 4 by omega) with rfl | rfl | rfl | rfl | rfl
  . repeat' (first | (refine G.atIdx ?_; refine G.idxImmN rfl rfl (tyy rfl) (tyy rfl) hs2 Zj rfl (by rw [hrl]; omega) ?_; intro p r9 hr9 hl9 hp; obtain rfl : r9 = [.pointer (some ⟨gc, 0, none⟩), .int .i64 5, .int .i64 4] := (Option.some.inj (show some _ = some r9 from hr9)).symm) | (refine G.atAny ?_; refine G.anyHold 13 slB rfl (H1 := [.blk _ [.pointer (some ⟨gc, 0, none⟩), .int .i64 5, .int .i64 4] _]) rfl Zw Zg Zu ?_) | (refine G.atAny ?_; first | refine G.anyKeep slB rfl Zw (by solve | exact Heap.none_le _ | assumption | exact Zr _ | (repeat first | assumption | exact Zr _ | refine Zq ?_ Zp)) Zu ?_ | refine G.anyOne rfl Zw (by solve | exact Heap.none_le _ | assumption | exact Zr _ | (repeat first | assumption | exact Zr _ | refine Zq ?_ Zp)) Zu ?_ | refine G.anyEnd Zw (by solve | exact Heap.none_le _ | assumption | exact Zr _ | (repeat first | assumption | exact Zr _ | refine Zq ?_ Zp)) Zu ?_) | (show G _ (.ops .seq _ (⟨some _, .call { callee := .value (.func 65), args := _, argTypes := _ }, _, _, _, none⟩ :: _) :: _) _ _ _; refine G.call callGet7 rfl rfl (hG1 _) Ze ?_; rintro _ h3 H3 ⟨rfl, rfl⟩ hle3) | (refine G.atCode ?_; first | refine G.seq ?_ | refine G.region ?_ | refine G.block ?_ | refine G.skip ?_ | refine G.anyIn mixedOk ?_ | (refine G.cond rfl ?_ ?_ <;> intro hc <;> (try simp only [tests, reduceCtorEq] at hc) <;> (try exact Zf))) | refine G.endOps ?_ | refine G.endHeld ?_ | refine G.back ?_ | refine G.endBlk ?_ | (refine G.atBin ?_; first | (refine G.atAdd ?_; first | refine G.arith rfl rfl rfl rfl rfl Zi ?_) | refine G.op rfl rfl ?_) | refine G.op rfl rfl ?_ | (refine G.atLoad ?_; first | refine G.loadOwn1 rfl (tyy rfl) rfl rfl Za rfl rfl ?_ | refine G.loadImmA rfl (tyy rfl) rfl rfl Zp Zp rfl ?_) | (refine G.atFld ?_; first | refine G.fieldAddr rfl (tyy rfl) rfl rfl ?_) | (refine G.atSto ?_; refine G.storeOwn rfl rfl (tyy rfl) Za rfl rfl rfl rfl ?_) | (refine G.atAlc ?_; refine G.alloc (tyy rfl) rfl rfl ?_; intro _))
    exact G.again 1 ⟨rfl, rfl, rfl, rfl, rfl, rfl, trivial⟩ Zu (by decide) (by solve | repeat first | assumption | exact Zr _ | refine Zq ?_ Zp) (by decide)
  . repeat' (first | (refine G.atIdx ?_; refine G.idxImmN rfl rfl (tyy rfl) (tyy rfl) hs2 Zj rfl (by rw [hrl]; omega) ?_; intro p r9 hr9 hl9 hp; obtain rfl : r9 = [.pointer (some ⟨gc, 1, none⟩), .int .i64 9, .int .i64 4] := (Option.some.inj (show some _ = some r9 from hr9)).symm) | (refine G.atAny ?_; refine G.anyHold 13 slB rfl (H1 := [.blk _ [.pointer (some ⟨gc, 1, none⟩), .int .i64 9, .int .i64 4] _]) rfl Zw Zg Zu ?_) | (refine G.atAny ?_; first | refine G.anyKeep slB rfl Zw (by solve | exact Heap.none_le _ | assumption | exact Zr _ | (repeat first | assumption | exact Zr _ | refine Zq ?_ Zp)) Zu ?_ | refine G.anyOne rfl Zw (by solve | exact Heap.none_le _ | assumption | exact Zr _ | (repeat first | assumption | exact Zr _ | refine Zq ?_ Zp)) Zu ?_ | refine G.anyEnd Zw (by solve | exact Heap.none_le _ | assumption | exact Zr _ | (repeat first | assumption | exact Zr _ | refine Zq ?_ Zp)) Zu ?_) | (show G _ (.ops .seq _ (⟨some _, .call { callee := .value (.func 65), args := _, argTypes := _ }, _, _, _, none⟩ :: _) :: _) _ _ _; refine G.call callGet7 rfl rfl (hG2 _) Ze ?_; rintro _ h3 H3 ⟨rfl, rfl⟩ hle3) | (refine G.atCode ?_; first | refine G.seq ?_ | refine G.region ?_ | refine G.block ?_ | refine G.skip ?_ | refine G.anyIn mixedOk ?_ | (refine G.cond rfl ?_ ?_ <;> intro hc <;> (try simp only [tests, reduceCtorEq] at hc) <;> (try exact Zf))) | refine G.endOps ?_ | refine G.endHeld ?_ | refine G.back ?_ | refine G.endBlk ?_ | (refine G.atBin ?_; first | (refine G.atAdd ?_; first | refine G.arith rfl rfl rfl rfl rfl Zi ?_) | refine G.op rfl rfl ?_) | refine G.op rfl rfl ?_ | (refine G.atLoad ?_; first | refine G.loadOwn1 rfl (tyy rfl) rfl rfl Za rfl rfl ?_ | refine G.loadImmA rfl (tyy rfl) rfl rfl Zp Zp rfl ?_) | (refine G.atFld ?_; first | refine G.fieldAddr rfl (tyy rfl) rfl rfl ?_) | (refine G.atSto ?_; refine G.storeOwn rfl rfl (tyy rfl) Za rfl rfl rfl rfl ?_) | (refine G.atAlc ?_; refine G.alloc (tyy rfl) rfl rfl ?_; intro _))
    exact G.again 2 ⟨rfl, rfl, rfl, rfl, rfl, rfl, trivial⟩ Zu (by decide) (by solve | repeat first | assumption | exact Zr _ | refine Zq ?_ Zp) (by decide)
  . repeat' (first | (refine G.atIdx ?_; refine G.idxImmN rfl rfl (tyy rfl) (tyy rfl) hs2 Zj rfl (by rw [hrl]; omega) ?_; intro p r9 hr9 hl9 hp; obtain rfl : r9 = [.pointer (some ⟨gc, 2, none⟩), .int .i64 13, .int .i64 2] := (Option.some.inj (show some _ = some r9 from hr9)).symm) | (refine G.atAny ?_; refine G.anyHold 13 slB rfl (H1 := [.blk _ [.pointer (some ⟨gc, 2, none⟩), .int .i64 13, .int .i64 2] _]) rfl Zw Zg Zu ?_) | (refine G.atAny ?_; first | refine G.anyKeep slB rfl Zw (by solve | exact Heap.none_le _ | assumption | exact Zr _ | (repeat first | assumption | exact Zr _ | refine Zq ?_ Zp)) Zu ?_ | refine G.anyOne rfl Zw (by solve | exact Heap.none_le _ | assumption | exact Zr _ | (repeat first | assumption | exact Zr _ | refine Zq ?_ Zp)) Zu ?_ | refine G.anyEnd Zw (by solve | exact Heap.none_le _ | assumption | exact Zr _ | (repeat first | assumption | exact Zr _ | refine Zq ?_ Zp)) Zu ?_) | (show G _ (.ops .seq _ (⟨some _, .call { callee := .value (.func 65), args := _, argTypes := _ }, _, _, _, none⟩ :: _) :: _) _ _ _; refine G.call callGet7 rfl rfl (hG3 _) Ze ?_; rintro _ h3 H3 ⟨rfl, rfl⟩ hle3) | (refine G.atCode ?_; first | refine G.seq ?_ | refine G.region ?_ | refine G.block ?_ | refine G.skip ?_ | refine G.anyIn mixedOk ?_ | (refine G.cond rfl ?_ ?_ <;> intro hc <;> (try simp only [tests, reduceCtorEq] at hc) <;> (try exact Zf))) | refine G.endOps ?_ | refine G.endHeld ?_ | refine G.back ?_ | refine G.endBlk ?_ | (refine G.atBin ?_; first | (refine G.atAdd ?_; first | refine G.arith rfl rfl rfl rfl rfl Zi ?_) | refine G.op rfl rfl ?_) | refine G.op rfl rfl ?_ | (refine G.atLoad ?_; first | refine G.loadOwn1 rfl (tyy rfl) rfl rfl Za rfl rfl ?_ | refine G.loadImmA rfl (tyy rfl) rfl rfl Zp Zp rfl ?_) | (refine G.atFld ?_; first | refine G.fieldAddr rfl (tyy rfl) rfl rfl ?_) | (refine G.atSto ?_; refine G.storeOwn rfl rfl (tyy rfl) Za rfl rfl rfl rfl ?_) | (refine G.atAlc ?_; refine G.alloc (tyy rfl) rfl rfl ?_; intro _))
    exact G.again 3 ⟨rfl, rfl, rfl, rfl, rfl, rfl, trivial⟩ Zu (by decide) (by solve | repeat first | assumption | exact Zr _ | refine Zq ?_ Zp) (by decide)
  . repeat' (first | (refine G.atIdx ?_; refine G.idxImmN rfl rfl (tyy rfl) (tyy rfl) hs2 Zj rfl (by rw [hrl]; omega) ?_; intro p r9 hr9 hl9 hp; obtain rfl : r9 = [.pointer (some ⟨gc, 3, none⟩), .int .i64 15, .int .i64 2] := (Option.some.inj (show some _ = some r9 from hr9)).symm) | (refine G.atAny ?_; refine G.anyHold 13 slB rfl (H1 := [.blk _ [.pointer (some ⟨gc, 3, none⟩), .int .i64 15, .int .i64 2] _]) rfl Zw Zg Zu ?_) | (refine G.atAny ?_; first | refine G.anyKeep slB rfl Zw (by solve | exact Heap.none_le _ | assumption | exact Zr _ | (repeat first | assumption | exact Zr _ | refine Zq ?_ Zp)) Zu ?_ | refine G.anyOne rfl Zw (by solve | exact Heap.none_le _ | assumption | exact Zr _ | (repeat first | assumption | exact Zr _ | refine Zq ?_ Zp)) Zu ?_ | refine G.anyEnd Zw (by solve | exact Heap.none_le _ | assumption | exact Zr _ | (repeat first | assumption | exact Zr _ | refine Zq ?_ Zp)) Zu ?_) | (show G _ (.ops .seq _ (⟨some _, .call { callee := .value (.func 65), args := _, argTypes := _ }, _, _, _, none⟩ :: _) :: _) _ _ _; refine G.call callGet7 rfl rfl (hG4 _) Ze ?_; rintro _ h3 H3 ⟨rfl, rfl⟩ hle3) | (refine G.atCode ?_; first | refine G.seq ?_ | refine G.region ?_ | refine G.block ?_ | refine G.skip ?_ | refine G.anyIn mixedOk ?_ | (refine G.cond rfl ?_ ?_ <;> intro hc <;> (try simp only [tests, reduceCtorEq] at hc) <;> (try exact Zf))) | refine G.endOps ?_ | refine G.endHeld ?_ | refine G.back ?_ | refine G.endBlk ?_ | (refine G.atBin ?_; first | (refine G.atAdd ?_; first | refine G.arith rfl rfl rfl rfl rfl Zi ?_) | refine G.op rfl rfl ?_) | refine G.op rfl rfl ?_ | (refine G.atLoad ?_; first | refine G.loadOwn1 rfl (tyy rfl) rfl rfl Za rfl rfl ?_ | refine G.loadImmA rfl (tyy rfl) rfl rfl Zp Zp rfl ?_) | (refine G.atFld ?_; first | refine G.fieldAddr rfl (tyy rfl) rfl rfl ?_) | (refine G.atSto ?_; refine G.storeOwn rfl rfl (tyy rfl) Za rfl rfl rfl rfl ?_) | (refine G.atAlc ?_; refine G.alloc (tyy rfl) rfl rfl ?_; intro _))
    exact G.again 4 ⟨rfl, rfl, rfl, rfl, rfl, rfl, trivial⟩ Zu (by decide) (by solve | repeat first | assumption | exact Zr _ | refine Zq ?_ Zp) (by decide)
  clear hs2
  by_cases hP : byteAt s 17 <= 110
  . repeat' (first | (show G _ (.ops .seq _ (⟨some _, .call { callee := .value (.func 66), args := _, argTypes := _ }, _, _, _, none⟩ :: _) :: _) _ _ _; refine G.call callTrim rfl rfl (hTr _ (by omega) (by omega) _) Ze ?_; rintro _ h4 H4 ⟨⟨q, rfl, hq⟩, rfl⟩ hle4) | (refine G.atCode ?_; first | refine G.seq ?_ | refine G.region ?_ | refine G.skip ?_ | refine G.exit rfl ?_ | refine G.ret ?_ | (refine G.cond rfl ?_ ?_ <;> intro hc <;> (try simp only [tests, reduceCtorEq] at hc) <;> (try exact Zf))) | refine G.endOps ?_ | (refine G.atGd ?_; first | refine G.guardYes rfl rfl ?_ | refine G.guardNoS rfl rfl rfl ?_ | refine G.guardU rfl rfl rfl ?_ | (refine G.guardS rfl rfl rfl ?_ ?_ <;> intro hc <;> (try simp only [tests, reduceCtorEq] at hc) <;> (try exact Zf))) | (refine G.atBin ?_; first | (refine G.atAdd ?_; first | refine G.arith rfl rfl rfl rfl rfl Zi ?_) | (refine G.atSub ?_; first | refine G.arith rfl rfl rfl rfl rfl Zi ?_) | (refine G.atEql ?_; first | refine G.op rfl rfl ?_) | (refine G.atNeq ?_; first | refine G.neStr0 rfl rfl rfl ?_) | refine G.op rfl rfl ?_) | refine G.op rfl rfl ?_ | (refine G.atLoad ?_; first | refine G.loadOwn1 rfl (tyy rfl) rfl rfl Za rfl rfl ?_ | refine G.loadOwnA rfl (tyy rfl) rfl rfl Za rfl rfl ?_) | (refine G.atFld ?_; first | refine G.fieldAddr rfl (tyy rfl) rfl rfl ?_) | (refine G.atSto ?_; refine G.storeOwn rfl rfl (tyy rfl) Za rfl rfl rfl rfl ?_) | (refine G.atBld ?_; refine G.build (tyy rfl) rfl rfl rfl ?_) | (refine G.atInd ?_; refine G.idxStr rfl rfl (tyy rfl) rfl Zj Zo ?_; intro _) | (refine G.atConv ?_; first | refine G.conv rfl (tyy rfl) (tyy rfl) rfl Zi ?_) | (refine G.atSlc ?_; first | refine G.dropStr rfl rfl (tyy rfl) rfl Zj Zo ?_ | refine G.sliceStr rfl rfl rfl (tyy rfl) rfl Zj Zj Zo rfl ?_))
    all_goals try rw [show (18 + (byteAt s 17 : Int)).toNat = 18 + byteAt s 17 by omega, Nat.add_sub_cancel_left]
    all_goals try rw [show (18 + (byteAt s 17 : Int)).toNat = 18 + byteAt s 17 by omega, List.length_drop, hs, show 128 - (18 + byteAt s 17) = 110 - byteAt s 17 by omega] at hq
    all_goals first
      | (refine G.done (rs := [.cell 2 77, .tmp 3]) rfl (.cellA rfl (tyy rfl) rfl rfl Za rfl (.tmp rfl .nil)) rfl _ (SubH.nil _) ⟨?_, rfl⟩; rw [hv, if_pos (by refine ⟨?_, ?_, ?_, ?_, ?_, ?_, ?_, ?_⟩ <;> first | assumption | omega | exact hq.1 (by omega) | (intro _; omega) | (intro _ _; omega))]; rfl)
      | (refine G.done (rs := [.cell 2 77, .tmp 3]) rfl (.cellA rfl (tyy rfl) rfl rfl Za rfl (.tmp rfl .nil)) rfl _ (SubH.nil _) ⟨?_, rfl⟩; rw [hv, if_neg (by rintro ⟨h1, h2, h3, h4, h5, h6, h7, h8⟩; first | contradiction | omega | exact absurd (hq.2 h6) (by omega))]; rfl)
  . repeat' (first | (refine G.atCode ?_; first | refine G.seq ?_ | refine G.region ?_ | refine G.exit rfl ?_ | refine G.ret ?_ | (refine G.cond rfl ?_ ?_ <;> intro hc <;> (try simp only [tests, reduceCtorEq] at hc) <;> (try exact Zf))) | refine G.endOps ?_ | (refine G.atGd ?_; first | refine G.guardNoS rfl rfl rfl ?_ | (refine G.guardS rfl rfl rfl ?_ ?_ <;> intro hc <;> (try simp only [tests, reduceCtorEq] at hc) <;> (try exact Zf))) | (refine G.atBin ?_; first | refine G.op rfl rfl ?_) | refine G.op rfl rfl ?_ | (refine G.atSto ?_; refine G.storeOwn rfl rfl (tyy rfl) Za rfl rfl rfl rfl ?_) | (refine G.atBld ?_; refine G.build (tyy rfl) rfl rfl rfl ?_) | (refine G.atInd ?_; refine G.idxStr rfl rfl (tyy rfl) rfl Zj Zo ?_; intro _) | (refine G.atConv ?_; first | refine G.conv rfl (tyy rfl) (tyy rfl) rfl Zi ?_))
    all_goals first
      | (refine G.done (rs := [.cell 2 77, .tmp 3]) rfl (.cellA rfl (tyy rfl) rfl rfl Za rfl (.tmp rfl .nil)) rfl _ (SubH.nil _) ⟨?_, rfl⟩; rw [hv, if_neg (by rintro ⟨h1, h2, h3⟩; first | contradiction | omega)]; rfl)
end Go.Proofs.YtmbpjgjajedonaaGreatDoor
