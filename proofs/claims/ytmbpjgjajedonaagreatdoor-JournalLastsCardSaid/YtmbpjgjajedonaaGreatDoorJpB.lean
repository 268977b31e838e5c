/- castellanref06: ReadHead, Read. -/
import Derived.Test.YtmbpjgjajedonaaGreatDoorJpA
namespace Go.Proofs.YtmbpjgjajedonaaGreatDoor
set_option linter.all false
set_option maxRecDepth 4000
open Go.RowKit

set_option maxRecDepth 8000 in
theorem ref06_ReadHead (s : B8) (hs : s.length = 128) (h : Heap) : Spec Tryz.prog 45 [str s] h [] (fun u _ H' => u = hdV (headM s) /\ H' = []) := by
  have n1 := ref06_num s (by omega) 5 4 (by omega) (by omega)
  have n2 := ref06_num s (by omega) 9 1 (by omega) (by omega)
  have l1 := num_lt s 5 4
  have hH := fun (hf : num s 9 1 <= 1) => ref06_Head (num s 5 4) (num s 9 1) (by omega) hf
  have hv : headM s = if 1 <= num s 5 4 /\ num s 9 1 <= 1 /\ secH (num s 5 4) (num s 9 1) = s then some (num s 5 4, num s 9 1) else none := rfl
  have hsl := secH_len (num s 5 4) (num s 9 1)
  generalize num s 5 4 = g at *
  generalize num s 9 1 = f at *
  generalize secH g f = Z at *
  refine Spec.enter Tryz.func45 rfl rfl ?_; intro w0
  repeat' (first | (show G _ (.ops .seq _ (⟨some _, .call { callee := .value (.func 67), args := _, argTypes := _ }, _, _, _, none⟩ :: _) :: _) _ _ _; refine G.call callRNum rfl rfl (n1 _) Ze ?_; rintro _ h2 H2 ⟨rfl, rfl⟩ hle2) | (show G _ (.ops .seq _ (⟨some _, .call { callee := .value (.func 67), args := _, argTypes := _ }, _, _, _, none⟩ :: _) :: _) _ _ _; refine G.call callRNum rfl rfl (n2 _) Ze ?_; rintro _ h3 H3 ⟨rfl, rfl⟩ hle3) | (show G _ (.ops .seq _ (⟨some _, .call { callee := .value (.func 58), args := _, argTypes := _ }, _, _, _, none⟩ :: _) :: _) _ _ _; refine G.call callRHead rfl rfl (hH (by omega) _) Ze ?_; rintro _ h4 H4 ⟨rfl, rfl⟩ hle4) | (refine G.atCode ?_; first | refine G.seq ?_ | refine G.region ?_ | refine G.block ?_ | refine G.skip ?_ | refine G.exit rfl ?_ | refine G.ret ?_ | (refine G.cond rfl ?_ ?_ <;> intro hc <;> (try simp only [tests, reduceCtorEq] at hc) <;> (try exact Zf))) | refine G.endOps ?_ | refine G.endStill ?_ | refine G.endHeld ?_ | refine G.back ?_ | refine G.endBlk ?_ | (refine G.atGd ?_; first | refine G.guardYes rfl rfl ?_ | refine G.guardNoS rfl rfl rfl ?_ | refine G.guardU rfl rfl rfl ?_ | (refine G.guardS rfl rfl rfl ?_ ?_ <;> intro hc <;> (try simp only [tests, reduceCtorEq] at hc) <;> (try exact Zf)) | refine G.guardNo rfl rfl ?_ (by rintro i ⟨⟩; rfl) | (refine G.guard rfl rfl ?_ ?_ (by rintro i ⟨⟩; rfl) <;> intro hc <;> (try simp only [tests, reduceCtorEq] at hc) <;> (try exact Zf))) | (refine G.atBin ?_; first | (refine G.atNeq ?_; first | refine G.op rfl rfl ?_ | refine G.neStr0 rfl rfl rfl ?_ | refine G.neStr rfl rfl rfl ?_ | refine G.nePtr rfl rfl (tyy rfl) rfl ?_ | refine G.neBool rfl rfl (tyy rfl) rfl ?_) | refine G.op rfl rfl ?_ ) | refine G.op rfl rfl ?_              )
  all_goals first
    | (exfalso; omega)
    | (refine G.done3 rfl rfl rfl rfl _ (SubH.nil _) ⟨?_, rfl⟩; rw [hv, if_pos (by refine ⟨?_, ?_, ?_⟩ <;> first | assumption | omega)]; rfl)
    | (refine G.done3 rfl rfl rfl rfl _ (SubH.nil _) ⟨?_, rfl⟩; rw [hv, if_neg (by rintro ⟨h1, h2, h3⟩; first | contradiction | omega)]; rfl)
def ceVI : Option Cl -> Value
  | none => .tuple #[.agg (Cl.valsI ⟨0, 0, 0, 0, []⟩).toArray, .bool false]
  | some c => .tuple #[.agg c.valsI.toArray, .bool true]
theorem cell_val2 {s : B8} (hs : s.length = 128) : cellM s = if num s 17 1 <= 110 /\ 1 <= num s 5 4 /\ num s 13 2 < num s 15 2 /\ secC ⟨num s 5 4, num s 9 4, num s 13 2, num s 15 2, (s.drop 18).take (num s 17 1)⟩ = s ∧
      (num s 13 2 + 1 ≠ num s 15 2 -> num s 17 1 = 110) /\ (num s 13 2 + 1 = num s 15 2 -> num s 17 1 = 0 -> num s 15 2 = 1)
    then some ⟨num s 5 4, num s 9 4, num s 13 2, num s 15 2, (s.drop 18).take (num s 17 1)⟩ else none := by
  have hdl : (cellOf s).data.length = min (num s 17 1) 110 := by
    simp only [cellOf]
    rw [List.length_take, List.length_drop]; omega
  have c1 : (cellOf s).gen = num s 5 4 := rfl
  have c2 : (cellOf s).part = num s 13 2 := rfl
  have c3 : (cellOf s).parts = num s 15 2 := rfl
  have e : (⟨num s 5 4, num s 9 4, num s 13 2, num s 15 2, (s.drop 18).take (num s 17 1)⟩ : Cl) = cellOf s := rfl
  rw [e]
  unfold cellM
  by_cases h : num s 17 1 <= 110 /\ 1 <= num s 5 4 /\ num s 13 2 < num s 15 2 /\ secC (cellOf s) = s /\ (num s 13 2 + 1 ≠ num s 15 2 -> num s 17 1 = 110) /\ (num s 13 2 + 1 = num s 15 2 -> num s 17 1 = 0 -> num s 15 2 = 1)
  . obtain ⟨h1, h2, h3, h4, h5, h6⟩ := id h
    have hok : (cellOf s).Ok := ⟨by omega, by omega, by omega, fun hx => by have := h5 (by omega); omega, fun hx hy => by have := h6 (by omega) (by omega); omega⟩
    refine Eq.trans (if_pos ⟨h1, hok, h4⟩) ?_
    rw [if_pos h]
  . refine Eq.trans (if_neg ?_) (if_neg h).symm
    rintro ⟨h1, ⟨o1, o2, o3, o4, o5⟩, h3⟩
    exact h ⟨h1, by omega, by omega, h3, fun hx => by have := o4 (by omega); omega, fun hx hy => by have := o5 (by omega) (by omega); omega⟩
set_option maxRecDepth 8000 in
set_option maxHeartbeats 4000000 in
theorem ref06_Read (s : B8) (hs : s.length = 128) (h : Heap) : Spec Tryz.prog 46 [str s] h [] (fun u _ H' => u = ceVI (cellM s) /\ H' = []) := by
  have n1 := ref06_num s (by omega) 5 4 (by omega) (by omega)
  have n2 := ref06_num s (by omega) 9 4 (by omega) (by omega)
  have n3 := ref06_num s (by omega) 13 2 (by omega) (by omega)
  have n4 := ref06_num s (by omega) 15 2 (by omega) (by omega)
  have n5 := ref06_num s (by omega) 17 1 (by omega) (by omega)
  have l1 := num_lt s 5 4
  have l2 := num_lt s 9 4
  have l3 := num_lt s 13 2
  have l4 := num_lt s 15 2
  have l5 := num_lt s 17 1
  have hv := cell_val2 hs
  have hS := fun (hn : num s 17 1 <= 110) => ref06_Sector ⟨num s 5 4, num s 9 4, num s 13 2, num s 15 2, (s.drop 18).take (num s 17 1)⟩ ⟨l1, l2, l3, l4⟩ (by simp only [List.length_take]; omega)
  have hsl : num s 17 1 <= 110 -> (secC ⟨num s 5 4, num s 9 4, num s 13 2, num s 15 2, (s.drop 18).take (num s 17 1)⟩).length = 128 := fun hn => secC_len (by simp only [List.length_take]; omega)
  generalize num s 5 4 = a at *
  generalize num s 9 4 = b at *
  generalize num s 13 2 = c at *
  generalize num s 15 2 = d at *
  generalize num s 17 1 = n at *
  have htk : (s.drop 18).take ((18 + (n : Int)).toNat - 18) = (s.drop 18).take n := by rw [show (18 + (n : Int)).toNat - 18 = n by omega]
  unfold Cl.valsI at hS
  dsimp only at hS
  generalize hZ : secC ⟨a, b, c, d, (s.drop 18).take n⟩ = Z at *
  clear hZ
  refine Spec.enter Tryz.func46 rfl rfl ?_; intro w0
  repeat' (first | (show G _ (.ops .seq _ (⟨some _, .call { callee := .value (.func 67), args := _, argTypes := _ }, _, _, _, none⟩ :: _) :: _) _ _ _; refine G.call callRNum rfl rfl (n1 _) Ze ?_; rintro _ h2 H2 ⟨rfl, rfl⟩ hle2) | (show G _ (.ops .seq _ (⟨some _, .call { callee := .value (.func 67), args := _, argTypes := _ }, _, _, _, none⟩ :: _) :: _) _ _ _; refine G.call callRNum rfl rfl (n2 _) Ze ?_; rintro _ h2 H2 ⟨rfl, rfl⟩ hle2) | (show G _ (.ops .seq _ (⟨some _, .call { callee := .value (.func 67), args := _, argTypes := _ }, _, _, _, none⟩ :: _) :: _) _ _ _; refine G.call callRNum rfl rfl (n3 _) Ze ?_; rintro _ h2 H2 ⟨rfl, rfl⟩ hle2) | (show G _ (.ops .seq _ (⟨some _, .call { callee := .value (.func 67), args := _, argTypes := _ }, _, _, _, none⟩ :: _) :: _) _ _ _; refine G.call callRNum rfl rfl (n4 _) Ze ?_; rintro _ h2 H2 ⟨rfl, rfl⟩ hle2) | (show G _ (.ops .seq _ (⟨some _, .call { callee := .value (.func 67), args := _, argTypes := _ }, _, _, _, none⟩ :: _) :: _) _ _ _; refine G.call callRNum rfl rfl (n5 _) Ze ?_; rintro _ h2 H2 ⟨rfl, rfl⟩ hle2) | (show G _ (.ops .seq _ (⟨some _, .call { callee := .value (.func 68), args := _, argTypes := _ }, _, _, _, none⟩ :: _) :: _) _ _ _; rw [htk]; refine G.call callRSector rfl rfl (hS (by omega) _) Ze ?_; rintro _ h4 H4 ⟨rfl, rfl⟩ hle4) | (refine G.atCode ?_; first | refine G.seq ?_ | refine G.region ?_ | refine G.block ?_ | refine G.skip ?_ | refine G.exit rfl ?_ | refine G.ret ?_ | (refine G.cond rfl ?_ ?_ <;> intro hc <;> (try simp only [tests, reduceCtorEq] at hc) <;> (try exact Zf))) | refine G.endOps ?_ | refine G.endStill ?_ | refine G.endHeld ?_ | refine G.back ?_ | refine G.endBlk ?_ | (refine G.atGd ?_; first | refine G.guardYes rfl rfl ?_ | refine G.guardNoS rfl rfl rfl ?_ | refine G.guardU rfl rfl rfl ?_ | (refine G.guardS rfl rfl rfl ?_ ?_ <;> intro hc <;> (try simp only [tests, reduceCtorEq] at hc) <;> (try exact Zf)) | refine G.guardNo rfl rfl ?_ (by rintro i ⟨⟩; rfl) | (refine G.guard rfl rfl ?_ ?_ (by rintro i ⟨⟩; rfl) <;> intro hc <;> (try simp only [tests, reduceCtorEq] at hc) <;> (try exact Zf))) | (refine G.atBin ?_; first | (refine G.atAdd ?_; first | refine G.arith rfl rfl rfl rfl rfl Zi ?_ | refine G.catStr rfl rfl rfl Zo ?_ | refine G.op rfl rfl ?_) | (refine G.atEql ?_; first | refine G.op rfl rfl ?_ | refine G.eqStr0 rfl rfl rfl ?_ | refine G.eqStr rfl rfl rfl ?_ | refine G.eqPtr rfl rfl (tyy rfl) rfl ?_ | refine G.eqBool rfl rfl (tyy rfl) rfl ?_) | (refine G.atNeq ?_; first | refine G.op rfl rfl ?_ | refine G.neStr0 rfl rfl rfl ?_ | refine G.neStr rfl rfl rfl ?_ | refine G.nePtr rfl rfl (tyy rfl) rfl ?_ | refine G.neBool rfl rfl (tyy rfl) rfl ?_) | refine G.op rfl rfl ?_ ) | refine G.op rfl rfl ?_ | (refine G.atLoad ?_; first | refine G.loadOwn1 rfl (tyy rfl) rfl rfl Za rfl rfl ?_ | refine G.loadOwnA rfl (tyy rfl) rfl rfl Za rfl rfl ?_ | refine G.loadImm1 rfl (tyy rfl) rfl rfl Zp rfl ?_ | refine G.loadImmA rfl (tyy rfl) rfl rfl Zp Zp rfl ?_ | refine G.loadRowS rfl (tyy rfl) Zp Za Zo rfl ?_ | (refine G.loadRowB rfl (tyy rfl) Zp Za Zo rfl ?_; intro _)) | (refine G.atFld ?_; first | refine G.fieldAddr rfl (tyy rfl) rfl rfl ?_ | refine G.fieldAddrP rfl (tyy rfl) rfl rfl ?_) | (refine G.atSto ?_; refine G.storeOwn rfl rfl (tyy rfl) Za rfl rfl rfl rfl ?_) | (refine G.atAlc ?_; refine G.alloc (tyy rfl) rfl rfl ?_; intro _) | (refine G.atBld ?_; refine G.build (tyy rfl) rfl rfl rfl ?_) | (refine G.atSlc ?_; first | refine G.dropStr rfl rfl (tyy rfl) rfl Zj Zo ?_ | refine G.takeStr rfl rfl (tyy rfl) rfl Zj Zo ?_ | refine G.sliceStr rfl rfl rfl (tyy rfl) rfl Zj Zj Zo rfl ?_))
  all_goals first
    | (exfalso; omega)
    | (refine G.done (rs := [.cell 2 86, .tmp 3]) rfl (.cellA rfl (tyy rfl) rfl rfl Za rfl (.tmp rfl .nil)) rfl _ (SubH.nil _) ⟨?_, rfl⟩; rw [hv, if_pos (by refine ⟨?_, ?_, ?_, ?_, ?_, ?_⟩ <;> first | assumption | omega | (intro _; omega) | (intro _ _; omega))]; rfl)
    | (refine G.done (rs := [.cell 2 86, .tmp 3]) rfl (.cellA rfl (tyy rfl) rfl rfl Za rfl (.tmp rfl .nil)) rfl _ (SubH.nil _) ⟨?_, rfl⟩; rw [hv, if_neg (by rintro ⟨h1, h2, h3, h4, h5, h6⟩; first | contradiction | omega)]; rfl)
    | trace_state
end Go.Proofs.YtmbpjgjajedonaaGreatDoor
