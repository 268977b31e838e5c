/- Names: whether one lies under another; DnUnders. -/
import Derived.Test.YtieibicgankemaaDnU
import Derived.Test.YtieibicgankemaaDnR
namespace Go.Proofs.Ytieibicgankemaa
set_option linter.all false
set_option maxRecDepth 4000
open Go.RowKit

def underM (d b : Dn) : Bool := if (printM d).2 ≠ 0 \/ (normM b).2 ≠ 0 \/ d.length < b.length then false else decide (txt true (d.drop (d.length - b.length)) = (normM b).1)
theorem callUnder : Callable Try.prog 28 := ⟨_, Try.func28, by kernel_rfl, rfl⟩
theorem callRUnder : Callable Try.prog 48 := ⟨_, Try.func48, by kernel_rfl, rfl⟩
theorem DnC.tail {h : Heap} {d : Dn} {A : Option Addr} {n c : Nat} (hv : DnC h d (.slice A n c)) (k : Nat) (hk : k <= d.length) : n = d.length /\ d.length <= c /\ DnC h (d.drop k) (.slice (if c = k then A else A.map (·.add (k * 1))) (n - k) (c - k)) := by
  obtain ⟨rows, hs, hr⟩ := hv
  have hl := hr.len
  obtain ⟨A', c', e, h2, _⟩ := hs.form
  simp only [Value.slice.injEq] at e
  obtain ⟨rfl, rfl, rfl⟩ := e
  exact ⟨hl, by omega, rows.drop k, hs.tail k (by omega), hr.drop k⟩
theorem DnC.cut {h : Heap} {d : Dn} {A : Option Addr} {n c : Nat} (hv : DnC h d (.slice A n c)) (k : Nat) (hk : k <= d.length) : DnC h (d.take k) (.slice A k c) := by
  obtain ⟨rows, hs, hr⟩ := hv
  have hl := hr.len
  exact ⟨rows.take k, hs.cut k (by omega), hr.take k⟩
theorem DnC.form {h : Heap} {d : Dn} {v : Value} (hv : DnC h d v) : ∃ A c, v = .slice A d.length c /\ d.length <= c /\ d.length <= 9223372036854775807 := by
  obtain ⟨rows, hs, hr⟩ := hv
  have hl := hr.len
  have hm := hs.len
  obtain ⟨A, c, e, h2, _⟩ := hs.form
  rw [hl] at e h2
  exact ⟨A, c, e, h2, by omega⟩
theorem dnW_drop (d : Dn) (k : Nat) : dnW (d.drop k) <= dnW d := by
  have : dnW d = dnW (d.take k) + dnW (d.drop k) := by
    unfold dnW; rw [<- List.sum_append, ← List.map_append, List.take_append_drop]
  omega
section
variable {E : Env} {k : List It} {f : Fr} {h : Heap} {H Hr : List Chunk} {st : Md} [hmd : OkMd st h H] {all : Array Oper} {rest : List Oper} {d : Nat} {ty : TypeId} {pos : String} {aft : Array Edge}
end
set_option maxRecDepth 8000 in
set_option maxHeartbeats 1000000 in
theorem dn_Under (d b : Dn) (v v2 : Value) (hd : dnW d <= 10000000) (hb : dnW b <= 10000000) (h : Heap) (hv : DnC h d v) (hv2 : DnC h b v2) : Spec Try.prog 28 [v, v2] h [] (fun u _ H' => u = .bool (underM d b) /\ H' = []) := by
  have s1 := dn_Print d v hd
  have s2 := dn_Norm b v2 hb
  unfold underM
  generalize printM d = R at *
  generalize normM b = R2 at *
  obtain ⟨t, e⟩ := R
  obtain ⟨t2, e2⟩ := R2
  simp only at s1 s2 ⊢
  obtain ⟨A, c, rfl, hcap, hm⟩ := hv.form
  obtain ⟨A2, c2, rfl, _, hm2⟩ := hv2.form
  have hdl := dn_len_le d
  by_cases hbad : e ≠ 0 \/ e2 ≠ 0 \/ d.length < b.length
  . rw [if_pos hbad]
    refine Spec.enter Try.func28 rfl rfl ?_; intro w0
    repeat' (first | (show G _ (.ops .seq _ (⟨some _, .call { callee := .value (.func 18), args := _, argTypes := _ }, _, _, _, none⟩ :: _) :: _) _ _ _; refine G.call callPrint rfl rfl (s1 _ (hv.mono (by solve | repeat first | assumption | exact Zr _ | refine Zq ?_ Zp))) Ze ?_; rintro _ h3 H3 ⟨rfl, rfl⟩ hle3) | (show G _ (.ops .seq _ (⟨some _, .call { callee := .value (.func 46), args := _, argTypes := _ }, _, _, _, none⟩ :: _) :: _) _ _ _; refine G.call callNorm rfl rfl (s2 _ (hv2.mono (by solve | repeat first | assumption | exact Zr _ | refine Zq ?_ Zp))) Ze ?_; rintro _ h5 H5 ⟨rfl, rfl⟩ hle5) | (refine G.atCode ?_; first | refine G.seq ?_ | refine G.region ?_ | refine G.ret ?_ | (refine G.cond rfl ?_ ?_ <;> intro hc <;> (try simp only [tests, reduceCtorEq] at hc) <;> (try exact Zf))) | refine G.endOps ?_ | (refine G.atGd ?_; first | refine G.guardYes rfl rfl ?_ | refine G.guardNoS rfl rfl rfl ?_ | (refine G.guardS rfl rfl rfl ?_ ?_ <;> intro hc <;> (try simp only [tests, reduceCtorEq] at hc) <;> (try exact Zf))) | (refine G.atBin ?_; first | (refine G.atNeq ?_; first | refine G.op rfl rfl ?_) | refine G.op rfl rfl ?_) | refine G.op rfl rfl ?_ | (refine G.atLen ?_; first | refine G.lenSlice rfl (tyy rfl) rfl ?_))
    all_goals first | (exfalso; omega) | exact G.done1 rfl rfl _ (SubH.nil _) ⟨rfl, rfl⟩
  . rw [if_neg hbad]
    obtain ⟨_, _, hcut⟩ := hv.tail (d.length - b.length) (by omega)
    have hwd : dnW (d.drop (d.length - b.length)) <= 10000000 := by have := dnW_drop d (d.length - b.length); omega
    generalize hK : txt true (d.drop (d.length - b.length)) = K at *
    refine Spec.enter Try.func28 rfl rfl ?_; intro w0
    repeat' (first | (show G _ (.ops .seq _ (⟨some _, .call { callee := .value (.func 18), args := _, argTypes := _ }, _, _, _, none⟩ :: _) :: _) _ _ _; refine G.call callPrint rfl rfl (s1 _ (hv.mono (by solve | repeat first | assumption | exact Zr _ | refine Zq ?_ Zp))) Ze ?_; rintro _ h3 H3 ⟨rfl, rfl⟩ hle3) | (show G _ (.ops .seq _ (⟨some _, .call { callee := .value (.func 46), args := _, argTypes := _ }, _, _, _, none⟩ :: _) :: _) _ _ _; refine G.call callNorm rfl rfl (s2 _ (hv2.mono (by solve | repeat first | assumption | exact Zr _ | refine Zq ?_ Zp))) Ze ?_; rintro _ h5 H5 ⟨rfl, rfl⟩ hle5) | (refine G.sliceSl (a := (d.length : Int) - b.length) (b := d.length) (a' := d.length - b.length) (b' := d.length) rfl rfl rfl (tyy rfl) (tyy rfl) rfl (by omega) (by omega) (by omega) ?_) | (show G _ (.ops .seq _ (⟨some _, .call { callee := .value (.func 34), args := _, argTypes := _ }, _, _, _, none⟩ :: _) :: _) _ _ _; refine G.call callText rfl rfl (dn_text true (d.drop (d.length - b.length)) _ hwd _ (hcut.mono (by solve | repeat first | assumption | exact Zr _ | refine Zq ?_ Zp))) Ze ?_; rintro _ h6 H6 ⟨rfl, rfl⟩ hle6; rw [hK]) | (refine G.atCode ?_; first | refine G.seq ?_ | refine G.region ?_ | refine G.skip ?_ | refine G.ret ?_ | (refine G.cond rfl ?_ ?_ <;> intro hc <;> (try simp only [tests, reduceCtorEq] at hc) <;> (try exact Zf))) | refine G.endOps ?_ | (refine G.atGd ?_; first | refine G.guardYes rfl rfl ?_ | (refine G.guardS rfl rfl rfl ?_ ?_ <;> intro hc <;> (try simp only [tests, reduceCtorEq] at hc) <;> (try exact Zf))) | (refine G.atBin ?_; first | (refine G.atSub ?_; first | refine G.arith rfl rfl rfl rfl rfl Zi ?_) | (refine G.atEql ?_; first | refine G.eqStr rfl rfl rfl ?_) | (refine G.atNeq ?_; first | refine G.op rfl rfl ?_) | refine G.op rfl rfl ?_) | refine G.op rfl rfl ?_ | (refine G.atLen ?_; first | refine G.lenSlice rfl (tyy rfl) rfl ?_))
    all_goals first | (exfalso; omega) | exact G.done1 rfl rfl _ (SubH.nil _) ⟨rfl, rfl⟩
set_option maxRecDepth 8000 in
set_option maxHeartbeats 1000000 in
theorem ref09_Under (d b : Dn) (v v2 : Value) (hd : dnW d <= 10000000) (hb : dnW b <= 10000000) (h : Heap) (hv : DnC h d v) (hv2 : DnC h b v2) : Spec Try.prog 48 [v, v2] h [] (fun u _ H' => u = .bool (underM d b) /\ H' = []) := by
  have s1 := ref09_Print d v hd
  have s2 := ref09_Norm b v2 hb
  unfold underM
  generalize printM d = R at *
  generalize normM b = R2 at *
  obtain ⟨t, e⟩ := R
  obtain ⟨t2, e2⟩ := R2
  simp only at s1 s2 ⊢
  obtain ⟨A, c, rfl, hcap, hm⟩ := hv.form
  obtain ⟨A2, c2, rfl, _, hm2⟩ := hv2.form
  have hdl := dn_len_le d
  by_cases hbad : e ≠ 0 \/ e2 ≠ 0 \/ d.length < b.length
  . rw [if_pos hbad]
    refine Spec.enter Try.func48 rfl rfl ?_; intro w0
    repeat' (first | (show G _ (.ops .seq _ (⟨some _, .call { callee := .value (.func 23), args := _, argTypes := _ }, _, _, _, none⟩ :: _) :: _) _ _ _; refine G.call callRPrint rfl rfl (s1 _ (hv.mono (by solve | repeat first | assumption | exact Zr _ | refine Zq ?_ Zp))) Ze ?_; rintro _ h3 H3 ⟨rfl, rfl⟩ hle3) | (show G _ (.ops .seq _ (⟨some _, .call { callee := .value (.func 47), args := _, argTypes := _ }, _, _, _, none⟩ :: _) :: _) _ _ _; refine G.call callRNorm rfl rfl (s2 _ (hv2.mono (by solve | repeat first | assumption | exact Zr _ | refine Zq ?_ Zp))) Ze ?_; rintro _ h5 H5 ⟨rfl, rfl⟩ hle5) | (refine G.atCode ?_; first | refine G.seq ?_ | refine G.region ?_ | refine G.ret ?_ | (refine G.cond rfl ?_ ?_ <;> intro hc <;> (try simp only [tests, reduceCtorEq] at hc) <;> (try exact Zf))) | refine G.endOps ?_ | (refine G.atGd ?_; first | refine G.guardYes rfl rfl ?_ | refine G.guardNoS rfl rfl rfl ?_ | (refine G.guardS rfl rfl rfl ?_ ?_ <;> intro hc <;> (try simp only [tests, reduceCtorEq] at hc) <;> (try exact Zf))) | (refine G.atBin ?_; first | (refine G.atNeq ?_; first | refine G.op rfl rfl ?_) | refine G.op rfl rfl ?_) | refine G.op rfl rfl ?_ | (refine G.atLen ?_; first | refine G.lenSlice rfl (tyy rfl) rfl ?_))
    all_goals first | (exfalso; omega) | exact G.done1 rfl rfl _ (SubH.nil _) ⟨rfl, rfl⟩
  . rw [if_neg hbad]
    obtain ⟨_, _, hcut⟩ := hv.tail (d.length - b.length) (by omega)
    have hwd : dnW (d.drop (d.length - b.length)) <= 10000000 := by have := dnW_drop d (d.length - b.length); omega
    generalize hK : txt true (d.drop (d.length - b.length)) = K at *
    refine Spec.enter Try.func48 rfl rfl ?_; intro w0
    repeat' (first | (show G _ (.ops .seq _ (⟨some _, .call { callee := .value (.func 23), args := _, argTypes := _ }, _, _, _, none⟩ :: _) :: _) _ _ _; refine G.call callRPrint rfl rfl (s1 _ (hv.mono (by solve | repeat first | assumption | exact Zr _ | refine Zq ?_ Zp))) Ze ?_; rintro _ h3 H3 ⟨rfl, rfl⟩ hle3) | (show G _ (.ops .seq _ (⟨some _, .call { callee := .value (.func 47), args := _, argTypes := _ }, _, _, _, none⟩ :: _) :: _) _ _ _; refine G.call callRNorm rfl rfl (s2 _ (hv2.mono (by solve | repeat first | assumption | exact Zr _ | refine Zq ?_ Zp))) Ze ?_; rintro _ h5 H5 ⟨rfl, rfl⟩ hle5) | (refine G.sliceSl (a := (d.length : Int) - b.length) (b := d.length) (a' := d.length - b.length) (b' := d.length) rfl rfl rfl (tyy rfl) (tyy rfl) rfl (by omega) (by omega) (by omega) ?_) | (show G _ (.ops .seq _ (⟨some _, .call { callee := .value (.func 66), args := _, argTypes := _ }, _, _, _, none⟩ :: _) :: _) _ _ _; refine G.call callPlain rfl rfl (ref09_plain (d.drop (d.length - b.length)) _ hwd _ (hcut.mono (by solve | repeat first | assumption | exact Zr _ | refine Zq ?_ Zp))) Ze ?_; rintro pv h6 H6 ⟨⟨p, hpc, hP⟩, rfl⟩ hle6; have hPw := hP.w) | (show G _ (.ops .seq _ (⟨some _, .call { callee := .value (.func 43), args := _, argTypes := _ }, _, _, _, none⟩ :: _) :: _) _ _ _; refine G.call callRText rfl rfl (ref09_text p pv (by omega) _ hpc) Ze ?_; rintro _ h7 H7 ⟨rfl, rfl⟩ hle7; rw [hP.text, hK]) | (refine G.atCode ?_; first | refine G.seq ?_ | refine G.region ?_ | refine G.skip ?_ | refine G.ret ?_ | (refine G.cond rfl ?_ ?_ <;> intro hc <;> (try simp only [tests, reduceCtorEq] at hc) <;> (try exact Zf))) | refine G.endOps ?_ | (refine G.atGd ?_; first | refine G.guardYes rfl rfl ?_ | (refine G.guardS rfl rfl rfl ?_ ?_ <;> intro hc <;> (try simp only [tests, reduceCtorEq] at hc) <;> (try exact Zf))) | (refine G.atBin ?_; first | (refine G.atSub ?_; first | refine G.arith rfl rfl rfl rfl rfl Zi ?_) | (refine G.atEql ?_; first | refine G.eqStr rfl rfl rfl ?_) | (refine G.atNeq ?_; first | refine G.op rfl rfl ?_) | refine G.op rfl rfl ?_) | refine G.op rfl rfl ?_ | (refine G.atLen ?_; first | refine G.lenSlice rfl (tyy rfl) rfl ?_))
    all_goals first | (exfalso; omega) | exact G.done1 rfl rfl _ (SubH.nil _) ⟨rfl, rfl⟩
end Go.Proofs.Ytieibicgankemaa