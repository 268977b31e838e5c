/- Names: whether one lies under another; DnUnders. -/
import Derived.Test.YtahpemfnhepgoaaDnU
import Derived.Test.YtahpemfnhepgoaaDnR
namespace Go.Proofs.Ytahpemfnhepgoaa
set_option linter.all false
set_option maxRecDepth 4000
open Go.RowKit

def underM (d b : Dn) : Bool := if (printM d).2 ≠ 0 \/ (normM b).2 ≠ 0 \/ d.length < b.length then false else decide (txt true (d.drop (d.length - b.length)) = (normM b).1)
theorem joinTail_suffix (sep : List UInt8) (a b : List (List UInt8)) : (Lib.join b sep).length <= (Lib.join (a ++ b) sep).length := by
  induction a with
  | nil => exact Nat.le_refl _
  | cons x a ih =>
    refine Nat.le_trans ih ?_
    rw [List.cons_append, Lib.join_cons, List.length_append]
    cases hl : a ++ b with
    | nil => simp [Lib.join_nil]
    | cons y r => rw [Lib.join_cons]; simp [Lib.joinTail]; omega
theorem suffix_ok {a b : Dn} (hc : chkD (a ++ b) = 0) (hl : (txt false (a ++ b)).length <= 4096) : chkD b = 0 /\ (txt false b).length <= 4096 := by
  rw [chk_iff] at hc
  refine ⟨(chk_iff b).2 ⟨by have := hc.1; rw [List.length_append] at this; omega, fun r hr => hc.2 r (by simp [hr])⟩, ?_⟩
  have := joinTail_suffix [44] (a.map (fR false)) (b.map (fR false))
  rw [<- List.map_append] at this
  exact Nat.le_trans this hl
theorem under_tail (a b : Dn) : underM (a ++ b) b = decide ((printM (a ++ b)).2 = 0) := by
  unfold underM
  by_cases he : (printM (a ++ b)).2 = 0
  . obtain ⟨hc, hl, hp⟩ := print_ok he
    obtain ⟨hc2, hl2⟩ := suffix_ok hc hl
    have hn := norm_of hc2 hl2
    have hd : (a ++ b).drop ((a ++ b).length - b.length) = b := by
      rw [List.length_append, Nat.add_sub_cancel, List.drop_left]
    rw [decide_eq_true he, hn, hd, if_neg (by rw [List.length_append]; simp [he])]
    simp
  . rw [decide_eq_false he, if_pos (.inl he)]
theorem under_own (d : Dn) (k : Nat) : underM d (d.drop k) = decide ((printM d).2 = 0) := by
  have := under_tail (d.take k) (d.drop k)
  rwa [List.take_append_drop] at this
theorem callUnder : Callable Try.prog 22 := ⟨_, Try.func22, by kernel_rfl, rfl⟩
theorem callRUnder : Callable Try.prog 23 := ⟨_, Try.func23, by kernel_rfl, rfl⟩
theorem DnC.tail {h : Heap} {d : Dn} {A : Option Addr} {n c : Nat} (hv : DnC h d (.slice A n c)) (k : Nat) (hk : k <= d.length) : n = d.length /\ d.length <= c /\ DnC h (d.drop k) (.slice (if c = k then A else A.map (·.add (k * 1))) (n - k) (c - k)) := by
  obtain ⟨rows, hs, hr⟩ := hv
  have hl := hr.len
  obtain ⟨A', c', e, h2, _⟩ := hs.form
  simp only [Value.slice.injEq] at e
  obtain ⟨rfl, rfl, rfl⟩ := e
  exact ⟨hl, by omega, rows.drop k, hs.tail k (by omega), hr.drop k⟩
theorem DnC.cut {h : Heap} {d : Dn} {A : Option Addr} {n c : Nat} (hv : DnC h d (.slice A n c)) (k : Nat) (hk : k <= d.length) : DnC h (d.take k) (.slice A k c) := by
  obtain ⟨rows, hs, hr⟩ := hv
  have hl := hr.len
  exact ⟨rows.take k, hs.cut k (by omega), hr.take k⟩
theorem DnC.form {h : Heap} {d : Dn} {v : Value} (hv : DnC h d v) : ∃ A c, v = .slice A d.length c /\ d.length <= c /\ d.length <= 9223372036854775807 := by
  obtain ⟨rows, hs, hr⟩ := hv
  have hl := hr.len
  have hm := hs.len
  obtain ⟨A, c, e, h2, _⟩ := hs.form
  rw [hl] at e h2
  exact ⟨A, c, e, h2, by omega⟩
theorem dnW_drop (d : Dn) (k : Nat) : dnW (d.drop k) <= dnW d := by
  have : dnW d = dnW (d.take k) + dnW (d.drop k) := by
    unfold dnW; rw [<- List.sum_append, ← List.map_append, List.take_append_drop]
  omega
section
variable {E : Env} {k : List It} {f : Fr} {h : Heap} {H Hr : List Chunk} {st : Md} [hmd : OkMd st h H] {all : Array Oper} {rest : List Oper} {d : Nat} {ty : TypeId} {pos : String} {aft : Array Edge}
end
set_option maxRecDepth 8000 in
set_option maxHeartbeats 1000000 in
theorem dn_Under (d b : Dn) (v v2 : Value) (hd : dnW d <= 10000000) (hb : dnW b <= 10000000) (h : Heap) (hv : DnC h d v) (hv2 : DnC h b v2) : Spec Try.prog 22 [v, v2] h [] (fun u _ H' => u = .bool (underM d b) /\ H' = []) := by
  have s1 := dn_Print d v hd
  have s2 := dn_Norm b v2 hb
  unfold underM
  generalize printM d = R at *
  generalize normM b = R2 at *
  obtain ⟨t, e⟩ := R
  obtain ⟨t2, e2⟩ := R2
  simp only at s1 s2 ⊢
  obtain ⟨A, c, rfl, hcap, hm⟩ := hv.form
  obtain ⟨A2, c2, rfl, _, hm2⟩ := hv2.form
  have hdl := dn_len_le d
  by_cases hbad : e ≠ 0 \/ e2 ≠ 0 \/ d.length < b.length
  . rw [if_pos hbad]
    refine Spec.enter Try.func22 rfl rfl ?_; intro w0
    repeat' (first | (show G _ (.ops .seq _ (⟨some _, .call { callee := .value (.func 16), args := _, argTypes := _ }, _, _, _, none⟩ :: _) :: _) _ _ _; refine G.call callPrint rfl rfl (s1 _ (hv.mono (by solve | repeat first | assumption | exact Zr _ | refine Zq ?_ Zp))) Ze ?_; rintro _ h3 H3 ⟨rfl, rfl⟩ hle3) | (show G _ (.ops .seq _ (⟨some _, .call { callee := .value (.func 18), args := _, argTypes := _ }, _, _, _, none⟩ :: _) :: _) _ _ _; refine G.call callNorm rfl rfl (s2 _ (hv2.mono (by solve | repeat first | assumption | exact Zr _ | refine Zq ?_ Zp))) Ze ?_; rintro _ h5 H5 ⟨rfl, rfl⟩ hle5) | (refine G.atCode ?_; first | refine G.seq ?_ | refine G.region ?_ | refine G.ret ?_ | (refine G.cond rfl ?_ ?_ <;> intro hc <;> (try simp only [tests, reduceCtorEq] at hc) <;> (try exact Zf))) | refine G.endOps ?_ | (refine G.atGd ?_; first | refine G.guardYes rfl rfl ?_ | refine G.guardNoS rfl rfl rfl ?_ | (refine G.guardS rfl rfl rfl ?_ ?_ <;> intro hc <;> (try simp only [tests, reduceCtorEq] at hc) <;> (try exact Zf))) | (refine G.atBin ?_; first | (refine G.atNeq ?_; first | refine G.op rfl rfl ?_) | refine G.op rfl rfl ?_) | refine G.op rfl rfl ?_ | (refine G.atLen ?_; first | refine G.lenSlice rfl (tyy rfl) rfl ?_))
    all_goals first | (exfalso; omega) | exact G.done1 rfl rfl _ (SubH.nil _) ⟨rfl, rfl⟩
  . rw [if_neg hbad]
    obtain ⟨_, _, hcut⟩ := hv.tail (d.length - b.length) (by omega)
    have hwd : dnW (d.drop (d.length - b.length)) <= 10000000 := by have := dnW_drop d (d.length - b.length); omega
    generalize hK : txt true (d.drop (d.length - b.length)) = K at *
    refine Spec.enter Try.func22 rfl rfl ?_; intro w0
    repeat' (first | (show G _ (.ops .seq _ (⟨some _, .call { callee := .value (.func 16), args := _, argTypes := _ }, _, _, _, none⟩ :: _) :: _) _ _ _; refine G.call callPrint rfl rfl (s1 _ (hv.mono (by solve | repeat first | assumption | exact Zr _ | refine Zq ?_ Zp))) Ze ?_; rintro _ h3 H3 ⟨rfl, rfl⟩ hle3) | (show G _ (.ops .seq _ (⟨some _, .call { callee := .value (.func 18), args := _, argTypes := _ }, _, _, _, none⟩ :: _) :: _) _ _ _; refine G.call callNorm rfl rfl (s2 _ (hv2.mono (by solve | repeat first | assumption | exact Zr _ | refine Zq ?_ Zp))) Ze ?_; rintro _ h5 H5 ⟨rfl, rfl⟩ hle5) | (refine G.sliceSl (a := (d.length : Int) - b.length) (b := d.length) (a' := d.length - b.length) (b' := d.length) rfl rfl rfl (tyy rfl) (tyy rfl) rfl (by omega) (by omega) (by omega) ?_) | (show G _ (.ops .seq _ (⟨some _, .call { callee := .value (.func 34), args := _, argTypes := _ }, _, _, _, none⟩ :: _) :: _) _ _ _; refine G.call callText rfl rfl (dn_text true (d.drop (d.length - b.length)) _ hwd _ (hcut.mono (by solve | repeat first | assumption | exact Zr _ | refine Zq ?_ Zp))) Ze ?_; rintro _ h6 H6 ⟨rfl, rfl⟩ hle6; rw [hK]) | (refine G.atCode ?_; first | refine G.seq ?_ | refine G.region ?_ | refine G.skip ?_ | refine G.ret ?_ | (refine G.cond rfl ?_ ?_ <;> intro hc <;> (try simp only [tests, reduceCtorEq] at hc) <;> (try exact Zf))) | refine G.endOps ?_ | (refine G.atGd ?_; first | refine G.guardYes rfl rfl ?_ | (refine G.guardS rfl rfl rfl ?_ ?_ <;> intro hc <;> (try simp only [tests, reduceCtorEq] at hc) <;> (try exact Zf))) | (refine G.atBin ?_; first | (refine G.atSub ?_; first | refine G.arith rfl rfl rfl rfl rfl Zi ?_) | (refine G.atEql ?_; first | refine G.eqStr rfl rfl rfl ?_) | (refine G.atNeq ?_; first | refine G.op rfl rfl ?_) | refine G.op rfl rfl ?_) | refine G.op rfl rfl ?_ | (refine G.atLen ?_; first | refine G.lenSlice rfl (tyy rfl) rfl ?_))
    all_goals first | (exfalso; omega) | exact G.done1 rfl rfl _ (SubH.nil _) ⟨rfl, rfl⟩
set_option maxRecDepth 8000 in
set_option maxHeartbeats 1000000 in
theorem ref09_Under (d b : Dn) (v v2 : Value) (hd : dnW d <= 10000000) (hb : dnW b <= 10000000) (h : Heap) (hv : DnC h d v) (hv2 : DnC h b v2) : Spec Try.prog 23 [v, v2] h [] (fun u _ H' => u = .bool (underM d b) /\ H' = []) := by
  have s1 := ref09_Print d v hd
  have s2 := ref09_Norm b v2 hb
  unfold underM
  generalize printM d = R at *
  generalize normM b = R2 at *
  obtain ⟨t, e⟩ := R
  obtain ⟨t2, e2⟩ := R2
  simp only at s1 s2 ⊢
  obtain ⟨A, c, rfl, hcap, hm⟩ := hv.form
  obtain ⟨A2, c2, rfl, _, hm2⟩ := hv2.form
  have hdl := dn_len_le d
  by_cases hbad : e ≠ 0 \/ e2 ≠ 0 \/ d.length < b.length
  . rw [if_pos hbad]
    refine Spec.enter Try.func23 rfl rfl ?_; intro w0
    repeat' (first | (show G _ (.ops .seq _ (⟨some _, .call { callee := .value (.func 17), args := _, argTypes := _ }, _, _, _, none⟩ :: _) :: _) _ _ _; refine G.call callRPrint rfl rfl (s1 _ (hv.mono (by solve | repeat first | assumption | exact Zr _ | refine Zq ?_ Zp))) Ze ?_; rintro _ h3 H3 ⟨rfl, rfl⟩ hle3) | (show G _ (.ops .seq _ (⟨some _, .call { callee := .value (.func 19), args := _, argTypes := _ }, _, _, _, none⟩ :: _) :: _) _ _ _; refine G.call callRNorm rfl rfl (s2 _ (hv2.mono (by solve | repeat first | assumption | exact Zr _ | refine Zq ?_ Zp))) Ze ?_; rintro _ h5 H5 ⟨rfl, rfl⟩ hle5) | (refine G.atCode ?_; first | refine G.seq ?_ | refine G.region ?_ | refine G.ret ?_ | (refine G.cond rfl ?_ ?_ <;> intro hc <;> (try simp only [tests, reduceCtorEq] at hc) <;> (try exact Zf))) | refine G.endOps ?_ | (refine G.atGd ?_; first | refine G.guardYes rfl rfl ?_ | refine G.guardNoS rfl rfl rfl ?_ | (refine G.guardS rfl rfl rfl ?_ ?_ <;> intro hc <;> (try simp only [tests, reduceCtorEq] at hc) <;> (try exact Zf))) | (refine G.atBin ?_; first | (refine G.atNeq ?_; first | refine G.op rfl rfl ?_) | refine G.op rfl rfl ?_) | refine G.op rfl rfl ?_ | (refine G.atLen ?_; first | refine G.lenSlice rfl (tyy rfl) rfl ?_))
    all_goals first | (exfalso; omega) | exact G.done1 rfl rfl _ (SubH.nil _) ⟨rfl, rfl⟩
  . rw [if_neg hbad]
    obtain ⟨_, _, hcut⟩ := hv.tail (d.length - b.length) (by omega)
    have hwd : dnW (d.drop (d.length - b.length)) <= 10000000 := by have := dnW_drop d (d.length - b.length); omega
    generalize hK : txt true (d.drop (d.length - b.length)) = K at *
    refine Spec.enter Try.func23 rfl rfl ?_; intro w0
    repeat' (first | (show G _ (.ops .seq _ (⟨some _, .call { callee := .value (.func 17), args := _, argTypes := _ }, _, _, _, none⟩ :: _) :: _) _ _ _; refine G.call callRPrint rfl rfl (s1 _ (hv.mono (by solve | repeat first | assumption | exact Zr _ | refine Zq ?_ Zp))) Ze ?_; rintro _ h3 H3 ⟨rfl, rfl⟩ hle3) | (show G _ (.ops .seq _ (⟨some _, .call { callee := .value (.func 19), args := _, argTypes := _ }, _, _, _, none⟩ :: _) :: _) _ _ _; refine G.call callRNorm rfl rfl (s2 _ (hv2.mono (by solve | repeat first | assumption | exact Zr _ | refine Zq ?_ Zp))) Ze ?_; rintro _ h5 H5 ⟨rfl, rfl⟩ hle5) | (refine G.sliceSl (a := (d.length : Int) - b.length) (b := d.length) (a' := d.length - b.length) (b' := d.length) rfl rfl rfl (tyy rfl) (tyy rfl) rfl (by omega) (by omega) (by omega) ?_) | (show G _ (.ops .seq _ (⟨some _, .call { callee := .value (.func 36), args := _, argTypes := _ }, _, _, _, none⟩ :: _) :: _) _ _ _; refine G.call callPlain rfl rfl (ref09_plain (d.drop (d.length - b.length)) _ hwd _ (hcut.mono (by solve | repeat first | assumption | exact Zr _ | refine Zq ?_ Zp))) Ze ?_; rintro pv h6 H6 ⟨⟨p, hpc, hP⟩, rfl⟩ hle6; have hPw := hP.w) | (show G _ (.ops .seq _ (⟨some _, .call { callee := .value (.func 35), args := _, argTypes := _ }, _, _, _, none⟩ :: _) :: _) _ _ _; refine G.call callRText rfl rfl (ref09_text p pv (by omega) _ hpc) Ze ?_; rintro _ h7 H7 ⟨rfl, rfl⟩ hle7; rw [hP.text, hK]) | (refine G.atCode ?_; first | refine G.seq ?_ | refine G.region ?_ | refine G.skip ?_ | refine G.ret ?_ | (refine G.cond rfl ?_ ?_ <;> intro hc <;> (try simp only [tests, reduceCtorEq] at hc) <;> (try exact Zf))) | refine G.endOps ?_ | (refine G.atGd ?_; first | refine G.guardYes rfl rfl ?_ | (refine G.guardS rfl rfl rfl ?_ ?_ <;> intro hc <;> (try simp only [tests, reduceCtorEq] at hc) <;> (try exact Zf))) | (refine G.atBin ?_; first | (refine G.atSub ?_; first | refine G.arith rfl rfl rfl rfl rfl Zi ?_) | (refine G.atEql ?_; first | refine G.eqStr rfl rfl rfl ?_) | (refine G.atNeq ?_; first | refine G.op rfl rfl ?_) | refine G.op rfl rfl ?_) | refine G.op rfl rfl ?_ | (refine G.atLen ?_; first | refine G.lenSlice rfl (tyy rfl) rfl ?_))
    all_goals first | (exfalso; omega) | exact G.done1 rfl rfl _ (SubH.nil _) ⟨rfl, rfl⟩
set_option maxRecDepth 8000 in
set_option maxHeartbeats 2000000 in
theorem law_DnUnders (d b : Dn) (v v2 : Value) (at_ : Int) (hr : inR .i64 at_) (hd : dnW d + dnW b <= 10000000) (h : Heap) (hv : DnC h d v) (hv2 : DnC h b v2) : Spec Try.prog 8 [v, v2, .int .i64 at_] h [] (fun u _ _ => u = .bool true) := by
  have hdl := dn_len_le d
  have hbl := dn_len_le b
  have hwj : dnW (d ++ b) <= 10000000 := by unfold dnW at *; rw [List.map_append, List.sum_append]; exact hd
  have s1 := dn_Under d b v v2 (by omega) (by omega)
  have s2 := ref09_Under d b v v2 (by omega) (by omega)
  have s3 := ref09_Print d v (by omega)
  obtain ⟨A, c, rfl, hcap, hm⟩ := hv.form
  obtain ⟨A2, c2, rfl, _, hm2⟩ := hv2.form
  have hu1 := under_own d
  have hu2 := under_tail d b
  generalize hP1 : printM d = P1 at *
  generalize hP2 : printM (d ++ b) = P2 at *
  generalize hub : underM d b = ub at *
  obtain ⟨t, e⟩ := P1
  obtain ⟨t2, e2⟩ := P2
  simp only at s3 hu1 hu2
  refine Spec.enter Try.func8 rfl rfl ?_; intro w0
  repeat' (first | (show G _ (.ops .seq _ (⟨some _, .call { callee := .value (.func 22), args := _, argTypes := _ }, _, _, _, none⟩ :: _) :: _) _ _ _; refine G.call callUnder rfl rfl (s1 _ (hv.mono (by solve | repeat first | assumption | exact Zr _ | refine Zq ?_ Zp)) (hv2.mono (by solve | repeat first | assumption | exact Zr _ | refine Zq ?_ Zp))) Ze ?_; rintro _ h3 H3 ⟨rfl, rfl⟩ hle3) | (show G _ (.ops .seq _ (⟨some _, .call { callee := .value (.func 23), args := _, argTypes := _ }, _, _, _, none⟩ :: _) :: _) _ _ _; refine G.call callRUnder rfl rfl (s2 _ (hv.mono (by solve | repeat first | assumption | exact Zr _ | refine Zq ?_ Zp)) (hv2.mono (by solve | repeat first | assumption | exact Zr _ | refine Zq ?_ Zp))) Ze ?_; rintro _ h4 H4 ⟨rfl, rfl⟩ hle4) | (refine G.atCode ?_; first | refine G.seq ?_ | refine G.region ?_ | refine G.skip ?_ | (refine G.cond rfl ?_ ?_ <;> intro hc <;> (try simp only [tests, reduceCtorEq] at hc) <;> (try exact Zf))) | refine G.endOps ?_ | (refine G.atBin ?_; first | (refine G.atAdd ?_; first | refine G.arith rfl rfl rfl rfl rfl Zi ?_) | (refine G.atNeq ?_; first | refine G.neBool rfl rfl (tyy rfl) rfl ?_) | (refine G.atRem ?_; first | (refine G.rem rfl rfl rfl rfl Zo ?_; intro _ _ _))) | refine G.op rfl rfl ?_ | (refine G.atLen ?_; first | refine G.lenSlice rfl (tyy rfl) rfl ?_) | (refine G.atConv ?_; first | refine G.conv rfl (tyy rfl) (tyy rfl) rfl Zi ?_ | (refine G.convW rfl (tyy rfl) (tyy rfl) rfl ?_; intro hcw; (try simp only [inR] at hcw))))
  obtain ⟨k, hk⟩ : ∃ k : Nat, IntKind.u64.wrap at_ % ((d.length : Int) + 1) = k := Int.eq_ofNat_of_zero_le Zp
  have hkl : k <= d.length := by
    have : IntKind.u64.wrap at_ % ((d.length : Int) + 1) < d.length + 1 := by assumption
    omega
  rw [hk]
  clear hk
  obtain ⟨_, _, hkt⟩ := hv.tail k hkl
  have hu1k := hu1 k
  have hwk := dnW_drop d k
  have hjl : (d ++ b).length = d.length + b.length := List.length_append
  have s5 := ref09_Print (d ++ b)
  rw [hP2] at s5
  simp only at s5
  repeat' (first | (show G _ (.ops .seq _ (⟨some _, .call { callee := .value (.func 24), args := _, argTypes := _ }, _, _, _, none⟩ :: _) :: _) _ _ _; refine G.call callJoin9 rfl rfl (dn_Join b d _ _ (by omega) (by omega) _ (hv2.mono (by solve | repeat first | assumption | exact Zr _ | refine Zq ?_ Zp)) (hv.mono (by solve | repeat first | assumption | exact Zr _ | refine Zq ?_ Zp))) Ze ?_; rintro jv h5 H5 ⟨hjv, rfl⟩ hle5; (obtain ⟨jA, jc, rfl, hjc, _⟩ := hjv.form); (obtain ⟨_, _, hjt⟩ := hjv.tail d.length (by omega)); (have hjh := hjv.cut d.length (by omega)); (rw [List.drop_left, hjl] at hjt); (rw [List.take_left] at hjh); (rw [hjl] at hjv hjc ⊢)) | (show G _ (.ops .seq _ (⟨some _, .call { callee := .value (.func 17), args := _, argTypes := _ }, _, _, _, none⟩ :: _) :: _) _ _ _; refine G.call callRPrint rfl rfl (s3 _ (hv.mono (by solve | repeat first | assumption | exact Zr _ | refine Zq ?_ Zp))) Ze ?_; rintro _ h6 H6 ⟨rfl, rfl⟩ hle6) | (show G _ (.ops .seq _ (⟨some _, .call { callee := .value (.func 17), args := _, argTypes := _ }, _, _, _, none⟩ :: _) :: _) _ _ _; refine G.call callRPrint rfl rfl (s5 _ hwj _ (hjv.mono (by solve | repeat first | assumption | exact Zr _ | refine Zq ?_ Zp))) Ze ?_; rintro _ h7 H7 ⟨rfl, rfl⟩ hle7) | (show G _ (.ops .seq _ (⟨some _, .call { callee := .value (.func 11), args := _, argTypes := _ }, _, _, _, none⟩ :: _) :: _) _ _ _; refine G.call callAwake9 rfl rfl (law09_awake _) Ze ?_; rintro _ h8 H8 ⟨rfl, rfl⟩ hle8) | (refine G.sliceSl (a := (k : Nat)) (b := d.length) (a' := k) (b' := d.length) rfl rfl rfl (tyy rfl) (tyy rfl) rfl Zj Zj (by omega) ?_) | (show G _ (.ops .seq _ (⟨some _, .call { callee := .value (.func 22), args := _, argTypes := _ }, _, _, _, none⟩ :: _) :: _) _ _ _; refine G.call callUnder rfl rfl (dn_Under d (d.drop k) _ _ (by omega) (by omega) _ (hv.mono (by solve | repeat first | assumption | exact Zr _ | refine Zq ?_ Zp)) (hkt.mono (by solve | repeat first | assumption | exact Zr _ | refine Zq ?_ Zp))) Ze ?_; rintro _ h9 H9 ⟨rfl, rfl⟩ hle9; rw [hu1k]) | (show G _ (.ops .seq _ (⟨some _, .call { callee := .value (.func 22), args := _, argTypes := _ }, _, _, _, none⟩ :: _) :: _) _ _ _; refine G.call callUnder rfl rfl (dn_Under (d ++ b) b _ _ hwj (by omega) _ (hjv.mono (by solve | repeat first | assumption | exact Zr _ | refine Zq ?_ Zp)) (hv2.mono (by solve | repeat first | assumption | exact Zr _ | refine Zq ?_ Zp))) Ze ?_; rintro _ h10 H10 ⟨rfl, rfl⟩ hle10; rw [hu2]) | (refine G.sliceSl (a := (d.length : Nat)) (b := (d.length + b.length : Nat)) (a' := d.length) (b' := d.length + b.length) rfl rfl rfl (tyy rfl) (tyy rfl) rfl Zj Zj (by omega) ?_) | (show G _ (.ops .seq _ (⟨some _, .call { callee := .value (.func 12), args := _, argTypes := _ }, _, _, _, none⟩ :: _) :: _) _ _ _; refine G.call callSame9 rfl rfl (ref09_Same b _ _ _ (hjt.mono (by solve | repeat first | assumption | exact Zr _ | refine Zq ?_ Zp)) (hv2.mono (by solve | repeat first | assumption | exact Zr _ | refine Zq ?_ Zp))) Ze ?_; rintro _ h11 H11 ⟨rfl, rfl⟩ hle11) | (refine G.slicePre (b' := d.length) rfl rfl (tyy rfl) (tyy rfl) rfl Zj (by omega) ?_) | (show G _ (.ops .seq _ (⟨some _, .call { callee := .value (.func 12), args := _, argTypes := _ }, _, _, _, none⟩ :: _) :: _) _ _ _; refine G.call callSame9 rfl rfl (ref09_Same d _ _ _ (hjh.mono (by solve | repeat first | assumption | exact Zr _ | refine Zq ?_ Zp)) (hv.mono (by solve | repeat first | assumption | exact Zr _ | refine Zq ?_ Zp))) Ze ?_; rintro _ h12 H12 ⟨rfl, rfl⟩ hle12) | (refine G.atCode ?_; first | refine G.seq ?_ | refine G.region ?_ | refine G.ret ?_) | refine G.endOps ?_ | (refine G.atGd ?_; first | refine G.guardYes rfl rfl ?_ | (refine G.guardS rfl rfl rfl ?_ ?_ <;> intro hc <;> (try simp only [tests, reduceCtorEq] at hc) <;> (try exact Zf))) | (refine G.atBin ?_; first | (refine G.atAdd ?_; first | refine G.arith rfl rfl rfl rfl rfl Zi ?_) | (refine G.atEql ?_; first | refine G.op rfl rfl ?_ | refine G.eqBool rfl rfl (tyy rfl) rfl ?_)) | refine G.op rfl rfl ?_ | (refine G.atLen ?_; first | refine G.lenSlice rfl (tyy rfl) rfl ?_))
  all_goals first | (exfalso; omega) | exact G.done1 rfl rfl [] (SubH.nil _) (by solve | rfl | simp) | (exfalso; simp_all; done)
end Go.Proofs.Ytahpemfnhepgoaa