/- castellanref22.same, speaks, May. -/
import Derived.Test.YtieibicgankemaaGreatAcC
namespace Go.Proofs.YtieibicgankemaaGreat
set_option linter.all false
set_option maxRecDepth 4000
open Go.RowKit

theorem callSame22 : Callable Tryz.prog 24 := ⟨_, Tryz.func24, by kernel_rfl, rfl⟩
theorem callSpeaks22 : Callable Tryz.prog 25 := ⟨_, Tryz.func25, by kernel_rfl, rfl⟩
theorem callMay22 : Callable Tryz.prog 13 := ⟨_, Tryz.func13, by kernel_rfl, rfl⟩
theorem ref22_same (a b : Dn) (va vb : Value) (ha : dnW a <= 10000000) (hb : dnW b <= 10000000) (h : Heap) (hv : DnC h a va) (hv2 : DnC h b vb) : Spec Tryz.prog 24 [va, vb] h [] (fun u _ H' => u = .bool (sameD a b) /\ H' = []) := by
  have s1 := ref09_Norm a va ha
  have s2 := ref09_Norm b vb hb
  rw [sameD_key]
  generalize normM a = P1 at *
  generalize normM b = P2 at *
  obtain ⟨t1, e1⟩ := P1
  obtain ⟨t2, e2⟩ := P2
  simp only at s1 s2 ⊢
  by_cases hq : e1 = 0 /\ e2 = 0 /\ t1 = t2
  . rw [decide_eq_true hq]
    obtain ⟨rfl, rfl, rfl⟩ := hq
    refine Spec.enter Tryz.func24 rfl rfl ?_; intro w0
    repeat' (first | (show G _ (.ops .seq _ (⟨some _, .call { callee := .value (.func 41), args := _, argTypes := _ }, _, _, _, none⟩ :: _) :: _) _ _ _; refine G.call callRNorm rfl rfl (s1 _ (hv.mono (by solve | repeat first | assumption | exact Zr _ | refine Zq ?_ Zp))) Ze ?_; rintro _ h3 H3 ⟨rfl, rfl⟩ hle3) | (show G _ (.ops .seq _ (⟨some _, .call { callee := .value (.func 41), args := _, argTypes := _ }, _, _, _, none⟩ :: _) :: _) _ _ _; refine G.call callRNorm rfl rfl (s2 _ (hv2.mono (by solve | repeat first | assumption | exact Zr _ | refine Zq ?_ Zp))) Ze ?_; rintro _ h4 H4 ⟨rfl, rfl⟩ hle4) | (refine G.atCode ?_; first | refine G.seq ?_ | refine G.region ?_ | refine G.ret ?_) | refine G.endOps ?_ | (refine G.atGd ?_; first | refine G.guardYes rfl rfl ?_) | (refine G.atBin ?_; first | (refine G.atEql ?_; first | refine G.op rfl rfl ?_ | refine G.eqStr rfl rfl rfl ?_)) | refine G.op rfl rfl ?_)
    all_goals first | (exfalso; omega) | exact G.done1 rfl rfl [] (SubH.nil _) ⟨by solve | rfl | simp, rfl⟩ | (exfalso; simp_all; done) | skip
  . rw [decide_eq_false hq]
    refine Spec.enter Tryz.func24 rfl rfl ?_; intro w0
    repeat' (first | (show G _ (.ops .seq _ (⟨some _, .call { callee := .value (.func 41), args := _, argTypes := _ }, _, _, _, none⟩ :: _) :: _) _ _ _; refine G.call callRNorm rfl rfl (s1 _ (hv.mono (by solve | repeat first | assumption | exact Zr _ | refine Zq ?_ Zp))) Ze ?_; rintro _ h3 H3 ⟨rfl, rfl⟩ hle3) | (show G _ (.ops .seq _ (⟨some _, .call { callee := .value (.func 41), args := _, argTypes := _ }, _, _, _, none⟩ :: _) :: _) _ _ _; refine G.call callRNorm rfl rfl (s2 _ (hv2.mono (by solve | repeat first | assumption | exact Zr _ | refine Zq ?_ Zp))) Ze ?_; rintro _ h4 H4 ⟨rfl, rfl⟩ hle4) | (refine G.atCode ?_; first | refine G.seq ?_ | refine G.region ?_ | refine G.ret ?_) | refine G.endOps ?_ | (refine G.atGd ?_; first | refine G.guardYes rfl rfl ?_ | refine G.guardNoS rfl rfl rfl ?_ | (refine G.guardS rfl rfl rfl ?_ ?_ <;> intro hc <;> (try simp only [tests, reduceCtorEq] at hc) <;> (try exact Zf))) | (refine G.atBin ?_; first | (refine G.atEql ?_; first | refine G.op rfl rfl ?_ | refine G.eqStr rfl rfl rfl ?_)) | refine G.op rfl rfl ?_)
    all_goals first | (exfalso; omega) | exact G.done1 rfl rfl [] (SubH.nil _) ⟨by solve | rfl | (congr 1; simp_all; done) | (congr 1; exact decide_eq_false (fun e => hq ⟨by omega, by omega, e⟩)), rfl⟩ | (exfalso; simp_all; done) | skip
set_option maxHeartbeats 4000000 in
theorem ref22_speaks (who entry d w : Dn) (r : Rl) (attr : List UInt8) (right : Int) (v1 v2 : Value) (h1 : dnW who <= 10000000) (h2 : dnW entry <= 10000000) (hat : attr.length <= 100000000)
    (hd : parseM r.dn = .ok d) (hw : parseM r.wh = .ok w) (b1 : r.dn.length <= 10000000) (b2 : r.wh.length <= 10000000) (hx : RuB (r, d, w)) (hrt : okRight right) (h : Heap) (hv1 : DnC h who v1) (hv2 : DnC h entry v2) :
    Spec Tryz.prog 25 [.agg #[.int .i64 r.who, str r.dn, str r.wh, str r.attr, .int .i64 r.rights, .bool r.allow], v1, v2, str attr, .int .i64 right] h [] (fun u _ H' => u = .bool (hitM who entry attr right (r, d, w)) /\ H' = []) := by
  have hxa := hx.2.2.1
  have hwd := hx.2.2.2.1
  have hww := hx.2.2.2.2
  have hr1 := hx.1
  have hr2 := hx.2.1
  simp only at hxa hwd hww hr1 hr2
  have hrm := right_mod ⟨hr1, hr2⟩ hrt
  unfold hitM
  simp only
  rw [hrm]
  unfold okRight at hrt
  obtain ⟨A1, c1, rfl, _, hm⟩ := hv1.form
  have s3 := fun (vw : Value) h hv2 hw => ref09_Under entry w v2 vw h2 hww h hv2 hw
  have s4 := ref22_same who entry (.slice A1 who.length c1) v2 h1 h2
  have s5 := fun (vd : Value) h hv1 hd => ref22_same who d (.slice A1 who.length c1) vd h1 hwd h hv1 hd
  have s6 := fun (vd : Value) h hv1 hd => ref09_Under who d (.slice A1 who.length c1) vd h1 hwd h hv1 hd
  have hdiv : 0 <= r.rights / right /\ r.rights / right <= 15 := by rcases hrt with rfl | rfl | rfl | rfl <;> omega
  have hrp : ¬ right = 0 := by omega
  generalize hU : underM entry w = U at *
  generalize hQ : r.rights / right = Q at *
  have hfin : ∀ b : Bool, (decide (r.attr = []) || decide (foldM r.attr = foldM attr)) = (decide (r.attr.length = 0) || sameT r.attr attr) := fun _ => by
    unfold sameT
    congr 1
    exact decide_eq_decide.2 List.length_eq_zero_iff.symm
  generalize hS : speakM who entry (r, d, w) = S
  have hSp : S = speakM who entry (r, d, w) := hS.symm
  unfold speakM at hSp
  simp only at hSp
  clear hS
  generalize hAT : (decide (r.attr.length = 0) || sameT r.attr attr) = AT
  have hAT' : AT = true ↔ (r.attr.length = 0 \/ foldM r.attr = foldM attr) := by rw [<- hAT]; simp [sameT]
  clear hfin
  generalize hRT : decide (Q % 2 = 1) = RT
  have hRT' : RT = true ↔ Q % 2 = 1 := by rw [<- hRT]; simp
  generalize sameD who entry = B1 at *
  generalize sameD who d = B2 at *
  generalize underM who d = B3 at *
  obtain ⟨rk, rd, rw_, ra, rr, al⟩ := r
  simp only at *
  refine Spec.enter Tryz.func25 rfl rfl ?_; intro w0
  repeat' (first | (show G _ (.ops .seq _ (⟨some _, .call { callee := .value (.func 42), args := _, argTypes := _ }, _, _, _, none⟩ :: _) :: _) _ _ _; refine G.call callRParse rfl rfl (ref09_ParseO hw b2 _) Ze ?_; rintro _ h3 H3 ⟨⟨vw, rfl, cw⟩, rfl⟩ hle3; obtain ⟨Aw, kw, rfl, _, mw⟩ := cw.form) | (show G _ (.ops .seq _ (⟨some _, .call { callee := .value (.func 42), args := _, argTypes := _ }, _, _, _, none⟩ :: _) :: _) _ _ _; refine G.call callRParse rfl rfl (ref09_ParseO hd b1 _) Ze ?_; rintro _ h4 H4 ⟨⟨vd, rfl, cd⟩, rfl⟩ hle4; obtain ⟨Ad, kd, rfl, _, md⟩ := cd.form) | (show G _ (.ops .seq _ (⟨some _, .call { callee := .value (.func 43), args := _, argTypes := _ }, _, _, _, none⟩ :: _) :: _) _ _ _; refine G.call callRUnder rfl rfl (s3 _ _ (hv2.mono (by solve | repeat first | assumption | exact Zr _ | refine Zq ?_ Zp)) (cw.mono (by solve | repeat first | assumption | exact Zr _ | refine Zq ?_ Zp))) Ze ?_; rintro _ h5 H5 ⟨rfl, rfl⟩ hle5) | (show G _ (.ops .seq _ (⟨some _, .call { callee := .value (.func 44), args := _, argTypes := _ }, _, _, _, none⟩ :: _) :: _) _ _ _; refine G.call callRFold rfl rfl (ref01_Fold ra hxa _) Ze ?_; rintro _ h6 H6 ⟨rfl, rfl⟩ hle6) | (show G _ (.ops .seq _ (⟨some _, .call { callee := .value (.func 44), args := _, argTypes := _ }, _, _, _, none⟩ :: _) :: _) _ _ _; refine G.call callRFold rfl rfl (ref01_Fold attr hat _) Ze ?_; rintro _ h7 H7 ⟨rfl, rfl⟩ hle7) | (show G _ (.ops .seq _ (⟨some _, .call { callee := .value (.func 24), args := _, argTypes := _ }, _, _, _, none⟩ :: _) :: _) _ _ _; refine G.call callSame22 rfl rfl (s4 _ (hv1.mono (by solve | repeat first | assumption | exact Zr _ | refine Zq ?_ Zp)) (hv2.mono (by solve | repeat first | assumption | exact Zr _ | refine Zq ?_ Zp))) Ze ?_; rintro _ h8 H8 ⟨rfl, rfl⟩ hle8) | (show G _ (.ops .seq _ (⟨some _, .call { callee := .value (.func 24), args := _, argTypes := _ }, _, _, _, none⟩ :: _) :: _) _ _ _; refine G.call callSame22 rfl rfl (s5 _ _ (hv1.mono (by solve | repeat first | assumption | exact Zr _ | refine Zq ?_ Zp)) (cd.mono (by solve | repeat first | assumption | exact Zr _ | refine Zq ?_ Zp))) Ze ?_; rintro _ h8 H8 ⟨rfl, rfl⟩ hle8) | (show G _ (.ops .seq _ (⟨some _, .call { callee := .value (.func 43), args := _, argTypes := _ }, _, _, _, none⟩ :: _) :: _) _ _ _; refine G.call callRUnder rfl rfl (s6 _ _ (hv1.mono (by solve | repeat first | assumption | exact Zr _ | refine Zq ?_ Zp)) (cd.mono (by solve | repeat first | assumption | exact Zr _ | refine Zq ?_ Zp))) Ze ?_; rintro _ h9 H9 ⟨rfl, rfl⟩ hle9) | (refine G.atCode ?_; first | refine G.seq ?_ | refine G.region ?_ | refine G.block ?_ | refine G.skip ?_ | refine G.ret ?_ | (refine G.cond rfl ?_ ?_ <;> intro hc <;> (try simp only [tests, reduceCtorEq] at hc) <;> (try exact Zf))) | refine G.endOps ?_ | refine G.endBlk ?_ | (refine G.atGd ?_; first | refine G.guardYes rfl rfl ?_ | refine G.guardNoS rfl rfl rfl ?_ | refine G.guardU rfl rfl rfl ?_ | (refine G.guardS rfl rfl rfl ?_ ?_ <;> intro hc <;> (try simp only [tests, reduceCtorEq] at hc) <;> (try exact Zf))) | (refine G.atBin ?_; first | (refine G.atEql ?_; first | refine G.op rfl rfl ?_ | refine G.eqStr0 rfl rfl rfl ?_ | refine G.eqStr rfl rfl rfl ?_) | (refine G.atRem ?_; first | (refine G.rem rfl rfl rfl rfl Zo ?_; intro _ _ _)) | (refine G.atQuo ?_; refine G.quo rfl rfl rfl rfl Zo Zi ?_) | refine G.op rfl rfl ?_) | refine G.op rfl rfl ?_ | (refine G.atLen ?_; first | refine G.lenSlice rfl (tyy rfl) rfl ?_) | (refine G.atLoad ?_; first | refine G.loadOwn1 rfl (tyy rfl) rfl rfl Za rfl rfl ?_) | (refine G.atFld ?_; first | refine G.fieldAddr rfl (tyy rfl) rfl rfl ?_) | (refine G.atBox ?_; refine G.box rfl rfl rfl ?_; intro _))
  all_goals
    refine G.done1 rfl rfl [] (SubH.nil _) ⟨congrArg Value.bool ?_, rfl⟩
    rw [hSp, Bool.eq_iff_iff]
    clear hSp s3 s4 s5 s6 hAT hRT hrm hx
    simp only [Bool.and_eq_true, hRT', hAT', ← hQ]
    first | (simp [*]; done) | (simp_all; done) | (simp_all; omega)
theorem rus_b {T : List (List UInt8)} {rs : List Rl} {l : List RlD} (h : rusM T rs = .ok l) (hb : RlB rs) {i : Nat} {x : RlD} (hi : l[i]? = some x) : rs[i]? = some x.1 /\ parseM x.1.dn = .ok x.2.1 /\ parseM x.1.wh = .ok x.2.2 /\ RuB x /\ x.1.dn.length <= 10000000 /\ x.1.wh.length <= 10000000 := by
  obtain ⟨h1, h2⟩ := rus_ok h
  have hm := List.mem_of_getElem? hi
  obtain ⟨_, _, p1, p2, p3, p4⟩ := ru_ok (h2 x hm)
  have hr : rs[i]? = some x.1 := by rw [<- h1, List.getElem?_map, hi]; rfl
  obtain ⟨b1, b2, b3⟩ := hb.2 x.1 (List.mem_of_getElem? hr)
  have hwd := (parse_ok p1).w
  have hww := (parse_ok p2).w
  exact ⟨hr, p1, p2, ⟨p3, p4, by omega, hwd, hww⟩, b1, b2⟩
set_option maxHeartbeats 4000000 in
theorem ref22_May (T : List (List UInt8)) (adm who entry : Dn) (rs : List Rl) (l : List RlD) (hl : rusM T rs = .ok l) (hrb : RlB rs) (attr : List UInt8) (right : Int) (v0 vR v1 v2 : Value) (h0 : dnW adm <= 10000000) (h1 : dnW who <= 10000000) (h2 : dnW entry <= 10000000) (hat : attr.length <= 100000000) (h : Heap) (hA : DnC h adm v0) (hR : HSl h vR 6 (rlR rs)) (hv1 : DnC h who v1) (hv2 : DnC h entry v2) :
    Spec Tryz.prog 13 [v0, vR, v1, v2, str attr, .int .i64 right] h [] (fun u _ H' => u = .bool (mayM adm l who entry attr right) /\ H' = []) := by
  have s1 := ref09_Print who v1 h1
  have s2 := ref09_Print entry v2 h2
  have s3 := ref22_same who adm v1 v0 h1 h0
  have hrl := hR.len
  rw [rlR_length] at hrl
  obtain ⟨A, c, rfl, _, hm⟩ := hv1.form
  obtain ⟨A0, c0, rfl, _, hm0⟩ := hA.form
  obtain ⟨A2, c2, rfl, _, hm2⟩ := hv2.form
  obtain ⟨AR, cR, rfl, _⟩ := hR.form
  rw [rlR_length] at *
  have hll : l.length = rs.length := by rw [<- (rus_ok hl).1, List.length_map]
  unfold mayM
  by_cases hask : askM who entry right
  rotate_left
  . rw [if_neg hask]
    unfold askM okRight at hask
    generalize printM who = P1 at *
    generalize printM entry = P2 at *
    refine Spec.enter Tryz.func13 rfl rfl ?_; intro w0
    repeat' (first | (show G _ (.ops .seq _ (⟨some _, .call { callee := .value (.func 23), args := _, argTypes := _ }, _, _, _, none⟩ :: _) :: _) _ _ _; refine G.call callRPrint rfl rfl (s1 _ (hv1.mono (by solve | repeat first | assumption | exact Zr _ | refine Zq ?_ Zp))) Ze ?_; rintro _ h3 H3 ⟨rfl, rfl⟩ hle3) | (show G _ (.ops .seq _ (⟨some _, .call { callee := .value (.func 23), args := _, argTypes := _ }, _, _, _, none⟩ :: _) :: _) _ _ _; refine G.call callRPrint rfl rfl (s2 _ (hv2.mono (by solve | repeat first | assumption | exact Zr _ | refine Zq ?_ Zp))) Ze ?_; rintro _ h4 H4 ⟨rfl, rfl⟩ hle4) | (refine G.atCode ?_; first | refine G.seq ?_ | refine G.region ?_ | refine G.ret ?_ | (refine G.cond rfl ?_ ?_ <;> intro hc <;> (try simp only [tests, reduceCtorEq] at hc) <;> (try exact Zf))) | refine G.endOps ?_ | (refine G.atGd ?_; first | refine G.guardYes rfl rfl ?_ | refine G.guardNoS rfl rfl rfl ?_ | refine G.guardU rfl rfl rfl ?_ | (refine G.guardS rfl rfl rfl ?_ ?_ <;> intro hc <;> (try simp only [tests, reduceCtorEq] at hc) <;> (try exact Zf))) | (refine G.atBin ?_; first | (refine G.atNeq ?_; first | refine G.op rfl rfl ?_)) | refine G.op rfl rfl ?_)
    all_goals first | (exfalso; omega) | exact G.done1 rfl rfl [] (SubH.nil _) ⟨rfl, rfl⟩ | skip
  rw [if_pos hask]
  have hask' := hask
  unfold askM okRight at hask
  generalize hP1 : printM who = P1 at *
  generalize hP2 : printM entry = P2 at *
  obtain ⟨p1, e1⟩ := P1
  obtain ⟨p2, e2⟩ := P2
  simp only at hask
  obtain ⟨rfl, rfl, hrt⟩ := hask
  by_cases hadm : 0 < who.length /\ sameD who adm = true
  . rw [if_pos hadm]
    obtain ⟨ha1, ha2⟩ := hadm
    rw [ha2] at s3
    refine Spec.enter Tryz.func13 rfl rfl ?_; intro w0
    repeat' (first | (show G _ (.ops .seq _ (⟨some _, .call { callee := .value (.func 23), args := _, argTypes := _ }, _, _, _, none⟩ :: _) :: _) _ _ _; refine G.call callRPrint rfl rfl (s1 _ (hv1.mono (by solve | repeat first | assumption | exact Zr _ | refine Zq ?_ Zp))) Ze ?_; rintro _ h3 H3 ⟨rfl, rfl⟩ hle3) | (show G _ (.ops .seq _ (⟨some _, .call { callee := .value (.func 23), args := _, argTypes := _ }, _, _, _, none⟩ :: _) :: _) _ _ _; refine G.call callRPrint rfl rfl (s2 _ (hv2.mono (by solve | repeat first | assumption | exact Zr _ | refine Zq ?_ Zp))) Ze ?_; rintro _ h4 H4 ⟨rfl, rfl⟩ hle4) | (show G _ (.ops .seq _ (⟨some _, .call { callee := .value (.func 24), args := _, argTypes := _ }, _, _, _, none⟩ :: _) :: _) _ _ _; refine G.call callSame22 rfl rfl (s3 _ (hv1.mono (by solve | repeat first | assumption | exact Zr _ | refine Zq ?_ Zp)) (hA.mono (by solve | repeat first | assumption | exact Zr _ | refine Zq ?_ Zp))) Ze ?_; rintro _ h5 H5 ⟨rfl, rfl⟩ hle5) | (refine G.atCode ?_; first | refine G.seq ?_ | refine G.region ?_ | refine G.skip ?_ | refine G.ret ?_ | (refine G.cond rfl ?_ ?_ <;> intro hc <;> (try simp only [tests, reduceCtorEq] at hc) <;> (try exact Zf))) | refine G.endOps ?_ | (refine G.atGd ?_; first | refine G.guardYes rfl rfl ?_ | refine G.guardNoS rfl rfl rfl ?_ | (refine G.guardS rfl rfl rfl ?_ ?_ <;> intro hc <;> (try simp only [tests, reduceCtorEq] at hc) <;> (try exact Zf))) | (refine G.atBin ?_; first | (refine G.atNeq ?_; first | refine G.op rfl rfl ?_) | refine G.op rfl rfl ?_) | refine G.op rfl rfl ?_ | (refine G.atLen ?_; first | refine G.lenSlice rfl (tyy rfl) rfl ?_))
    all_goals first | (exfalso; omega) | exact G.done1 rfl rfl [] (SubH.nil _) ⟨rfl, rfl⟩ | (exfalso; simp_all; done) | skip
  rw [if_neg hadm]
  generalize hF : firstM who entry attr right l = F
  have hF0 : firstM who entry attr right (l.drop 0) = F := hF
  clear hF
  have hadm' : 0 < who.length -> sameD who adm = false := fun h9 => by
    cases h8 : sameD who adm with
    | false => rfl
    | true => exact absurd ⟨h9, h8⟩ hadm
  refine Spec.enter Tryz.func13 rfl rfl ?_; intro w0
  repeat' (first | (show G _ (.ops .seq _ (⟨some _, .call { callee := .value (.func 23), args := _, argTypes := _ }, _, _, _, none⟩ :: _) :: _) _ _ _; refine G.call callRPrint rfl rfl (s1 _ (hv1.mono (by solve | repeat first | assumption | exact Zr _ | refine Zq ?_ Zp))) Ze ?_; rintro _ h3 H3 ⟨rfl, rfl⟩ hle3) | (show G _ (.ops .seq _ (⟨some _, .call { callee := .value (.func 23), args := _, argTypes := _ }, _, _, _, none⟩ :: _) :: _) _ _ _; refine G.call callRPrint rfl rfl (s2 _ (hv2.mono (by solve | repeat first | assumption | exact Zr _ | refine Zq ?_ Zp))) Ze ?_; rintro _ h4 H4 ⟨rfl, rfl⟩ hle4) | (show G _ (.ops .seq _ (⟨some _, .call { callee := .value (.func 24), args := _, argTypes := _ }, _, _, _, none⟩ :: _) :: _) _ _ _; refine G.call callSame22 rfl rfl (s3 _ (hv1.mono (by solve | repeat first | assumption | exact Zr _ | refine Zq ?_ Zp)) (hA.mono (by solve | repeat first | assumption | exact Zr _ | refine Zq ?_ Zp))) Ze ?_; rintro _ h5 H5 ⟨rfl, rfl⟩ hle5; rw [hadm' (by omega)]) | (refine G.atCode ?_; refine G.stopLoop ?_) | (refine G.atCode ?_; first | refine G.seq ?_ | refine G.region ?_ | refine G.block ?_ | refine G.skip ?_ | (refine G.cond rfl ?_ ?_ <;> intro hc <;> (try simp only [tests, reduceCtorEq] at hc) <;> (try exact Zf))) | refine G.endOps ?_ | (refine G.atGd ?_; first | refine G.guardYes rfl rfl ?_ | refine G.guardNoS rfl rfl rfl ?_ | (refine G.guardS rfl rfl rfl ?_ ?_ <;> intro hc <;> (try simp only [tests, reduceCtorEq] at hc) <;> (try exact Zf))) | (refine G.atBin ?_; first | (refine G.atNeq ?_; first | refine G.op rfl rfl ?_) | refine G.op rfl rfl ?_) | refine G.op rfl rfl ?_ | (refine G.atLen ?_; first | refine G.lenSlice rfl (tyy rfl) rfl ?_))
  all_goals first | (exfalso; omega) | (exfalso; simp_all; done) | skip
  all_goals
    refine G.go ?_
    refine G.loop (σ := Nat) (fun i => [(61, .int .i64 i), (60, .int .i64 rs.length), (59, .slice AR rs.length cR), (2, .slice A who.length c), (3, .slice A2 entry.length c2), (4, str attr), (5, .int .i64 right)])
      (fun _ => []) (fun i _ => i <= rs.length /\ firstM who entry attr right (l.drop i) = F) (fun i => rs.length - i) 0 ⟨rfl, rfl, rfl, rfl, rfl, rfl, rfl, trivial⟩ (SubH.nil _) ⟨Nat.zero_le _, hF0⟩ ?_
    rintro i h6 hle6 ⟨hi, hFi⟩
    have hhle : Heap.le h h6 := (by solve | repeat first | assumption | exact Zr _ | refine Zq ?_ Zp)
    by_cases hlt : i < rs.length
    . obtain ⟨x, hx⟩ : ∃ x, l[i]? = some x := ⟨l[i]'(by omega), List.getElem?_eq_getElem (by omega)⟩
      obtain ⟨hr, q1, q2, hxb, b1, b2⟩ := rus_b hl hrb hx
      have hget := rlR_get hr
      have s7 := ref22_speaks who entry x.2.1 x.2.2 x.1 attr right (.slice A who.length c) (.slice A2 entry.length c2) h1 h2 hat q1 q2 b1 b2 hxb hrt
      obtain ⟨hlt', he⟩ := List.getElem?_eq_some_iff.1 hx
      rw [List.drop_eq_getElem_cons hlt', he, firstM] at hFi
      have hl6 : ([.int .i64 x.1.who, str x.1.dn, str x.1.wh, str x.1.attr, .int .i64 x.1.rights, .bool x.1.allow] : List Value).length = 6 := rfl
      by_cases hhit : hitM who entry attr right x = true
      . rw [if_pos hhit] at hFi
        subst hFi
        rw [show (x.1, x.2.1, x.2.2) = x from rfl, hhit] at s7
        repeat' (first | (refine G.atIdx ?_; refine G.idxImm rfl rfl (tyy rfl) (tyy rfl) (hR.mono (by solve | repeat first | assumption | exact Zr _ | refine Zq ?_ Zp)) Zj rfl (by rw [rlR_length]; omega) ?_; intro pp rr hx9 hp9; (rw [hget] at hx9); (obtain rfl := Option.some.inj hx9)) | (show G _ (.ops .seq _ (⟨some _, .call { callee := .value (.func 25), args := _, argTypes := _ }, _, _, _, none⟩ :: _) :: _) _ _ _; refine G.call callSpeaks22 rfl rfl (s7 _ (hv1.mono (by solve | repeat first | assumption | exact Zr _ | refine Zq ?_ Zp)) (hv2.mono (by solve | repeat first | assumption | exact Zr _ | refine Zq ?_ Zp))) Ze ?_; rintro _ h7 H7 ⟨rfl, rfl⟩ hle7) | (refine G.atCode ?_; first | refine G.seq ?_ | refine G.region ?_ | refine G.block ?_ | refine G.skip ?_ | refine G.ret ?_ | (refine G.cond rfl ?_ ?_ <;> intro hc <;> (try simp only [tests, reduceCtorEq] at hc) <;> (try exact Zf))) | refine G.endOps ?_ | (refine G.atBin ?_; first | refine G.op rfl rfl ?_) | refine G.op rfl rfl ?_ | (refine G.atLoad ?_; first | refine G.loadOwn1 rfl (tyy rfl) rfl rfl Za rfl rfl ?_ | refine G.loadOwnA rfl (tyy rfl) rfl rfl Za rfl rfl ?_ | refine G.loadImmA rfl (tyy rfl) rfl rfl Zp Zp rfl ?_) | (refine G.atFld ?_; first | refine G.fieldAddr rfl (tyy rfl) rfl rfl ?_) | (refine G.atSto ?_; refine G.storeOwn rfl rfl (tyy rfl) Za rfl rfl rfl rfl ?_) | (refine G.atAlc ?_; refine G.alloc (tyy rfl) rfl rfl ?_; intro _))
        all_goals first | exact G.done1 rfl rfl [] (SubH.nil _) ⟨rfl, rfl⟩ | (exfalso; omega) | (exfalso; simp_all; done) | skip
      . rw [if_neg hhit] at hFi
        rw [show (x.1, x.2.1, x.2.2) = x from rfl, show hitM who entry attr right x = false by simpa using hhit] at s7
        repeat' (first | (refine G.atIdx ?_; refine G.idxImm rfl rfl (tyy rfl) (tyy rfl) (hR.mono (by solve | repeat first | assumption | exact Zr _ | refine Zq ?_ Zp)) Zj rfl (by rw [rlR_length]; omega) ?_; intro pp rr hx9 hp9; (rw [hget] at hx9); (obtain rfl := Option.some.inj hx9)) | (show G _ (.ops .seq _ (⟨some _, .call { callee := .value (.func 25), args := _, argTypes := _ }, _, _, _, none⟩ :: _) :: _) _ _ _; refine G.call callSpeaks22 rfl rfl (s7 _ (hv1.mono (by solve | repeat first | assumption | exact Zr _ | refine Zq ?_ Zp)) (hv2.mono (by solve | repeat first | assumption | exact Zr _ | refine Zq ?_ Zp))) Ze ?_; rintro _ h7 H7 ⟨rfl, rfl⟩ hle7) | (refine G.atCode ?_; first | refine G.seq ?_ | refine G.region ?_ | refine G.block ?_ | refine G.skip ?_ | (refine G.cond rfl ?_ ?_ <;> intro hc <;> (try simp only [tests, reduceCtorEq] at hc) <;> (try exact Zf))) | refine G.endOps ?_ | refine G.endBlk ?_ | (refine G.atBin ?_; first | (refine G.atAdd ?_; first | refine G.arith rfl rfl rfl rfl rfl Zi ?_) | refine G.op rfl rfl ?_) | refine G.op rfl rfl ?_ | (refine G.atLoad ?_; first | refine G.loadOwnA rfl (tyy rfl) rfl rfl Za rfl rfl ?_ | refine G.loadImmA rfl (tyy rfl) rfl rfl Zp Zp rfl ?_) | (refine G.atSto ?_; refine G.storeOwn rfl rfl (tyy rfl) Za rfl rfl rfl rfl ?_) | (refine G.atAlc ?_; refine G.alloc (tyy rfl) rfl rfl ?_; intro _))
        all_goals first | (exfalso; omega) | exact G.again (i + 1) ⟨sint (by simp), rfl, rfl, rfl, rfl, rfl, rfl, trivial⟩ (SubH.nil _) ⟨by omega, hFi⟩ (by solve | repeat first | assumption | exact Zr _ | refine Zq ?_ Zp) (by omega) | (exfalso; simp_all; done) | skip
    . obtain rfl : i = rs.length := by omega
      rw [List.drop_eq_nil_of_le (by omega), firstM] at hFi
      subst hFi
      repeat' (first | (refine G.atCode ?_; first | refine G.seq ?_ | refine G.region ?_ | refine G.exit rfl ?_ | refine G.ret ?_ | (refine G.cond rfl ?_ ?_ <;> intro hc <;> (try simp only [tests, reduceCtorEq] at hc) <;> (try exact Zf))) | refine G.endOps ?_ | (refine G.atBin ?_; first | refine G.op rfl rfl ?_) | refine G.op rfl rfl ?_)
      all_goals first | (exfalso; omega) | exact G.done1 rfl rfl [] (SubH.nil _) ⟨rfl, rfl⟩ | skip
end Go.Proofs.YtieibicgankemaaGreat
