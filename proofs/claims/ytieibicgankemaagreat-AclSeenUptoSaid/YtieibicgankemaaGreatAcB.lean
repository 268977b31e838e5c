/- Books of rules in memory; acl.same, rule.speaks, Book.May. -/
import Derived.Test.YtieibicgankemaaGreatAcM
namespace Go.Proofs.YtieibicgankemaaGreat
set_option linter.all false
set_option maxRecDepth 4000
open Go.RowKit

theorem callSameA : Callable Tryz.prog 34 := ⟨_, Tryz.func34, by kernel_rfl, rfl⟩
theorem callSpeaks : Callable Tryz.prog 37 := ⟨_, Tryz.func37, by kernel_rfl, rfl⟩
theorem callMay : Callable Tryz.prog 22 := ⟨_, Tryz.func22, by kernel_rfl, rfl⟩
def RuB (x : RlD) : Prop := 1 <= x.1.rights /\ x.1.rights <= 15 /\ x.1.attr.length <= 100000000 /\ dnW x.2.1 <= 10000000 /\ dnW x.2.2 <= 10000000
def ruV (r : Rl) (vd vw : Value) : List Value := [.int .i64 r.who, str r.dn, str r.wh, str r.attr, .int .i64 r.rights, .bool r.allow, vd, vw]
def RusC (h : Heap) : List RlD -> List (List Value) -> Prop
  | [], rows => rows = []
  | x :: l, rows => ∃ vd vw rs, rows = ruV x.1 vd vw :: rs /\ DnC h x.2.1 vd /\ DnC h x.2.2 vw /\ RuB x /\ RusC h l rs
theorem RusC.mono {h h' : Heap} (hl : Heap.le h h') : ∀ {l : List RlD} {rows : List (List Value)}, RusC h l rows -> RusC h' l rows
  | [], _, hr => hr
  | x :: l, _, hr => by
    obtain ⟨vd, vw, rs, e, h1, h2, h3, h4⟩ := hr
    exact ⟨vd, vw, rs, e, h1.mono hl, h2.mono hl, h3, h4.mono hl⟩
theorem RusC.len {h : Heap} : ∀ {l : List RlD} {rows : List (List Value)}, RusC h l rows -> rows.length = l.length
  | [], _, hr => by rw [show _ = ([] : List (List Value)) from hr]; rfl
  | x :: l, _, hr => by
    obtain ⟨vd, vw, rs, rfl, _, _, _, h4⟩ := hr
    simp [h4.len]
theorem RusC.append {h : Heap} : ∀ {a b : List RlD} {ra rb : List (List Value)}, RusC h a ra -> RusC h b rb -> RusC h (a ++ b) (ra ++ rb)
  | [], b, ra, rb, ha, hb => by rw [show ra = [] from ha]; exact hb
  | x :: l, b, ra, rb, ha, hb => by
    obtain ⟨vd, vw, rs, rfl, h1, h2, h3, h4⟩ := ha
    exact ⟨vd, vw, rs ++ rb, rfl, h1, h2, h3, h4.append hb⟩
theorem RusC.one {h : Heap} {x : RlD} {vd vw : Value} (h1 : DnC h x.2.1 vd) (h2 : DnC h x.2.2 vw) (h3 : RuB x) : RusC h [x] [ruV x.1 vd vw] := ⟨vd, vw, [], rfl, h1, h2, h3, rfl⟩
theorem RusC.get {h : Heap} : ∀ {l : List RlD} {rows : List (List Value)} {i : Nat} {x : RlD}, RusC h l rows -> l[i]? = some x -> ∃ vd vw, rows[i]? = some (ruV x.1 vd vw) /\ DnC h x.2.1 vd /\ DnC h x.2.2 vw /\ RuB x
  | [], _, i, x, _, hi => by simp at hi
  | y :: l, _, 0, x, hr, hi => by
    obtain ⟨vd, vw, rs, rfl, h1, h2, h3, h4⟩ := hr
    simp at hi; subst hi
    exact ⟨vd, vw, rfl, h1, h2, h3⟩
  | y :: l, _, i + 1, x, hr, hi => by
    obtain ⟨vd, vw, rs, rfl, h1, h2, h3, h4⟩ := hr
    obtain ⟨a, b, e, r⟩ := h4.get (i := i) (by simpa using hi)
    exact ⟨a, b, by simpa using e, r⟩
def BookC (h : Heap) (adm : Dn) (l : List RlD) (g : Nat) : Prop := ∃ vA vR rows, HCells h ⟨g, 0, none⟩ [vA, vR] /\ DnC h adm vA /\ HSl h vR 8 rows /\ RusC h l rows
theorem BookC.mono {h h' : Heap} (hl : Heap.le h h') {adm : Dn} {l : List RlD} {g : Nat} (b : BookC h adm l g) : BookC h' adm l g := by
  obtain ⟨vA, vR, rows, h1, h2, h3, h4⟩ := b
  exact ⟨vA, vR, rows, h1.mono hl, h2.mono hl, h3.mono hl, h4.mono hl⟩
theorem acl_same (a b : Dn) (va vb : Value) (ha : dnW a <= 10000000) (hb : dnW b <= 10000000) (h : Heap) (hv : DnC h a va) (hv2 : DnC h b vb) : Spec Tryz.prog 34 [va, vb] h [] (fun u _ H' => u = .bool (sameD a b) /\ H' = []) := by
  have s1 := dn_Under a b va vb ha hb
  obtain ⟨A, c, rfl, _, hm⟩ := hv.form
  obtain ⟨A2, c2, rfl, _, hm2⟩ := hv2.form
  unfold sameD
  by_cases hl : a.length = b.length
  . rw [decide_eq_true hl, Bool.true_and]
    refine Spec.enter Tryz.func34 rfl rfl ?_; intro w0
    repeat' (first | (show G _ (.ops .seq _ (⟨some _, .call { callee := .value (.func 36), args := _, argTypes := _ }, _, _, _, none⟩ :: _) :: _) _ _ _; refine G.call callUnder rfl rfl (s1 _ (hv.mono (by solve | repeat first | assumption | exact Zr _ | refine Zq ?_ Zp)) (hv2.mono (by solve | repeat first | assumption | exact Zr _ | refine Zq ?_ Zp))) Ze ?_; rintro _ h3 H3 ⟨rfl, rfl⟩ hle3) | (refine G.atCode ?_; first | refine G.seq ?_ | refine G.region ?_ | refine G.ret ?_) | refine G.endOps ?_ | (refine G.atGd ?_; first | refine G.guardYes rfl rfl ?_ | (refine G.guardS rfl rfl rfl ?_ ?_ <;> intro hc <;> (try simp only [tests, reduceCtorEq] at hc) <;> (try exact Zf))) | (refine G.atBin ?_; first | (refine G.atEql ?_; first | refine G.op rfl rfl ?_)) | refine G.op rfl rfl ?_ | (refine G.atLen ?_; first | refine G.lenSlice rfl (tyy rfl) rfl ?_))
    all_goals first | (exfalso; omega) | exact G.done1 rfl rfl [] (SubH.nil _) ⟨rfl, rfl⟩
  . rw [decide_eq_false hl, Bool.false_and]
    refine Spec.enter Tryz.func34 rfl rfl ?_; intro w0
    repeat' (first | (refine G.atCode ?_; first | refine G.seq ?_ | refine G.region ?_ | refine G.ret ?_) | refine G.endOps ?_ | (refine G.atGd ?_; first | refine G.guardNoS rfl rfl rfl ?_ | (refine G.guardS rfl rfl rfl ?_ ?_ <;> intro hc <;> (try simp only [tests, reduceCtorEq] at hc) <;> (try exact Zf))) | (refine G.atBin ?_; first | (refine G.atEql ?_; first | refine G.op rfl rfl ?_)) | refine G.op rfl rfl ?_ | (refine G.atLen ?_; first | refine G.lenSlice rfl (tyy rfl) rfl ?_))
    all_goals first | (exfalso; omega) | exact G.done1 rfl rfl [] (SubH.nil _) ⟨rfl, rfl⟩
set_option maxHeartbeats 1000000 in
theorem rule_speaks (who entry : Dn) (x : RlD) (vd vw v1 v2 : Value) (h1 : dnW who <= 10000000) (h2 : dnW entry <= 10000000) (hx : RuB x) (h : Heap) (hv1 : DnC h who v1) (hv2 : DnC h entry v2) (hd : DnC h x.2.1 vd) (hw : DnC h x.2.2 vw) :
    Spec Tryz.prog 37 [.agg (ruV x.1 vd vw).toArray, v1, v2] h [] (fun u _ H' => u = .bool (speakM who entry x) /\ H' = []) := by
  have s1 := acl_same who entry v1 v2 h1 h2
  have s2 := acl_same who x.2.1 v1 vd h1 hx.2.2.2.1
  have s3 := dn_Under who x.2.1 v1 vd h1 hx.2.2.2.1
  unfold speakM
  obtain ⟨⟨k, rd, rw_, ra, rr, al⟩, d, w⟩ := x
  simp only at *
  unfold ruV
  simp only
  obtain ⟨A, c, rfl, _, hm⟩ := hv1.form
  by_cases k1 : k = 1
  . rw [if_pos k1]
    refine Spec.enter Tryz.func37 rfl rfl ?_; intro w0
    repeat' (first | (refine G.atCode ?_; first | refine G.seq ?_ | refine G.region ?_ | refine G.block ?_ | refine G.ret ?_ | (refine G.cond rfl ?_ ?_ <;> intro hc <;> (try simp only [tests, reduceCtorEq] at hc) <;> (try exact Zf))) | refine G.endOps ?_ | (refine G.atBin ?_; first | (refine G.atEql ?_; first | refine G.op rfl rfl ?_) | refine G.op rfl rfl ?_) | refine G.op rfl rfl ?_ | (refine G.atLen ?_; first | refine G.lenSlice rfl (tyy rfl) rfl ?_) | (refine G.atLoad ?_; first | refine G.loadOwn1 rfl (tyy rfl) rfl rfl Za rfl rfl ?_) | (refine G.atFld ?_; first | refine G.fieldAddr rfl (tyy rfl) rfl rfl ?_) | (refine G.atBox ?_; refine G.box rfl rfl rfl ?_; intro _))
    all_goals first | (exfalso; omega) | exact G.done1 rfl rfl [] (SubH.nil _) ⟨congrArg Value.bool (decide_eq_decide.2 (by omega)), rfl⟩
  rw [if_neg k1]
  by_cases k2 : k = 2
  . rw [if_pos k2]
    refine Spec.enter Tryz.func37 rfl rfl ?_; intro w0
    repeat' (first | (show G _ (.ops .seq _ (⟨some _, .call { callee := .value (.func 34), args := _, argTypes := _ }, _, _, _, none⟩ :: _) :: _) _ _ _; refine G.call callSameA rfl rfl (s1 _ (hv1.mono (by solve | repeat first | assumption | exact Zr _ | refine Zq ?_ Zp)) (hv2.mono (by solve | repeat first | assumption | exact Zr _ | refine Zq ?_ Zp))) Ze ?_; rintro _ h3 H3 ⟨rfl, rfl⟩ hle3) | (refine G.atCode ?_; first | refine G.seq ?_ | refine G.region ?_ | refine G.block ?_ | refine G.ret ?_ | (refine G.cond rfl ?_ ?_ <;> intro hc <;> (try simp only [tests, reduceCtorEq] at hc) <;> (try exact Zf))) | refine G.endOps ?_ | (refine G.atBin ?_; first | (refine G.atEql ?_; first | refine G.op rfl rfl ?_)) | refine G.op rfl rfl ?_ | (refine G.atLoad ?_; first | refine G.loadOwn1 rfl (tyy rfl) rfl rfl Za rfl rfl ?_) | (refine G.atFld ?_; first | refine G.fieldAddr rfl (tyy rfl) rfl rfl ?_) | (refine G.atBox ?_; refine G.box rfl rfl rfl ?_; intro _))
    all_goals first | (exfalso; omega) | exact G.done1 rfl rfl [] (SubH.nil _) ⟨rfl, rfl⟩
  rw [if_neg k2]
  by_cases k3 : k = 3
  . rw [if_pos k3]
    refine Spec.enter Tryz.func37 rfl rfl ?_; intro w0
    repeat' (first | (show G _ (.ops .seq _ (⟨some _, .call { callee := .value (.func 34), args := _, argTypes := _ }, _, _, _, none⟩ :: _) :: _) _ _ _; refine G.call callSameA rfl rfl (s2 _ (hv1.mono (by solve | repeat first | assumption | exact Zr _ | refine Zq ?_ Zp)) (hd.mono (by solve | repeat first | assumption | exact Zr _ | refine Zq ?_ Zp))) Ze ?_; rintro _ h3 H3 ⟨rfl, rfl⟩ hle3) | (refine G.atCode ?_; first | refine G.seq ?_ | refine G.region ?_ | refine G.block ?_ | refine G.ret ?_ | (refine G.cond rfl ?_ ?_ <;> intro hc <;> (try simp only [tests, reduceCtorEq] at hc) <;> (try exact Zf))) | refine G.endOps ?_ | (refine G.atBin ?_; first | (refine G.atEql ?_; first | refine G.op rfl rfl ?_)) | refine G.op rfl rfl ?_ | (refine G.atLoad ?_; first | refine G.loadOwn1 rfl (tyy rfl) rfl rfl Za rfl rfl ?_) | (refine G.atFld ?_; first | refine G.fieldAddr rfl (tyy rfl) rfl rfl ?_) | (refine G.atBox ?_; refine G.box rfl rfl rfl ?_; intro _))
    all_goals first | (exfalso; omega) | exact G.done1 rfl rfl [] (SubH.nil _) ⟨rfl, rfl⟩
  rw [if_neg k3]
  by_cases k4 : k = 4
  . rw [if_pos k4]
    by_cases hl : 0 < who.length
    . rw [decide_eq_true hl, Bool.true_and]
      refine Spec.enter Tryz.func37 rfl rfl ?_; intro w0
      repeat' (first | (show G _ (.ops .seq _ (⟨some _, .call { callee := .value (.func 36), args := _, argTypes := _ }, _, _, _, none⟩ :: _) :: _) _ _ _; refine G.call callUnder rfl rfl (s3 _ (hv1.mono (by solve | repeat first | assumption | exact Zr _ | refine Zq ?_ Zp)) (hd.mono (by solve | repeat first | assumption | exact Zr _ | refine Zq ?_ Zp))) Ze ?_; rintro _ h3 H3 ⟨rfl, rfl⟩ hle3) | (refine G.atCode ?_; first | refine G.seq ?_ | refine G.region ?_ | refine G.block ?_ | refine G.ret ?_ | (refine G.cond rfl ?_ ?_ <;> intro hc <;> (try simp only [tests, reduceCtorEq] at hc) <;> (try exact Zf))) | refine G.endOps ?_ | (refine G.atGd ?_; first | refine G.guardYes rfl rfl ?_ | (refine G.guardS rfl rfl rfl ?_ ?_ <;> intro hc <;> (try simp only [tests, reduceCtorEq] at hc) <;> (try exact Zf))) | (refine G.atBin ?_; first | (refine G.atEql ?_; first | refine G.op rfl rfl ?_) | refine G.op rfl rfl ?_) | refine G.op rfl rfl ?_ | (refine G.atLen ?_; first | refine G.lenSlice rfl (tyy rfl) rfl ?_) | (refine G.atLoad ?_; first | refine G.loadOwn1 rfl (tyy rfl) rfl rfl Za rfl rfl ?_) | (refine G.atFld ?_; first | refine G.fieldAddr rfl (tyy rfl) rfl rfl ?_) | (refine G.atBox ?_; refine G.box rfl rfl rfl ?_; intro _))
      all_goals first | (exfalso; omega) | exact G.done1 rfl rfl [] (SubH.nil _) ⟨rfl, rfl⟩
    . rw [decide_eq_false hl, Bool.false_and]
      refine Spec.enter Tryz.func37 rfl rfl ?_; intro w0
      repeat' (first | (refine G.atCode ?_; first | refine G.seq ?_ | refine G.region ?_ | refine G.block ?_ | refine G.ret ?_ | (refine G.cond rfl ?_ ?_ <;> intro hc <;> (try simp only [tests, reduceCtorEq] at hc) <;> (try exact Zf))) | refine G.endOps ?_ | (refine G.atGd ?_; first | refine G.guardNoS rfl rfl rfl ?_ | (refine G.guardS rfl rfl rfl ?_ ?_ <;> intro hc <;> (try simp only [tests, reduceCtorEq] at hc) <;> (try exact Zf))) | (refine G.atBin ?_; first | (refine G.atEql ?_; first | refine G.op rfl rfl ?_) | refine G.op rfl rfl ?_) | refine G.op rfl rfl ?_ | (refine G.atLen ?_; first | refine G.lenSlice rfl (tyy rfl) rfl ?_) | (refine G.atLoad ?_; first | refine G.loadOwn1 rfl (tyy rfl) rfl rfl Za rfl rfl ?_) | (refine G.atFld ?_; first | refine G.fieldAddr rfl (tyy rfl) rfl rfl ?_) | (refine G.atBox ?_; refine G.box rfl rfl rfl ?_; intro _))
      all_goals first | (exfalso; omega) | exact G.done1 rfl rfl [] (SubH.nil _) ⟨rfl, rfl⟩
  rw [if_neg k4]
  refine Spec.enter Tryz.func37 rfl rfl ?_; intro w0
  repeat' (first | (refine G.atCode ?_; first | refine G.seq ?_ | refine G.region ?_ | refine G.block ?_ | refine G.skip ?_ | refine G.ret ?_ | (refine G.cond rfl ?_ ?_ <;> intro hc <;> (try simp only [tests, reduceCtorEq] at hc) <;> (try exact Zf))) | refine G.endOps ?_ | refine G.endBlk ?_ | (refine G.atBin ?_; first | (refine G.atEql ?_; first | refine G.op rfl rfl ?_)) | refine G.op rfl rfl ?_ | (refine G.atLoad ?_; first | refine G.loadOwn1 rfl (tyy rfl) rfl rfl Za rfl rfl ?_) | (refine G.atFld ?_; first | refine G.fieldAddr rfl (tyy rfl) rfl rfl ?_) | (refine G.atBox ?_; refine G.box rfl rfl rfl ?_; intro _))
  all_goals first | (exfalso; omega) | exact G.done1 rfl rfl [] (SubH.nil _) ⟨rfl, rfl⟩
theorem right_nat {rights right : Int} (h : 1 <= rights /\ rights <= 15) : rightM rights right = decide ((rights.toNat &&& right.toNat : Nat) ≠ 0) := by
  unfold rightM
  rw [show (rights % 18446744073709551616) = rights by omega]
set_option maxHeartbeats 4000000 in
theorem book_May (adm who entry : Dn) (l : List RlD) (attr : List UInt8) (right : Int) (g : Nat) (v1 v2 : Value) (h0 : dnW adm <= 10000000) (h1 : dnW who <= 10000000) (h2 : dnW entry <= 10000000) (hat : attr.length <= 100000000) (h : Heap) (hb : BookC h adm l g) (hv1 : DnC h who v1) (hv2 : DnC h entry v2) :
    Spec Tryz.prog 22 [.pointer (some ⟨g, 0, none⟩), v1, v2, str attr, .int .i64 right] h [] (fun u _ H' => u = .bool (mayM adm l who entry attr right) /\ H' = []) := by
  have s1 := dn_Print who v1 h1
  have s2 := dn_Print entry v2 h2
  obtain ⟨vA, vR, rows, hB, hA, hR, hrs⟩ := hb
  have s3 := acl_same who adm v1 vA h1 h0
  have hrl := hrs.len
  have hrl2 := hR.len
  obtain ⟨A, c, rfl, _, hm⟩ := hv1.form
  obtain ⟨AR, cR, rfl, _⟩ := hR.form
  rw [hrl] at *
  have hrl3 := hrs.len
  unfold mayM
  by_cases hask : askM who entry right
  rotate_left
  . rw [if_neg hask]
    unfold askM okRight at hask
    generalize printM who = P1 at *
    generalize printM entry = P2 at *
    refine Spec.enter Tryz.func22 rfl rfl ?_; intro w0
    repeat' (first | (show G _ (.ops .seq _ (⟨some _, .call { callee := .value (.func 15), args := _, argTypes := _ }, _, _, _, none⟩ :: _) :: _) _ _ _; refine G.call callPrint rfl rfl (s1 _ (hv1.mono (by solve | repeat first | assumption | exact Zr _ | refine Zq ?_ Zp))) Ze ?_; rintro _ h3 H3 ⟨rfl, rfl⟩ hle3) | (show G _ (.ops .seq _ (⟨some _, .call { callee := .value (.func 15), args := _, argTypes := _ }, _, _, _, none⟩ :: _) :: _) _ _ _; refine G.call callPrint rfl rfl (s2 _ (hv2.mono (by solve | repeat first | assumption | exact Zr _ | refine Zq ?_ Zp))) Ze ?_; rintro _ h4 H4 ⟨rfl, rfl⟩ hle4) | (refine G.atCode ?_; first | refine G.seq ?_ | refine G.region ?_ | refine G.ret ?_ | (refine G.cond rfl ?_ ?_ <;> intro hc <;> (try simp only [tests, reduceCtorEq] at hc) <;> (try exact Zf))) | refine G.endOps ?_ | (refine G.atGd ?_; first | refine G.guardYes rfl rfl ?_ | refine G.guardNoS rfl rfl rfl ?_ | refine G.guardU rfl rfl rfl ?_ | (refine G.guardS rfl rfl rfl ?_ ?_ <;> intro hc <;> (try simp only [tests, reduceCtorEq] at hc) <;> (try exact Zf))) | (refine G.atBin ?_; first | (refine G.atEql ?_; first | refine G.eqPtr rfl rfl (tyy rfl) rfl ?_) | (refine G.atNeq ?_; first | refine G.op rfl rfl ?_)) | refine G.op rfl rfl ?_)
    all_goals first | (exfalso; omega) | exact G.done1 rfl rfl [] (SubH.nil _) ⟨rfl, rfl⟩ | skip
  rw [if_pos hask]
  unfold askM okRight at hask
  generalize hP1 : printM who = P1 at *
  generalize hP2 : printM entry = P2 at *
  obtain ⟨p1, e1⟩ := P1
  obtain ⟨p2, e2⟩ := P2
  simp only at hask
  obtain ⟨rfl, rfl, hrt⟩ := hask
  by_cases hadm : 0 < who.length /\ sameD who adm = true
  . rw [if_pos hadm]
    obtain ⟨ha1, ha2⟩ := hadm
    rw [ha2] at s3
    refine Spec.enter Tryz.func22 rfl rfl ?_; intro w0
    repeat' (first | (show G _ (.ops .seq _ (⟨some _, .call { callee := .value (.func 15), args := _, argTypes := _ }, _, _, _, none⟩ :: _) :: _) _ _ _; refine G.call callPrint rfl rfl (s1 _ (hv1.mono (by solve | repeat first | assumption | exact Zr _ | refine Zq ?_ Zp))) Ze ?_; rintro _ h3 H3 ⟨rfl, rfl⟩ hle3) | (show G _ (.ops .seq _ (⟨some _, .call { callee := .value (.func 15), args := _, argTypes := _ }, _, _, _, none⟩ :: _) :: _) _ _ _; refine G.call callPrint rfl rfl (s2 _ (hv2.mono (by solve | repeat first | assumption | exact Zr _ | refine Zq ?_ Zp))) Ze ?_; rintro _ h4 H4 ⟨rfl, rfl⟩ hle4) | (refine G.atLoad ?_; refine G.loadImmAt1 (p := ⟨g, 0, none⟩) (off := 0) rfl (tyy rfl) rfl rfl (hB.mono (by solve | repeat first | assumption | exact Zr _ | refine Zq ?_ Zp)) rfl rfl ?_) | (show G _ (.ops .seq _ (⟨some _, .call { callee := .value (.func 34), args := _, argTypes := _ }, _, _, _, none⟩ :: _) :: _) _ _ _; refine G.call callSameA rfl rfl (s3 _ (hv1.mono (by solve | repeat first | assumption | exact Zr _ | refine Zq ?_ Zp)) (hA.mono (by solve | repeat first | assumption | exact Zr _ | refine Zq ?_ Zp))) Ze ?_; rintro _ h5 H5 ⟨rfl, rfl⟩ hle5) | (refine G.atCode ?_; first | refine G.seq ?_ | refine G.region ?_ | refine G.skip ?_ | refine G.ret ?_ | (refine G.cond rfl ?_ ?_ <;> intro hc <;> (try simp only [tests, reduceCtorEq] at hc) <;> (try exact Zf))) | refine G.endOps ?_ | (refine G.atGd ?_; first | refine G.guardYes rfl rfl ?_ | refine G.guardNoS rfl rfl rfl ?_ | (refine G.guardS rfl rfl rfl ?_ ?_ <;> intro hc <;> (try simp only [tests, reduceCtorEq] at hc) <;> (try exact Zf))) | (refine G.atBin ?_; first | (refine G.atEql ?_; first | refine G.eqPtr rfl rfl (tyy rfl) rfl ?_) | (refine G.atNeq ?_; first | refine G.op rfl rfl ?_) | refine G.op rfl rfl ?_) | refine G.op rfl rfl ?_ | (refine G.atLen ?_; first | refine G.lenSlice rfl (tyy rfl) rfl ?_) | (refine G.atFld ?_; first | refine G.fieldAddr rfl (tyy rfl) rfl rfl ?_))
    all_goals first | (exfalso; omega) | exact G.done1 rfl rfl [] (SubH.nil _) ⟨rfl, rfl⟩ | (exfalso; simp_all; done) | skip
  rw [if_neg hadm]
  generalize hF : firstM who entry attr right l = F
  have hF0 : firstM who entry attr right (l.drop 0) = F := hF
  clear hF
  have hadm' : 0 < who.length -> sameD who adm = false := fun h9 => by
    cases h8 : sameD who adm with
    | false => rfl
    | true => exact absurd ⟨h9, h8⟩ hadm
  refine Spec.enter Tryz.func22 rfl rfl ?_; intro w0
  repeat' (first | (show G _ (.ops .seq _ (⟨some _, .call { callee := .value (.func 15), args := _, argTypes := _ }, _, _, _, none⟩ :: _) :: _) _ _ _; refine G.call callPrint rfl rfl (s1 _ (hv1.mono (by solve | repeat first | assumption | exact Zr _ | refine Zq ?_ Zp))) Ze ?_; rintro _ h3 H3 ⟨rfl, rfl⟩ hle3) | (show G _ (.ops .seq _ (⟨some _, .call { callee := .value (.func 15), args := _, argTypes := _ }, _, _, _, none⟩ :: _) :: _) _ _ _; refine G.call callPrint rfl rfl (s2 _ (hv2.mono (by solve | repeat first | assumption | exact Zr _ | refine Zq ?_ Zp))) Ze ?_; rintro _ h4 H4 ⟨rfl, rfl⟩ hle4) | (refine G.atLoad ?_; refine G.loadImmAt1 (p := ⟨g, 0, none⟩) (off := 0) rfl (tyy rfl) rfl rfl (hB.mono (by solve | repeat first | assumption | exact Zr _ | refine Zq ?_ Zp)) rfl rfl ?_) | (refine G.atLoad ?_; refine G.loadImmAt1 (p := ⟨g, 0, none⟩) (off := 1) rfl (tyy rfl) rfl rfl (hB.mono (by solve | repeat first | assumption | exact Zr _ | refine Zq ?_ Zp)) rfl rfl ?_) | (show G _ (.ops .seq _ (⟨some _, .call { callee := .value (.func 34), args := _, argTypes := _ }, _, _, _, none⟩ :: _) :: _) _ _ _; refine G.call callSameA rfl rfl (s3 _ (hv1.mono (by solve | repeat first | assumption | exact Zr _ | refine Zq ?_ Zp)) (hA.mono (by solve | repeat first | assumption | exact Zr _ | refine Zq ?_ Zp))) Ze ?_; rintro _ h5 H5 ⟨rfl, rfl⟩ hle5; rw [hadm' (by omega)]) | (refine G.atCode ?_; refine G.stopLoop ?_) | (refine G.atCode ?_; first | refine G.seq ?_ | refine G.region ?_ | refine G.block ?_ | refine G.skip ?_ | (refine G.cond rfl ?_ ?_ <;> intro hc <;> (try simp only [tests, reduceCtorEq] at hc) <;> (try exact Zf))) | refine G.endOps ?_ | (refine G.atGd ?_; first | refine G.guardYes rfl rfl ?_ | refine G.guardNoS rfl rfl rfl ?_ | (refine G.guardS rfl rfl rfl ?_ ?_ <;> intro hc <;> (try simp only [tests, reduceCtorEq] at hc) <;> (try exact Zf))) | (refine G.atBin ?_; first | (refine G.atEql ?_; first | refine G.eqPtr rfl rfl (tyy rfl) rfl ?_) | (refine G.atNeq ?_; first | refine G.op rfl rfl ?_) | refine G.op rfl rfl ?_) | refine G.op rfl rfl ?_ | (refine G.atLen ?_; first | refine G.lenSlice rfl (tyy rfl) rfl ?_) | (refine G.atFld ?_; first | refine G.fieldAddr rfl (tyy rfl) rfl rfl ?_))
  all_goals first | (exfalso; omega) | (exfalso; simp_all; done) | skip
  all_goals
    refine G.go ?_
    refine G.loop (σ := Nat) (fun i => [(69, .int .i64 i), (68, .int .i64 l.length), (67, .slice AR l.length cR), (1, .slice A who.length c), (2, v2), (3, str attr), (4, .int .i64 right)])
      (fun _ => []) (fun i _ => i <= l.length /\ firstM who entry attr right (l.drop i) = F) (fun i => l.length - i) 0 ⟨rfl, rfl, rfl, rfl, rfl, rfl, rfl, trivial⟩ (SubH.nil _) ⟨Nat.zero_le _, hF0⟩ ?_
    rintro i h6 hle6 ⟨hi, hFi⟩
    have hhle : Heap.le h h6 := (by solve | repeat first | assumption | exact Zr _ | refine Zq ?_ Zp)
    by_cases hlt : i < l.length
    . obtain ⟨x, hx⟩ : ∃ x, l[i]? = some x := ⟨l[i], List.getElem?_eq_getElem hlt⟩
      obtain ⟨vd, vw, hget, hd, hw, hxb⟩ := hrs.get hx
      obtain ⟨Ad, cd, rfl, _, hmd⟩ := hd.form
      obtain ⟨Aw, cw, rfl, _, hmw⟩ := hw.form
      have s6 := dn_Under entry x.2.2 v2 (.slice Aw x.2.2.length cw) h2 hxb.2.2.2.2
      have s7 := rule_speaks who entry x (.slice Ad x.2.1.length cd) (.slice Aw x.2.2.length cw) (.slice A who.length c) v2 h1 h2 hxb
      have hrb := right_nat (right := right) ⟨hxb.1, hxb.2.1⟩
      have hxa := hxb.2.2.1
      have hx1 := hxb.1
      have hx2 := hxb.2.1
      obtain ⟨hlt', he⟩ := List.getElem?_eq_some_iff.1 hx
      rw [List.drop_eq_getElem_cons hlt, he, firstM] at hFi
      have hl8 : (ruV x.1 (.slice Ad x.2.1.length cd) (.slice Aw x.2.2.length cw)).length = 8 := rfl
      have hd := hd.mono hhle
      have hw := hw.mono hhle
      unfold ruV at hget hl8 s7
      by_cases hhit : hitM who entry attr right x = true
      . rw [if_pos hhit] at hFi
        subst hFi
        unfold hitM sameT at hhit
        rw [hrb] at hhit
        simp only [Bool.and_eq_true, Bool.or_eq_true, decide_eq_true_eq] at hhit
        obtain ⟨⟨⟨b1, b2⟩, b3⟩, b4⟩ := hhit
        rw [b3] at s6
        rw [b4] at s7
        repeat' (first | (refine G.atIdx ?_; refine G.idxImm rfl rfl (tyy rfl) (tyy rfl) (hR.mono (by solve | repeat first | assumption | exact Zr _ | refine Zq ?_ Zp)) Zj rfl (by omega) ?_; intro pp rr hx9 hp9; (rw [hget] at hx9); (obtain rfl := Option.some.inj hx9)) | (show G _ (.ops .seq _ (⟨some _, .call { callee := .value (.func 35), args := _, argTypes := _ }, _, _, _, none⟩ :: _) :: _) _ _ _; refine G.call callFold rfl rfl (octet_Fold x.1.attr hxa _) Ze ?_; rintro _ h3 H3 ⟨rfl, rfl⟩ hle3) | (show G _ (.ops .seq _ (⟨some _, .call { callee := .value (.func 35), args := _, argTypes := _ }, _, _, _, none⟩ :: _) :: _) _ _ _; refine G.call callFold rfl rfl (octet_Fold attr hat _) Ze ?_; rintro _ h4 H4 ⟨rfl, rfl⟩ hle4) | (show G _ (.ops .seq _ (⟨some _, .call { callee := .value (.func 36), args := _, argTypes := _ }, _, _, _, none⟩ :: _) :: _) _ _ _; refine G.call callUnder rfl rfl (s6 _ (hv2.mono (by solve | repeat first | assumption | exact Zr _ | refine Zq ?_ Zp)) (hw.mono (by solve | repeat first | assumption | exact Zr _ | refine Zq ?_ Zp))) Ze ?_; rintro _ h5 H5 ⟨rfl, rfl⟩ hle5) | (show G _ (.ops .seq _ (⟨some _, .call { callee := .value (.func 37), args := _, argTypes := _ }, _, _, _, none⟩ :: _) :: _) _ _ _; refine G.call callSpeaks rfl rfl (s7 _ (hv1.mono (by solve | repeat first | assumption | exact Zr _ | refine Zq ?_ Zp)) (hv2.mono (by solve | repeat first | assumption | exact Zr _ | refine Zq ?_ Zp)) (hd.mono (by solve | repeat first | assumption | exact Zr _ | refine Zq ?_ Zp)) (hw.mono (by solve | repeat first | assumption | exact Zr _ | refine Zq ?_ Zp))) Ze ?_; rintro _ h7 H7 ⟨rfl, rfl⟩ hle7) | (refine G.atCode ?_; first | refine G.seq ?_ | refine G.region ?_ | refine G.block ?_ | refine G.skip ?_ | refine G.ret ?_ | (refine G.cond rfl ?_ ?_ <;> intro hc <;> (try simp only [tests, reduceCtorEq] at hc) <;> (try exact Zf))) | refine G.endOps ?_ | refine G.endBlk ?_ | (refine G.atGd ?_; first | refine G.guardYes rfl rfl ?_ | refine G.guardNoS rfl rfl rfl ?_ | (refine G.guardS rfl rfl rfl ?_ ?_ <;> intro hc <;> (try simp only [tests, reduceCtorEq] at hc) <;> (try exact Zf))) | (refine G.atBin ?_; first | (refine G.atAdd ?_; first | refine G.arith rfl rfl rfl rfl rfl Zi ?_) | (refine G.atEql ?_; first | refine G.eqStr0 rfl rfl rfl ?_ | refine G.eqStr rfl rfl rfl ?_) | (refine G.atNeq ?_; first | refine G.op rfl rfl ?_) | refine G.op rfl rfl ?_ | refine G.bit rfl rfl rfl Zj Zj rfl rfl (by simp only [lim]; omega) (by simp only [lim]; omega) ?_) | refine G.op rfl rfl ?_ | (refine G.atLoad ?_; first | refine G.loadOwn1 rfl (tyy rfl) rfl rfl Za rfl rfl ?_ | refine G.loadOwnA rfl (tyy rfl) rfl rfl Za rfl rfl ?_ | refine G.loadImmA rfl (tyy rfl) rfl rfl Zp Zp rfl ?_) | (refine G.atFld ?_; first | refine G.fieldAddr rfl (tyy rfl) rfl rfl ?_) | (refine G.atSto ?_; refine G.storeOwn rfl rfl (tyy rfl) Za rfl rfl rfl rfl ?_) | (refine G.atAlc ?_; refine G.alloc (tyy rfl) rfl rfl ?_; intro _))
        all_goals first | exact G.done1 rfl rfl [] (SubH.nil _) ⟨rfl, rfl⟩ | (exfalso; omega) | (exfalso; simp_all; done) | skip
      . rw [if_neg hhit] at hFi
        unfold hitM sameT at hhit
        rw [hrb] at hhit
        simp only [Bool.and_eq_true, Bool.or_eq_true, decide_eq_true_eq] at hhit
        repeat' (first | (refine G.atIdx ?_; refine G.idxImm rfl rfl (tyy rfl) (tyy rfl) (hR.mono (by solve | repeat first | assumption | exact Zr _ | refine Zq ?_ Zp)) Zj rfl (by omega) ?_; intro pp rr hx9 hp9; (rw [hget] at hx9); (obtain rfl := Option.some.inj hx9)) | (show G _ (.ops .seq _ (⟨some _, .call { callee := .value (.func 35), args := _, argTypes := _ }, _, _, _, none⟩ :: _) :: _) _ _ _; refine G.call callFold rfl rfl (octet_Fold x.1.attr hxa _) Ze ?_; rintro _ h3 H3 ⟨rfl, rfl⟩ hle3) | (show G _ (.ops .seq _ (⟨some _, .call { callee := .value (.func 35), args := _, argTypes := _ }, _, _, _, none⟩ :: _) :: _) _ _ _; refine G.call callFold rfl rfl (octet_Fold attr hat _) Ze ?_; rintro _ h4 H4 ⟨rfl, rfl⟩ hle4) | (show G _ (.ops .seq _ (⟨some _, .call { callee := .value (.func 36), args := _, argTypes := _ }, _, _, _, none⟩ :: _) :: _) _ _ _; refine G.call callUnder rfl rfl (s6 _ (hv2.mono (by solve | repeat first | assumption | exact Zr _ | refine Zq ?_ Zp)) (hw.mono (by solve | repeat first | assumption | exact Zr _ | refine Zq ?_ Zp))) Ze ?_; rintro _ h5 H5 ⟨rfl, rfl⟩ hle5) | (show G _ (.ops .seq _ (⟨some _, .call { callee := .value (.func 37), args := _, argTypes := _ }, _, _, _, none⟩ :: _) :: _) _ _ _; refine G.call callSpeaks rfl rfl (s7 _ (hv1.mono (by solve | repeat first | assumption | exact Zr _ | refine Zq ?_ Zp)) (hv2.mono (by solve | repeat first | assumption | exact Zr _ | refine Zq ?_ Zp)) (hd.mono (by solve | repeat first | assumption | exact Zr _ | refine Zq ?_ Zp)) (hw.mono (by solve | repeat first | assumption | exact Zr _ | refine Zq ?_ Zp))) Ze ?_; rintro _ h7 H7 ⟨rfl, rfl⟩ hle7) | (refine G.atCode ?_; first | refine G.seq ?_ | refine G.region ?_ | refine G.block ?_ | refine G.skip ?_ | refine G.ret ?_ | (refine G.cond rfl ?_ ?_ <;> intro hc <;> (try simp only [tests, reduceCtorEq] at hc) <;> (try exact Zf))) | refine G.endOps ?_ | refine G.endBlk ?_ | (refine G.atGd ?_; first | refine G.guardYes rfl rfl ?_ | refine G.guardNoS rfl rfl rfl ?_ | refine G.guardU rfl rfl rfl ?_ | (refine G.guardS rfl rfl rfl ?_ ?_ <;> intro hc <;> (try simp only [tests, reduceCtorEq] at hc) <;> (try exact Zf))) | (refine G.atBin ?_; first | (refine G.atAdd ?_; first | refine G.arith rfl rfl rfl rfl rfl Zi ?_) | (refine G.atEql ?_; first | refine G.eqStr0 rfl rfl rfl ?_ | refine G.eqStr rfl rfl rfl ?_) | (refine G.atNeq ?_; first | refine G.op rfl rfl ?_) | refine G.op rfl rfl ?_ | refine G.bit rfl rfl rfl Zj Zj rfl rfl (by simp only [lim]; omega) (by simp only [lim]; omega) ?_) | refine G.op rfl rfl ?_ | (refine G.atLoad ?_; first | refine G.loadOwn1 rfl (tyy rfl) rfl rfl Za rfl rfl ?_ | refine G.loadOwnA rfl (tyy rfl) rfl rfl Za rfl rfl ?_ | refine G.loadImmA rfl (tyy rfl) rfl rfl Zp Zp rfl ?_) | (refine G.atFld ?_; first | refine G.fieldAddr rfl (tyy rfl) rfl rfl ?_) | (refine G.atSto ?_; refine G.storeOwn rfl rfl (tyy rfl) Za rfl rfl rfl rfl ?_) | (refine G.atAlc ?_; refine G.alloc (tyy rfl) rfl rfl ?_; intro _))
        all_goals first | (exfalso; omega) | exact G.again (i + 1) ⟨sint (by simp), rfl, rfl, rfl, rfl, rfl, rfl, trivial⟩ (SubH.nil _) ⟨by omega, hFi⟩ (by solve | repeat first | assumption | exact Zr _ | refine Zq ?_ Zp) (by omega) | (exfalso; exact hhit ⟨⟨⟨by first | omega | (intro e9; simp [e9] at *; done), by first | exact .inl ‹_› | exact .inr ‹_›⟩, ‹_›⟩, ‹_›⟩) | (exfalso; simp_all; done) | skip
    . obtain rfl : i = l.length := by omega
      rw [List.drop_eq_nil_of_le (Nat.le_refl _), firstM] at hFi
      subst hFi
      repeat' (first | (refine G.atCode ?_; first | refine G.seq ?_ | refine G.region ?_ | refine G.exit rfl ?_ | refine G.ret ?_ | (refine G.cond rfl ?_ ?_ <;> intro hc <;> (try simp only [tests, reduceCtorEq] at hc) <;> (try exact Zf))) | refine G.endOps ?_ | (refine G.atBin ?_; first | refine G.op rfl rfl ?_) | refine G.op rfl rfl ?_)
      all_goals first | (exfalso; omega) | exact G.done1 rfl rfl [] (SubH.nil _) ⟨rfl, rfl⟩ | skip
end Go.Proofs.YtieibicgankemaaGreat
