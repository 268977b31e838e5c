/- castellanlaw27: awake, same; ConnNil. -/
import Derived.Test.YtibkffoeioidlaaDoorCoOpen
import Derived.Test.YtibkffoeioidlaaDoorXaO
import Derived.Test.YtibkffoeioidlaaDoorCoA
import Derived.Test.YtibkffoeioidlaaDoorWrN
namespace Go.Proofs.YtibkffoeioidlaaDoor
set_option linter.all false
set_option maxRecDepth 4000
open Go.RowKit

theorem callAwake27 : Callable Tryd.prog 13 := ⟨_, Tryd.func13, by kernel_rfl, rfl⟩
theorem callSame27 : Callable Tryd.prog 16 := ⟨_, Tryd.func16, by kernel_rfl, rfl⟩
def awB : Ms := { zM with id := 2, op := 2 }
def awAb : Bs := [48, 12, 2, 1, 1, 96, 7, 2, 1, 3, 4, 0, 128, 0]
def awBb : Bs := [48, 5, 2, 1, 2, 66, 0]
theorem aw4 : writeM awB = (awBb, 0) := by kernel_rfl
theorem aw5 : writeM awN = (awAb, 0) := aw2
theorem aw6 : readM awAb = .ok awN := by
  have h := write_read (m := awN) (by rw [aw5])
  rw [aw5] at h
  exact h
theorem aw7 : readM awBb = .ok awB := by
  have h := write_read (m := awB) (by rw [aw4])
  rw [aw4] at h
  exact h
theorem awB_I : MsI awB := by
  constructor <;> first | (simp only [inR, awB, zM]; omega) | (intro x hx; cases hx)
theorem aw_cut1 : cutM (awAb ++ awBb ++ awAb) = (14, 0) := by kernel_rfl
theorem aw_cut2 : cutM (awBb ++ awAb) = (7, 0) := by kernel_rfl
theorem aw_cut3 : cutM awAb = (14, 0) := by kernel_rfl
theorem aw_cut4 : cutM [] = (0, 0) := by kernel_rfl
theorem aw_one1 : cnOne awAb = .ok awN := by
  unfold cnOne
  rw [aw6]; rfl
theorem aw_one2 : cnOne awBb = .error false := by
  unfold cnOne
  rw [aw7]; rfl
theorem aw_conn : connS (awAb ++ awBb ++ awAb) = ⟨[awN], false, true, awAb, 0⟩ := by
  have e1 : (awAb ++ awBb ++ awAb).take (cutM (awAb ++ awBb ++ awAb)).1.toNat = awAb := by rw [aw_cut1]; rfl
  have e2 : (awAb ++ awBb ++ awAb).drop (cutM (awAb ++ awBb ++ awAb)).1.toNat = awBb ++ awAb := by rw [aw_cut1]; rfl
  have e3 : (awBb ++ awAb).take (cutM (awBb ++ awAb)).1.toNat = awBb := by rw [aw_cut2]; rfl
  have e4 : (awBb ++ awAb).drop (cutM (awBb ++ awAb)).1.toNat = awAb := by rw [aw_cut2]; rfl
  rw [connS_msg (m := awN) (by rw [aw_cut1]) (by rw [aw_cut1]; decide) (by rw [e1, aw_one1]), e2, connS_stop (b := false) (by rw [aw_cut2]) (by rw [aw_cut2]; decide) (by rw [e3, aw_one2]), e4]
def awQ (x : Bs) : Prop := x = awAb \/ x = awBb
theorem aw_all : ∀ n, rdAll awQ n (awAb ++ awBb ++ awAb) := by
  have e1 : (awAb ++ awBb ++ awAb).take (cutM (awAb ++ awBb ++ awAb)).1.toNat = awAb := by rw [aw_cut1]; rfl
  have e2 : (awAb ++ awBb ++ awAb).drop (cutM (awAb ++ awBb ++ awAb)).1.toNat = awBb ++ awAb := by rw [aw_cut1]; rfl
  have e3 : (awBb ++ awAb).take (cutM (awBb ++ awAb)).1.toNat = awBb := by rw [aw_cut2]; rfl
  have e4 : (awBb ++ awAb).drop (cutM (awBb ++ awAb)).1.toNat = awAb := by rw [aw_cut2]; rfl
  have e5 : awAb.take (cutM awAb).1.toNat = awAb := by rw [aw_cut3]; rfl
  have e6 : awAb.drop (cutM awAb).1.toNat = [] := by rw [aw_cut3]; rfl
  have r4 : ∀ n, rdAll awQ n [] := fun n => by
    cases n with
    | zero => trivial
    | succ n => exact fun _ h => absurd (by rw [aw_cut4]) h
  have r3 : ∀ n, rdAll awQ n awAb := fun n => by
    cases n with
    | zero => trivial
    | succ n => exact fun _ _ => by rw [e5, e6]; exact ⟨.inl rfl, r4 n⟩
  have r2 : ∀ n, rdAll awQ n (awBb ++ awAb) := fun n => by
    cases n with
    | zero => trivial
    | succ n => exact fun _ _ => by rw [e3, e4]; exact ⟨.inr rfl, r3 n⟩
  intro n
  cases n with
  | zero => trivial
  | succ n => exact fun _ _ => by rw [e1, e2]; exact ⟨.inl rfl, r2 n⟩
theorem aw_reads (x : Bs) (_ : x.length <= 100000000) (hx : awQ x) : ReadsM x := by
  intro h hT
  rcases hx with rfl | rfl
  . exact wire_ReadP awAb (by decide) (fun op o rest h1 h2 => by
      have e := write_op (m := awN) (by rw [aw5]) (by rw [aw5]; exact h1) h2
      subst e
      exact wire_op0) h hT
  . exact wire_ReadP awBb (by decide) (fun op o rest h1 h2 => by
      have e := write_op (m := awB) (by rw [aw4]) (by rw [aw4]; exact h1) h2
      subst e
      exact wire_op2) h hT
set_option maxRecDepth 8000 in
set_option maxHeartbeats 4000000 in
theorem law27_awake (h : Heap) (hT : TabW h) : Spec Tryd.prog 13 [] h [] (fun u _ H' => u = .bool true /\ H' = []) := by
  have hWA := fun h => ref11_WriteP awN awN_I (fun _ => ref11_op0) (by decide) nilV nilV nilV nilV nilV nilV h (zV rfl rfl rfl rfl rfl)
  rw [aw5] at hWA
  have hWB := fun h => ref11_WriteP awB awB_I (fun _ => ref11_op2) (by decide) nilV nilV nilV nilV nilV nilV h (zV rfl rfl rfl rfl rfl)
  rw [aw4] at hWB
  have hF := fun gc gb wv v h hT hv => conn_FeedQ awQ aw_reads gc gb wv [] v [awAb ++ awBb, awAb] (by decide) aw_all h hT hv
  rw [show ([] : Bs) ++ [awAb ++ awBb, awAb].flatten = awAb ++ awBb ++ awAb from rfl, aw_conn] at hF
  dsimp only at hWA hWB
  have la : awAb.length = 14 := rfl
  have lb : awBb.length = 7 := rfl
  refine Spec.enter Tryd.func13 rfl rfl ?_; intro w0
  repeat' (first | (show G _ (.ops .seq _ (⟨some _, .call { callee := .value (.func 25), args := _, argTypes := _ }, _, _, _, none⟩ :: _) :: _) _ _ _; refine G.call callWrite11 rfl rfl (hWA _) Ze ?_; rintro _ h2 H2 ⟨rfl, rfl⟩ hle2) | (show G _ (.ops .seq _ (⟨some _, .call { callee := .value (.func 25), args := _, argTypes := _ }, _, _, _, none⟩ :: _) :: _) _ _ _; refine G.call callWrite11 rfl rfl (hWB _) Ze ?_; rintro _ h3 H3 ⟨rfl, rfl⟩ hle3) | (show G _ (.ops .seq _ (⟨some _, .call { callee := .value (.func 14), args := _, argTypes := _ }, _, _, _, none⟩ :: _) :: _) _ _ _; refine G.call callCnNew rfl rfl (conn_New _) Ze ?_; rintro _ h4 H4 ⟨gc, gb, rfl, rfl⟩ hle4) | (show G _ (.ops .seq _ (⟨some _, .call { callee := .value (.func 15), args := _, argTypes := _ }, _, _, _, none⟩ :: _) :: _) _ _ _; refine Hold.out ?_) | (refine G.atCode ?_; first | refine G.seq ?_ | refine G.region ?_) | refine G.endOps ?_ | (refine G.atBin ?_; first | (refine G.atAdd ?_; first | refine G.catStr rfl rfl rfl Zo ?_)) | refine G.op rfl rfl ?_ | (refine G.atBld ?_; refine G.build (tyy rfl) rfl rfl rfl ?_) | (refine G.atBsl ?_; refine G.buildSlice (tyy rfl) (tyy rfl) rfl rfl rfl rfl ?_; intro _))
  all_goals first | (exfalso; omega) | (exfalso; simp_all; done) | skip
  refine ⟨?_⟩
  refine G.freezeBlk Take.hd ?_; intro hf1 hle1 hc1; have hs1 := HSl.ofBlk1 (rows := strsR [awAb ++ awBb, awAb]) (n := 2) hc1 (rowed_strs _) rfl (by decide); clear hc1
  show G _ (.ops .seq _ (⟨some _, .call { callee := .value (.func 15), args := _, argTypes := _ }, _, _, _, none⟩ :: _) :: _) _ _ _
  refine G.call callCnFeed rfl rfl (hF gc gb _ _ _ (hT.mono (by solve | repeat first | assumption | exact Zr _ | refine Zq ?_ Zp)) hs1) Ze ?_
  rintro _ h6 H6 ⟨ov, rfl, hM, rfl⟩ hle6
  obtain ⟨A6, c6, rfl, _⟩ := hM.form
  obtain ⟨rows6, hs6, r6, rr, rfl, ⟨pv, kv, nv, av, mv, cv, rfl, hV⟩, rfl⟩ := hM
  obtain ⟨⟨pA, pn, pc, rfl⟩, ⟨kA, kn, kc, rfl⟩, ⟨nA, nn, nc, rfl⟩, ⟨aA, an, ac, rfl⟩, ⟨mA, mn, mc, rfl⟩, ⟨cA, cn, cc, rfl⟩⟩ := hV.forms
  have hl1 : (msR awN (.slice pA pn pc) (.slice kA kn kc) (.slice nA nn nc) (.slice aA an ac) (.slice mA mn mc) (.slice cA cn cc)).length = 32 := rfl
  repeat' (first | (refine G.atLoad ?_; refine G.loadImmAt1 rfl (tyy rfl) rfl rfl Zp rfl rfl ?_) | (refine G.atIdx ?_; refine G.idxImm rfl rfl (tyy rfl) (tyy rfl) (hs6.mono (by solve | repeat first | assumption | exact Zr _ | refine Zq ?_ Zp)) Zj rfl (by simp) ?_; intro p1 r1 hx1 hp1; (obtain rfl := Option.some.inj hx1)) | (show G _ (.ops .seq _ (⟨some _, .call { callee := .value (.func 17), args := _, argTypes := _ }, _, _, _, none⟩ :: _) :: _) _ _ _; refine G.call callCnClosed rfl rfl (conn_Closed gc _ _ true _) Ze ?_; rintro _ h7 H7 ⟨rfl, rfl⟩ hle7) | (refine G.atCode ?_; first | refine G.seq ?_ | refine G.region ?_ | refine G.ret ?_) | refine G.endOps ?_ | (refine G.atGd ?_; first | refine G.guardYes rfl rfl ?_) | (refine G.atBin ?_; first | (refine G.atEql ?_; first | refine G.op rfl rfl ?_)) | refine G.op rfl rfl ?_ | (refine G.atLen ?_; first | refine G.lenSlice rfl (tyy rfl) rfl ?_) | (refine G.atFld ?_; first | refine G.fieldAddrP rfl (tyy rfl) rfl rfl ?_))
  all_goals first | (exfalso; omega) | (exfalso; simp_all; done) | exact G.done1 rfl rfl [] (SubH.nil _) ⟨rfl, rfl⟩ | skip
  all_goals trace_state
set_option maxRecDepth 8000 in
set_option maxHeartbeats 4000000 in
theorem law27_same (l : List Ms) (v1 v2 : Value) (h : Heap) (h1 : MssC h l v1) (h2 : MssC h l v2) : Spec Tryd.prog 16 [v1, v2] h [] (fun u _ H' => u = .bool true /\ H' = []) := by
  obtain ⟨A1, c1, rfl, _, hm⟩ := h1.form
  obtain ⟨A2, c2, rfl, _, _⟩ := h2.form
  obtain ⟨rows1, hs1, hr1⟩ := h1
  obtain ⟨rows2, hs2, hr2⟩ := h2
  have hrl1 := hr1.len
  have hrl2 := hr2.len
  refine Spec.enter Tryd.func16 rfl rfl ?_; intro w0
  repeat' (first | (refine G.atCode ?_; refine G.stopLoop ?_) | (refine G.atCode ?_; first | refine G.seq ?_ | refine G.region ?_ | refine G.block ?_ | refine G.skip ?_ | (refine G.cond rfl ?_ ?_ <;> intro hc <;> (try simp only [tests, reduceCtorEq] at hc) <;> (try exact Zf))) | refine G.endOps ?_ | (refine G.atBin ?_; first | (refine G.atNeq ?_; first | refine G.op rfl rfl ?_)) | refine G.op rfl rfl ?_ | (refine G.atLen ?_; first | refine G.lenSlice rfl (tyy rfl) rfl ?_))
  all_goals (try (exfalso; omega))
  refine G.go ?_
  refine G.loop (σ := Nat) (fun i => [(13, .int .i64 i), (12, .int .i64 l.length), (0, .slice A1 l.length c1), (1, .slice A2 l.length c2)])
    (fun _ => []) (fun i _ => i <= l.length) (fun i => l.length - i) 0 ⟨rfl, rfl, rfl, rfl, trivial⟩ (SubH.nil _) (Nat.zero_le _) ?_
  rintro i h3 hle3 hi
  by_cases hlt : i < l.length
  . obtain ⟨m, ha⟩ : ∃ a, l[i]? = some a := ⟨l[i], List.getElem?_eq_getElem hlt⟩
    obtain ⟨r1, hget1, pv, kv, nv, av, mv, cv, rfl, hV1⟩ := hr1.get ha
    obtain ⟨r2, hget2, pv2, kv2, nv2, av2, mv2, cv2, rfl, hV2⟩ := hr2.get ha
    have hS := fun h h1 h2 => ref11_Same m pv kv nv av mv cv pv2 kv2 nv2 av2 mv2 cv2 h h1 h2
    obtain ⟨⟨pA, pn, pc, rfl⟩, ⟨kA, kn, kc, rfl⟩, ⟨nA, nn, nc, rfl⟩, ⟨aA, an, ac, rfl⟩, ⟨mA, mn, mc, rfl⟩, ⟨cA, cn, cc, rfl⟩⟩ := hV1.forms
    obtain ⟨⟨pA2, pn2, pc2, rfl⟩, ⟨kA2, kn2, kc2, rfl⟩, ⟨nA2, nn2, nc2, rfl⟩, ⟨aA2, an2, ac2, rfl⟩, ⟨mA2, mn2, mc2, rfl⟩, ⟨cA2, cn2, cc2, rfl⟩⟩ := hV2.forms
    have hl1 : (msR m (.slice pA pn pc) (.slice kA kn kc) (.slice nA nn nc) (.slice aA an ac) (.slice mA mn mc) (.slice cA cn cc)).length = 32 := rfl
    have hl2 : (msR m (.slice pA2 pn2 pc2) (.slice kA2 kn2 kc2) (.slice nA2 nn2 nc2) (.slice aA2 an2 ac2) (.slice mA2 mn2 mc2) (.slice cA2 cn2 cc2)).length = 32 := rfl
    repeat' (first | (refine G.atIdx ?_; refine G.idxImm rfl rfl (tyy rfl) (tyy rfl) (hs1.mono (by solve | repeat first | assumption | exact Zr _ | refine Zq ?_ Zp)) Zj rfl (by omega) ?_; intro p1 r1 hx1 hp1; (rw [hget1] at hx1); (obtain rfl := Option.some.inj hx1)) | (refine G.atIdx ?_; refine G.idxImm rfl rfl (tyy rfl) (tyy rfl) (hs2.mono (by solve | repeat first | assumption | exact Zr _ | refine Zq ?_ Zp)) Zj rfl (by omega) ?_; intro p2 r2 hx2 hp2; (rw [hget2] at hx2); (obtain rfl := Option.some.inj hx2)) | (show G _ (.ops .seq _ (⟨some _, .call { callee := .value (.func 27), args := _, argTypes := _ }, _, _, _, none⟩ :: _) :: _) _ _ _; refine G.call callSame11 rfl rfl (hS _ (hV1.mono (by solve | repeat first | assumption | exact Zr _ | refine Zq ?_ Zp)) (hV2.mono (by solve | repeat first | assumption | exact Zr _ | refine Zq ?_ Zp))) Ze ?_; rintro _ h10 H10 ⟨rfl, rfl⟩ hle10) | (refine G.atCode ?_; first | refine G.seq ?_ | refine G.region ?_ | refine G.block ?_ | refine G.skip ?_ | refine G.drawAuto mixedOk rfl Zw ?_ | (refine G.cond rfl ?_ ?_ <;> intro hc <;> (try simp only [tests, reduceCtorEq] at hc) <;> (try exact Zf))) | refine G.endOps ?_ | refine G.endStill ?_ | refine G.endBlk ?_ | (refine G.atBin ?_; first | (refine G.atAdd ?_; first | refine G.arith rfl rfl rfl rfl rfl Zi ?_) | refine G.op rfl rfl ?_) | refine G.op rfl rfl ?_ | (refine G.atLoad ?_; first | refine G.loadImmA rfl (tyy rfl) rfl rfl Zp Zp rfl ?_))
    all_goals first | (exfalso; omega) | (exfalso; simp_all; done) | exact G.again (i + 1) ⟨sint (by omega), rfl, rfl, rfl, trivial⟩ (SubH.nil _) (by omega) (by solve | repeat first | assumption | exact Zr _ | refine Zq ?_ Zp) (by omega) | skip
    all_goals trace_state
  . obtain rfl : i = l.length := by omega
    repeat' (first | (refine G.atCode ?_; first | refine G.seq ?_ | refine G.region ?_ | refine G.exit rfl ?_ | refine G.ret ?_ | (refine G.cond rfl ?_ ?_ <;> intro hc <;> (try simp only [tests, reduceCtorEq] at hc) <;> (try exact Zf))) | refine G.endOps ?_ | (refine G.atBin ?_; first | refine G.op rfl rfl ?_) | refine G.op rfl rfl ?_)
    all_goals first | (exfalso; omega) | exact G.done1 rfl rfl _ (SubH.nil _) ⟨rfl, rfl⟩
end Go.Proofs.YtibkffoeioidlaaDoor
namespace Go.Proofs.YtibkffoeioidlaaDoor
set_option linter.all false
set_option maxRecDepth 4000
open Go.RowKit

theorem cut_take {s t : Bs} {n : Int} (h : cutM s = (n, 0)) (hn : 0 < n) : (s ++ t).take n.toNat = s.take n.toNat /\ (s ++ t).drop n.toNat = s.drop n.toNat ++ t := by
  have hr := cutM_range s
  rw [h] at hr
  have hl : n.toNat <= s.length := by have := hr.2.1; simp only at this; omega
  exact ⟨List.take_append_of_le_length hl, List.drop_append_of_le_length hl⟩
theorem connS_app : ∀ (n : Nat) (s t : Bs), s.length <= n →
    ((connS s).closed = true -> (connS (s ++ t)).out = (connS s).out /\ (connS (s ++ t)).bad = (connS s).bad /\ (connS (s ++ t)).closed = true) ∧
    ((connS s).closed = false -> connS (s ++ t) = { connS ((connS s).rest ++ t) with out := (connS s).out ++ (connS ((connS s).rest ++ t)).out } /\ (connS s).bad = false /\ (connS s).err = 0 /\ (connS s).rest.length <= s.length)
  | n, s, t, hn => by
    have hr := cutM_range s
    by_cases he : (cutM s).2 ≠ 0
    . have e1 := connS_err he
      have e2 := cutM_app_err (s := s) (t := t) (n := (cutM s).1) (e := (cutM s).2) rfl he
      have e3 := connS_err (s := s ++ t) (by rw [e2]; exact he)
      rw [e1, e3]
      exact ⟨fun _ => ⟨rfl, rfl, rfl⟩, fun h => by cases h⟩
    have he0 : (cutM s).2 = 0 := by omega
    by_cases h0 : (cutM s).1 = 0
    . rw [connS_none he0 h0]
      refine ⟨fun h => (Bool.false_ne_true h).elim, fun _ => ⟨?_, rfl, rfl, Nat.le_refl _⟩⟩
      simp only [List.nil_append]
    have hn0 : 0 < (cutM s).1 := by omega
    have hcm : cutM s = ((cutM s).1, 0) := by rw [<- he0]
    have ha := cutM_app_msg (s := s) (t := t) hcm hn0
    obtain ⟨ht, hd⟩ := cut_take (t := t) hcm hn0
    have hdl : (s.drop (cutM s).1.toNat).length < s.length := by rw [List.length_drop]; omega
    cases ho : cnOne (s.take (cutM s).1.toNat) with
    | error b =>
      have e3 := connS_stop (s := s ++ t) (b := b) (by rw [ha]) (by rw [ha]; exact h0) (by rw [ha]; simp only; rw [ht, ho])
      rw [connS_stop he0 h0 ho, e3]
      exact ⟨fun _ => ⟨rfl, rfl, rfl⟩, fun h => by cases h⟩
    | ok m =>
      have e3 := connS_msg (s := s ++ t) (m := m) (by rw [ha]) (by rw [ha]; exact h0) (by rw [ha]; simp only; rw [ht, ho])
      rw [ha] at e3
      simp only at e3
      rw [hd] at e3
      match n, hn with
      | 0, hn => omega
      | n + 1, hn =>
        obtain ⟨i1, i2⟩ := connS_app n (s.drop (cutM s).1.toNat) t (by omega)
        rw [connS_msg he0 h0 ho, e3]
        refine ⟨fun hc => ?_, fun hc => ?_⟩
        . obtain ⟨j1, j2, j3⟩ := i1 hc
          exact ⟨by simp only [j1], j2, j3⟩
        . obtain ⟨j1, j2, j3, j4⟩ := i2 hc
          refine ⟨?_, j2, j3, ?_⟩
          . rw [j1]; simp only [List.cons_append]
          . simp only; omega
def CnI (F : Bs) (out : List Ms) (bad cl : Bool) (w : Bs) (e : Int) : Prop := out = (connS F).out /\ bad = (connS F).bad /\ cl = (connS F).closed /\ (cl = false -> w = (connS F).rest /\ e = 0 /\ w.length <= F.length)
theorem CnI.start : CnI [] [] false false [] 0 := by
  have h : connS [] = ⟨[], false, false, [], 0⟩ := connS_none rfl rfl
  rw [CnI, h]
  exact ⟨rfl, rfl, rfl, fun _ => ⟨rfl, rfl, Nat.le_refl _⟩⟩
theorem CnI.closed {F x : Bs} {out : List Ms} {bad : Bool} {w : Bs} {e : Int} (h : CnI F out bad true w e) : CnI (F ++ x) (out ++ []) (bad || false) true w e := by
  obtain ⟨h1, h2, h3, _⟩ := h
  obtain ⟨i1, i2, i3⟩ := (connS_app F.length F x (Nat.le_refl _)).1 h3.symm
  exact ⟨by rw [List.append_nil, i1, h1], by rw [Bool.or_false, i2, h2], i3.symm, fun h => by cases h⟩
theorem CnI.feed {F x : Bs} {out : List Ms} {bad : Bool} {w : Bs} {e : Int} (h : CnI F out bad false w e) : CnI (F ++ x) (out ++ (connS (w ++ x)).out) (bad || (connS (w ++ x)).bad) (connS (w ++ x)).closed (connS (w ++ x)).rest (connS (w ++ x)).err := by
  obtain ⟨h1, h2, h3, h4⟩ := h
  obtain ⟨rfl, rfl, h5⟩ := h4 rfl
  obtain ⟨i1, i2, _, i4⟩ := (connS_app F.length F x (Nat.le_refl _)).2 h3.symm
  subst h1 h2
  rw [CnI, i1]
  refine ⟨rfl, by simp only; rw [i2, Bool.false_or], rfl, fun hc => ⟨rfl, ?_, ?_⟩⟩
  . exact ((connS_app _ _ [] (Nat.le_refl _)).2 hc).2.2.1
  . have := ((connS_app _ _ [] (Nat.le_refl _)).2 hc).2.2.2
    rw [List.length_append] at this ⊢
    omega
end Go.Proofs.YtibkffoeioidlaaDoor
namespace Go.Proofs.YtibkffoeioidlaaDoor
set_option linter.all false
set_option maxRecDepth 4000
open Go.RowKit

theorem conn_Feed (gc gb : Nat) (wv : Value) (s : Bs) (v : Value) (ps : List Bs) (hlen : s.length + ps.flatten.length <= 100000000) (h : Heap) (hT : TabW h) (hv : HSl h v 1 (strsR ps)) :
    Spec Tryd.prog 15 [.pointer (some ⟨gc, 0, none⟩), v] h (CnH gc gb wv s 0 false) (fun u h' H' => FeedR (connS (s ++ ps.flatten)) gc gb wv u h' H') :=
  conn_FeedQ (fun _ => True) (fun x hx _ h hT => wire_Read x hx h hT) gc gb wv s v ps hlen (fun n => rdAll_true n _) h hT hv
end Go.Proofs.YtibkffoeioidlaaDoor
namespace Go.Proofs.YtibkffoeioidlaaDoor
set_option linter.all false
set_option maxRecDepth 4000
open Go.RowKit

def BkI (all : Bs) (want : List Ms) (bad over : Bool) : Prop := want = (connS all).out /\ bad = (connS all).bad /\ over = (connS all).closed /\ (over = false -> (connS all).rest = [])
theorem BkI.start : BkI [] [] false false := by
  have h : connS [] = ⟨[], false, false, [], 0⟩ := connS_none rfl rfl
  rw [BkI, h]
  exact ⟨rfl, rfl, rfl, fun _ => rfl⟩
theorem BkI.over {all w : Bs} {want : List Ms} {bad : Bool} (h : BkI all want bad true) : BkI (all ++ w) want bad true := by
  obtain ⟨h1, h2, h3, _⟩ := h
  obtain ⟨i1, i2, i3⟩ := (connS_app _ all w (Nat.le_refl _)).1 h3.symm
  exact ⟨by rw [i1, h1], by rw [i2, h2], i3.symm, fun h => by cases h⟩
theorem bare_id (m : Ms) : (bareM m).id = m.id /\ (bareM m).op = m.op := by
  have key : ∀ (c : Prop) [Decidable c] (a b : Ms), (a.id = m.id /\ a.op = m.op) -> (b.id = m.id /\ b.op = m.op) -> ((if c then a else b).id = m.id /\ (if c then a else b).op = m.op) := fun c _ a b ha hb => by
    by_cases h : c
    . rw [if_pos h]; exact ha
    . rw [if_neg h]; exact hb
  unfold bareM
  simp only
  repeat' first
    | exact ⟨rfl, rfl⟩
    | refine key _ _ _ ?_ ?_
theorem conn_one {m : Ms} (he : (writeM m).2 = 0) {x : Except Bool Ms} (hx : (if m.id = 0 \/ reqM m.op = false then Except.error true else if m.op = 2 then Except.error false else Except.ok (bareM m)) = x) :
    connS (writeM m).1 = match x with
      | .error b => ⟨[], b, true, [], 0⟩
      | .ok n => ⟨[n], false, false, [], 0⟩ := by
  obtain ⟨hl, hm⟩ := (write_len he).2.2
  have hc := hm []
  rw [List.append_nil] at hc
  have hr := write_read he
  generalize (writeM m).1 = w at *
  have et : w.take (cutM w).1.toNat = w := by rw [hc]; simp
  have ed : w.drop (cutM w).1.toNat = [] := by rw [hc]; simp
  have hn : (cutM w).1 ≠ 0 := by rw [hc]; simp only; omega
  have ho : cnOne (w.take (cutM w).1.toNat) = x := by
    rw [et]
    unfold cnOne
    rw [hr]
    simp only
    rw [(bare_id m).1, (bare_id m).2]
    exact hx
  have h0 : connS [] = ⟨[], false, false, [], 0⟩ := connS_none rfl rfl
  cases x with
  | error b => rw [connS_stop (by rw [hc]) hn ho, ed]
  | ok n => rw [connS_msg (by rw [hc]) hn ho, ed, h0]
theorem BkI.step {all : Bs} {want : List Ms} {bad : Bool} {m : Ms} (h : BkI all want bad false) (he : (writeM m).2 = 0) : (m.id = 0 \/ reqM m.op = false -> BkI (all ++ (writeM m).1) want true true) ∧
    (¬(m.id = 0 \/ reqM m.op = false) -> m.op = 2 -> BkI (all ++ (writeM m).1) want bad true) /\ (¬(m.id = 0 \/ reqM m.op = false) -> m.op ≠ 2 -> BkI (all ++ (writeM m).1) (want ++ [bareM m]) bad false) := by
  obtain ⟨h1, h2, h3, h4⟩ := h
  obtain ⟨i1, i2, _, _⟩ := (connS_app _ all (writeM m).1 (Nat.le_refl _)).2 h3.symm
  rw [h4 rfl, List.nil_append] at i1
  subst h1 h2
  refine ⟨fun hb => ?_, fun hb h2 => ?_, fun hb h2 => ?_⟩
  . have e := conn_one he (x := .error true) (by rw [if_pos hb])
    simp only at e
    rw [BkI, i1, e]
    exact ⟨by simp, rfl, rfl, fun h => by cases h⟩
  . have e := conn_one he (x := .error false) (by rw [if_neg hb, if_pos h2])
    simp only at e
    rw [BkI, i1, e, i2]
    exact ⟨by simp, rfl, rfl, fun h => by cases h⟩
  . have e := conn_one he (x := .ok (bareM m)) (by rw [if_neg hb, if_neg h2])
    simp only at e
    rw [BkI, i1, e, i2]
    exact ⟨rfl, rfl, rfl, fun _ => rfl⟩
set_option maxRecDepth 8000 in
set_option maxHeartbeats 16000000 in
theorem law_ConnBack (l : List Ms) (hI : ∀ m ∈ l, MsI m) (hw : ∀ m ∈ l, m.wt <= 10000000) (v : Value) (h : Heap) (hT : TabW h) (hv : MssC h l v) :
    Spec Tryd.prog 11 [v] h [] (fun u _ _ => u = .bool true) := by
  obtain ⟨A, c, rfl, _, _⟩ := hv.form
  obtain ⟨rowl, hs, hr⟩ := hv
  have hrl := hr.len
  by_cases hn : 30 < l.length
  . refine Spec.enter Tryd.func11 rfl rfl ?_; intro w0
    repeat' (first | (show G _ (.ops .seq _ (⟨some _, .call { callee := .value (.func 13), args := _, argTypes := _ }, _, _, _, none⟩ :: _) :: _) _ _ _; refine G.call callAwake27 rfl rfl (law27_awake _ (hT.mono (by solve | repeat first | assumption | exact Zr _ | refine Zq ?_ Zp))) Ze ?_; rintro _ h6 H6 ⟨rfl, rfl⟩ hle6) | (refine G.atCode ?_; first | refine G.seq ?_ | refine G.region ?_ | refine G.ret ?_ | (refine G.cond rfl ?_ ?_ <;> intro hc <;> (try simp only [tests, reduceCtorEq] at hc) <;> (try exact Zf))) | refine G.endOps ?_ | (refine G.atBin ?_; first | refine G.op rfl rfl ?_) | refine G.op rfl rfl ?_ | (refine G.atLen ?_; first | refine G.lenSlice rfl (tyy rfl) rfl ?_))
    all_goals first | (exfalso; omega) | exact G.done1 rfl rfl [] (SubH.nil _) rfl | skip
  refine Spec.enter Tryd.func11 rfl rfl ?_; intro w0
  repeat' (first | (show G _ (.ops .seq _ (⟨some _, .call { callee := .value (.func 14), args := _, argTypes := _ }, _, _, _, none⟩ :: _) :: _) _ _ _; refine G.call callCnNew rfl rfl (conn_New _) Ze ?_; rintro _ h4 H4 ⟨gc, gb, rfl, rfl⟩ hle4) | (refine G.atCode ?_; refine G.stopLoop ?_) | (refine G.atCode ?_; first | refine G.seq ?_ | refine G.region ?_ | refine G.block ?_ | refine G.skip ?_ | (refine G.cond rfl ?_ ?_ <;> intro hc <;> (try simp only [tests, reduceCtorEq] at hc) <;> (try exact Zf))) | refine G.endOps ?_ | (refine G.atBin ?_; first | refine G.op rfl rfl ?_) | refine G.op rfl rfl ?_ | (refine G.atLen ?_; first | refine G.lenSlice rfl (tyy rfl) rfl ?_))
  all_goals first | (exfalso; omega) | skip
  refine G.nilRow 51 32 ?_
  refine G.go ?_
  refine G.loop (σ := Nat × Bs × Bool × Bool × List Ms × List (List Value) × Option Addr × Nat)
    (fun x => [(21, .int .i64 x.1), (20, .int .i64 l.length), (19, .slice A l.length c), (7, .bool x.2.2.2.1), (6, .bool x.2.2.1), (5, str x.2.1), (4, .slice x.2.2.2.2.2.2.1 x.2.2.2.2.2.1.length x.2.2.2.2.2.2.2), (3, .pointer (some ⟨gc, 0, none⟩))])
    (fun x => CnH gc gb (.slice none 0 0) [] 0 false ++ [.row (.slice x.2.2.2.2.2.2.1 x.2.2.2.2.2.1.length x.2.2.2.2.2.2.2) 51 32 x.2.2.2.2.2.1])
    (fun x h1 => x.1 <= l.length /\ x.2.1.length <= x.1 * 5000 /\ BkI x.2.1 x.2.2.2.2.1 x.2.2.2.1 x.2.2.1 /\ LC MsC h1 x.2.2.2.2.1 x.2.2.2.2.2.1 /\ x.2.2.2.2.1.length <= x.1) (fun x => l.length - x.1) ⟨0, [], false, false, [], [], none, 0⟩
    ⟨rfl, rfl, rfl, rfl, rfl, rfl, rfl, rfl, trivial⟩ Zu ⟨Nat.zero_le _, Nat.zero_le _, BkI.start, rfl, Nat.zero_le _⟩ ?_
  rintro ⟨i, all, over, bad, want, rows, A1, c1⟩ h5 hle5 ⟨hi, hal, hB, hrows, hwn⟩
  simp only at hi hal hB hrows hwn
  have hrl1 := hrows.len
  refine G.norm (by (try dsimp only) <;> exact rfl) (by (try dsimp only) <;> exact rfl) ?_
  have hal' : all.length <= (i + 1) * 5000 := Nat.le_trans hal (Nat.mul_le_mul_right 5000 (Nat.le_succ i))
  by_cases hlt : i < l.length
  . obtain ⟨m, ha⟩ : ∃ a, l[i]? = some a := ⟨l[i], List.getElem?_eq_getElem hlt⟩
    have hmem := List.mem_of_getElem? ha
    obtain ⟨r1, hget1, pv, kv, nv, av, mv, cv, rfl, hV⟩ := hr.get ha
    have hW := fun h hT hV => wire_Write m (hI m hmem) (hw m hmem) pv kv nv av mv cv h hT hV
    have hBr := fun h hV => ref11_Bare m (hw m hmem) pv kv nv av mv cv h hV
    obtain ⟨⟨pA, pn, pc, rfl⟩, ⟨kA, kn, kc, rfl⟩, ⟨nA, nn, nc, rfl⟩, ⟨aA, an, ac, rfl⟩, ⟨mA, mn, mc, rfl⟩, ⟨cA, cn, cc, rfl⟩⟩ := hV.forms
    have hl1 : (msR m (.slice pA pn pc) (.slice kA kn kc) (.slice nA nn nc) (.slice aA an ac) (.slice mA mn mc) (.slice cA cn cc)).length = 32 := rfl
    have hov := fun h => (BkI.over (all := all) (w := (writeM m).1) (want := want) (bad := bad) h)
    have hst := fun h he => BkI.step (all := all) (want := want) (bad := bad) (m := m) h he
    generalize writeM m = w at *
    obtain ⟨w1, w2⟩ := w
    simp only at hW hov hst
    have hcase : (w2 ≠ 0 \/ 5000 < w1.length) \/ (w2 = 0 /\ w1.length <= 5000) := by omega
    have hc2 : (m.id = 0 \/ reqM m.op = false) \/ (m.id ≠ 0 /\ reqM m.op = true /\ m.op = 2) \/ (m.id ≠ 0 /\ reqM m.op = true /\ m.op ≠ 2) := by
      by_cases h1 : m.id = 0
      . exact .inl (.inl h1)
      cases h3 : reqM m.op with
      | false => exact .inl (.inr rfl)
      | true =>
        by_cases h2 : m.op = 2
        . exact .inr (.inl ⟨h1, rfl, h2⟩)
        . exact .inr (.inr ⟨h1, rfl, h2⟩)
    have hnb : m.id ≠ 0 -> reqM m.op = true -> ¬(m.id = 0 \/ reqM m.op = false) := fun h1 h2 h3 => by
      rcases h3 with h3 | h3
      . exact h1 h3
      . rw [h2] at h3; cases h3
    rcases hcase with hsk | ⟨rfl, hwl⟩
    case' inr =>
      have hal2 : (all ++ w1).length <= (i + 1) * 5000 := by rw [List.length_append]; omega
      cases over
    case' inr.false => rcases hc2 with hb | ⟨hid, hrq, h2⟩ | ⟨hid, hrq, h2⟩
    case' inr.true => have hB' := hov hB
    case' inr.false.inl => have hB' := (hst hB rfl).1 hb
    case' inr.false.inr.inl => have hB' := (hst hB rfl).2.1 (hnb hid hrq) h2
    case' inr.false.inr.inr => have hB' := (hst hB rfl).2.2 (hnb hid hrq) h2
    all_goals (
      repeat' (first | (refine G.atIdx ?_; refine G.idxImm rfl rfl (tyy rfl) (tyy rfl) (hs.mono (by solve | repeat first | assumption | exact Zr _ | refine Zq ?_ Zp)) Zj rfl (by omega) ?_; intro p1 r1 hx1 hp1; (rw [hget1] at hx1); (obtain rfl := Option.some.inj hx1)) | (show G _ (.ops .seq _ (⟨some _, .call { callee := .value (.func 24), args := _, argTypes := _ }, _, _, _, none⟩ :: _) :: _) _ _ _; refine G.call callWriteW rfl rfl (hW _ (hT.mono (by solve | repeat first | assumption | exact Zr _ | refine Zq ?_ Zp)) (hV.mono (by solve | repeat first | assumption | exact Zr _ | refine Zq ?_ Zp))) Ze ?_; rintro _ h6 H6 ⟨rfl, rfl⟩ hle6) | (show G _ (.ops .seq _ (⟨some _, .call { callee := .value (.func 35), args := _, argTypes := _ }, _, _, _, none⟩ :: _) :: _) _ _ _; refine G.call callRequest rfl rfl (conn_Request _ _) Ze ?_; rintro _ h8 H8 ⟨rfl, rfl⟩ hle8) | (show G _ (.ops .seq _ (⟨some _, .call { callee := .value (.func 32), args := _, argTypes := _ }, _, _, _, none⟩ :: _) :: _) _ _ _; refine G.call callBare11 rfl rfl (hBr _ (hV.mono (by solve | repeat first | assumption | exact Zr _ | refine Zq ?_ Zp))) Ze ?_; rintro _ h7 H7 ⟨⟨pv9, kv9, nv9, av9, mv9, cv9, rfl, hV9⟩, rfl⟩ hle7; obtain ⟨⟨pA9, pn9, pc9, rfl⟩, ⟨kA9, kn9, kc9, rfl⟩, ⟨nA9, nn9, nc9, rfl⟩, ⟨aA9, an9, ac9, rfl⟩, ⟨mA9, mn9, mc9, rfl⟩, ⟨cA9, cn9, cc9, rfl⟩⟩ := hV9.forms) | (refine G.atApp ?_; refine G.append1 rfl rfl (tyy rfl) (tyy rfl) rfl rfl Za Za rfl rfl rfl Zo ?_; intro _; refine G.rowForm Take.hd ?_; rintro _ _ rfl) | (refine G.atCode ?_; first | refine G.seq ?_ | refine G.region ?_ | refine G.block ?_ | refine G.skip ?_ | refine G.exit rfl ?_ | (refine G.cond rfl ?_ ?_ <;> intro hc <;> (try simp only [tests, reduceCtorEq] at hc) <;> (try exact Zf))) | refine G.endOps ?_ | refine G.endBlk ?_ | (refine G.atGd ?_; first | refine G.guardYes rfl rfl ?_ | refine G.guardNoS rfl rfl rfl ?_ | (refine G.guardS rfl rfl rfl ?_ ?_ <;> intro hc <;> (try simp only [tests, reduceCtorEq] at hc) <;> (try exact Zf))) | (refine G.atBin ?_; first | (refine G.atAdd ?_; first | refine G.arith rfl rfl rfl rfl rfl Zi ?_ | refine G.catStr rfl rfl rfl Zo ?_) | (refine G.atEql ?_; first | refine G.op rfl rfl ?_) | (refine G.atNeq ?_; first | refine G.op rfl rfl ?_) | refine G.op rfl rfl ?_) | refine G.op rfl rfl ?_ | (refine G.atLen ?_; first | refine G.lenStr rfl (tyy rfl) rfl ?_) | (refine G.atLoad ?_; first | refine G.loadOwn1 rfl (tyy rfl) rfl rfl Za rfl rfl ?_ | refine G.loadOwnA rfl (tyy rfl) rfl rfl Za rfl rfl ?_ | refine G.loadImmA rfl (tyy rfl) rfl rfl Zp Zp rfl ?_) | (refine G.atFld ?_; first | refine G.fieldAddr rfl (tyy rfl) rfl rfl ?_) | (refine G.atSto ?_; refine G.storeOwn rfl rfl (tyy rfl) Za rfl rfl rfl rfl ?_) | (refine G.atAlc ?_; refine G.alloc (tyy rfl) rfl rfl ?_; intro _) | (refine G.atBsl ?_; refine G.buildSlice (tyy rfl) (tyy rfl) rfl rfl rfl rfl ?_; intro _)))
    all_goals first | (exfalso; omega) | (exfalso; simp_all; done) | skip
    all_goals first
      | exact G.again ⟨i + 1, all, over, bad, want, rows, A1, c1⟩ ⟨sint (by simp only; omega), rfl, rfl, rfl, rfl, rfl, rfl, rfl, trivial⟩ Zu ⟨by simp only; omega, hal', hB, hrows.mono (fun x => x.mono (by solve | repeat first | assumption | exact Zr _ | refine Zq ?_ Zp)), by simp only; omega⟩ (by solve | repeat first | assumption | exact Zr _ | refine Zq ?_ Zp) (by simp only; omega)
      | exact G.again ⟨i + 1, all ++ w1, true, bad, want, rows, A1, c1⟩ ⟨sint (by simp only; omega), rfl, rfl, rfl, rfl, rfl, rfl, rfl, trivial⟩ Zu ⟨by simp only; omega, hal2, hB', hrows.mono (fun x => x.mono (by solve | repeat first | assumption | exact Zr _ | refine Zq ?_ Zp)), by simp only; omega⟩ (by solve | repeat first | assumption | exact Zr _ | refine Zq ?_ Zp) (by simp only; omega)
      | exact G.again ⟨i + 1, all ++ w1, true, true, want, rows, A1, c1⟩ ⟨sint (by simp only; omega), rfl, rfl, rfl, rfl, rfl, rfl, rfl, trivial⟩ Zu ⟨by simp only; omega, hal2, hB', hrows.mono (fun x => x.mono (by solve | repeat first | assumption | exact Zr _ | refine Zq ?_ Zp)), by simp only; omega⟩ (by solve | repeat first | assumption | exact Zr _ | refine Zq ?_ Zp) (by simp only; omega)
      | exact G.again ⟨i + 1, all ++ w1, true, bad, want, rows, A1, c1⟩ ⟨sint (by simp only; omega), rfl, rfl, rfl, rfl, rfl, rfl, rfl, trivial⟩ Zu ⟨by simp only; omega, hal2, hB', hrows.mono (fun x => x.mono (by solve | repeat first | assumption | exact Zr _ | refine Zq ?_ Zp)), by simp only; omega⟩ (by solve | repeat first | assumption | exact Zr _ | refine Zq ?_ Zp) (by simp only; omega)
      | (rename_i A' c'
         exact G.again ⟨i + 1, all ++ w1, false, bad, want ++ [bareM m], rows ++ [msR (bareM m) (.slice pA9 pn9 pc9) (.slice kA9 kn9 kc9) (.slice nA9 nn9 nc9) (.slice aA9 an9 ac9) (.slice mA9 mn9 mc9) (.slice cA9 cn9 cc9)], A', c'⟩ ⟨sint (by simp only; omega), rfl, rfl, rfl, rfl, rfl, rfl, rfl, trivial⟩ Zu ⟨by simp only; omega, hal2, hB', (hrows.mono (fun x => x.mono (by solve | repeat first | assumption | exact Zr _ | refine Zq ?_ Zp))).append (LC.one ⟨_, _, _, _, _, _, rfl, hV9.mono (by solve | repeat first | assumption | exact Zr _ | refine Zq ?_ Zp)⟩), by simp only [List.length_append, List.length_singleton]; omega⟩ (by solve | repeat first | assumption | exact Zr _ | refine Zq ?_ Zp) (by simp only; omega))
  . obtain rfl : i = l.length := by omega
    obtain ⟨n1, n2, n3, _⟩ := hB
    have e1 : ([] : Bs) ++ [all].flatten = all := by simp
    have hF2 := fun h v hT hv => conn_Feed gc gb (.slice none 0 0) [] v [all] (by simp only [List.flatten_singleton, List.length_nil]; omega) h hT hv
    rw [e1] at hF2
    generalize connS all = N at *
    subst n1 n2 n3
    repeat' (first | (show G _ (.ops .seq _ (⟨some _, .call { callee := .value (.func 15), args := _, argTypes := _ }, _, _, _, none⟩ :: _) :: _) _ _ _; refine Hold.out ?_) | (refine G.atCode ?_; first | refine G.seq ?_ | refine G.region ?_ | refine G.exit rfl ?_ | (refine G.cond rfl ?_ ?_ <;> intro hc <;> (try simp only [tests, reduceCtorEq] at hc) <;> (try exact Zf))) | refine G.endOps ?_ | (refine G.atBin ?_; first | refine G.op rfl rfl ?_) | refine G.op rfl rfl ?_ | (refine G.atBsl ?_; refine G.buildSlice (tyy rfl) (tyy rfl) rfl rfl rfl rfl ?_; intro _))
    all_goals first | (exfalso; omega) | skip
    refine ⟨?_⟩
    refine G.freezeBlk Take.hd ?_; intro hf1 hle1 hc1; have hs1 := HSl.ofBlk1 (rows := strsR [all]) (n := 1) hc1 (rowed_strs _) rfl (by decide); clear hc1
    refine G.call callCnFeed rfl rfl (hF2 _ _ (hT.mono (by solve | repeat first | assumption | exact Zr _ | refine Zq ?_ Zp)) hs1) Ze ?_
    rintro _ h7 H7 ⟨ov2, rfl, hM2, rfl⟩ hle7
    obtain ⟨A2, c2, rfl, _⟩ := hM2.form
    refine G.freezeRow (e := 51) (sz := 32) Za ?_
    intro h8 hle8 hs8
    have hAll : MssC h8 N.out (.slice _ _ _) := ⟨_, hs8, hrows.mono (fun x => x.mono (by solve | repeat first | assumption | exact Zr _ | refine Zq ?_ Zp))⟩
    repeat' (first | (show G _ (.ops .seq _ (⟨some _, .call { callee := .value (.func 13), args := _, argTypes := _ }, _, _, _, none⟩ :: _) :: _) _ _ _; refine G.call callAwake27 rfl rfl (law27_awake _ (hT.mono (by solve | repeat first | assumption | exact Zr _ | refine Zq ?_ Zp))) Ze ?_; rintro _ h9 H9 ⟨rfl, rfl⟩ hle9) | (show G _ (.ops .seq _ (⟨some _, .call { callee := .value (.func 16), args := _, argTypes := _ }, _, _, _, none⟩ :: _) :: _) _ _ _; refine G.call callSame27 rfl rfl (law27_same _ _ _ _ (SC.mono (fun x => x.mono (by solve | repeat first | assumption | exact Zr _ | refine Zq ?_ Zp)) (by solve | repeat first | assumption | exact Zr _ | refine Zq ?_ Zp) hM2) (SC.mono (fun x => x.mono (by solve | repeat first | assumption | exact Zr _ | refine Zq ?_ Zp)) (by solve | repeat first | assumption | exact Zr _ | refine Zq ?_ Zp) hAll)) Ze ?_; rintro _ h10 H10 ⟨rfl, rfl⟩ hle10) | (show G _ (.ops .seq _ (⟨some _, .call { callee := .value (.func 17), args := _, argTypes := _ }, _, _, _, none⟩ :: _) :: _) _ _ _; refine G.call callCnClosed rfl rfl (conn_Closed _ _ _ _ _) Ze ?_; rintro _ h11 H11 ⟨rfl, rfl⟩ hle11) | (refine G.atCode ?_; first | refine G.seq ?_ | refine G.region ?_ | refine G.ret ?_) | refine G.endOps ?_ | (refine G.atGd ?_; first | refine G.guardYes rfl rfl ?_ | (refine G.guardS rfl rfl rfl ?_ ?_ <;> intro hc <;> (try simp only [tests, reduceCtorEq] at hc) <;> (try exact Zf))) | (refine G.atBin ?_; first | (refine G.atEql ?_; first | refine G.eqBool rfl rfl (tyy rfl) rfl ?_)) | refine G.op rfl rfl ?_)
    all_goals first | (exfalso; omega) | (exfalso; simp_all; done) | exact G.done1 rfl rfl [] (SubH.nil _) (by first | rfl | simp) | skip
    all_goals trace_state
end Go.Proofs.YtibkffoeioidlaaDoor
