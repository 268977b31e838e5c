/- castellanlaw27: awake, same; ConnNil. -/
import Derived.Test.YtibkffoeioidlaaDoorCoOpen
import Derived.Test.YtibkffoeioidlaaDoorXaO
import Derived.Test.YtibkffoeioidlaaDoorCoA
import Derived.Test.YtibkffoeioidlaaDoorWrN
namespace Go.Proofs.YtibkffoeioidlaaDoor
set_option linter.all false
set_option maxRecDepth 4000
open Go.RowKit

theorem callAwake27 : Callable Tryd.prog 13 := ⟨_, Tryd.func13, by kernel_rfl, rfl⟩
theorem callSame27 : Callable Tryd.prog 16 := ⟨_, Tryd.func16, by kernel_rfl, rfl⟩
def awB : Ms := { zM with id := 2, op := 2 }
def awAb : Bs := [48, 12, 2, 1, 1, 96, 7, 2, 1, 3, 4, 0, 128, 0]
def awBb : Bs := [48, 5, 2, 1, 2, 66, 0]
theorem aw4 : writeM awB = (awBb, 0) := by kernel_rfl
theorem aw5 : writeM awN = (awAb, 0) := aw2
theorem aw6 : readM awAb = .ok awN := by
  have h := write_read (m := awN) (by rw [aw5])
  rw [aw5] at h
  exact h
theorem aw7 : readM awBb = .ok awB := by
  have h := write_read (m := awB) (by rw [aw4])
  rw [aw4] at h
  exact h
theorem awB_I : MsI awB := by
  constructor <;> first | (simp only [inR, awB, zM]; omega) | (intro x hx; cases hx)
theorem aw_cut1 : cutM (awAb ++ awBb ++ awAb) = (14, 0) := by kernel_rfl
theorem aw_cut2 : cutM (awBb ++ awAb) = (7, 0) := by kernel_rfl
theorem aw_cut3 : cutM awAb = (14, 0) := by kernel_rfl
theorem aw_cut4 : cutM [] = (0, 0) := by kernel_rfl
theorem aw_one1 : cnOne awAb = .ok awN := by
  unfold cnOne
  rw [aw6]; rfl
theorem aw_one2 : cnOne awBb = .error false := by
  unfold cnOne
  rw [aw7]; rfl
theorem aw_conn : connS (awAb ++ awBb ++ awAb) = ⟨[awN], false, true, awAb, 0⟩ := by
  have e1 : (awAb ++ awBb ++ awAb).take (cutM (awAb ++ awBb ++ awAb)).1.toNat = awAb := by rw [aw_cut1]; rfl
  have e2 : (awAb ++ awBb ++ awAb).drop (cutM (awAb ++ awBb ++ awAb)).1.toNat = awBb ++ awAb := by rw [aw_cut1]; rfl
  have e3 : (awBb ++ awAb).take (cutM (awBb ++ awAb)).1.toNat = awBb := by rw [aw_cut2]; rfl
  have e4 : (awBb ++ awAb).drop (cutM (awBb ++ awAb)).1.toNat = awAb := by rw [aw_cut2]; rfl
  rw [connS_msg (m := awN) (by rw [aw_cut1]) (by rw [aw_cut1]; decide) (by rw [e1, aw_one1]), e2, connS_stop (b := false) (by rw [aw_cut2]) (by rw [aw_cut2]; decide) (by rw [e3, aw_one2]), e4]
def awQ (x : Bs) : Prop := x = awAb \/ x = awBb
theorem aw_all : ∀ n, rdAll awQ n (awAb ++ awBb ++ awAb) := by
  have e1 : (awAb ++ awBb ++ awAb).take (cutM (awAb ++ awBb ++ awAb)).1.toNat = awAb := by rw [aw_cut1]; rfl
  have e2 : (awAb ++ awBb ++ awAb).drop (cutM (awAb ++ awBb ++ awAb)).1.toNat = awBb ++ awAb := by rw [aw_cut1]; rfl
  have e3 : (awBb ++ awAb).take (cutM (awBb ++ awAb)).1.toNat = awBb := by rw [aw_cut2]; rfl
  have e4 : (awBb ++ awAb).drop (cutM (awBb ++ awAb)).1.toNat = awAb := by rw [aw_cut2]; rfl
  have e5 : awAb.take (cutM awAb).1.toNat = awAb := by rw [aw_cut3]; rfl
  have e6 : awAb.drop (cutM awAb).1.toNat = [] := by rw [aw_cut3]; rfl
  have r4 : ∀ n, rdAll awQ n [] := fun n => by
    cases n with
    | zero => trivial
    | succ n => exact fun _ h => absurd (by rw [aw_cut4]) h
  have r3 : ∀ n, rdAll awQ n awAb := fun n => by
    cases n with
    | zero => trivial
    | succ n => exact fun _ _ => by rw [e5, e6]; exact ⟨.inl rfl, r4 n⟩
  have r2 : ∀ n, rdAll awQ n (awBb ++ awAb) := fun n => by
    cases n with
    | zero => trivial
    | succ n => exact fun _ _ => by rw [e3, e4]; exact ⟨.inr rfl, r3 n⟩
  intro n
  cases n with
  | zero => trivial
  | succ n => exact fun _ _ => by rw [e1, e2]; exact ⟨.inl rfl, r2 n⟩
theorem aw_reads (x : Bs) (_ : x.length <= 100000000) (hx : awQ x) : ReadsM x := by
  intro h hT
  rcases hx with rfl | rfl
  . exact wire_ReadP awAb (by decide) (fun op o rest h1 h2 => by
      have e := write_op (m := awN) (by rw [aw5]) (by rw [aw5]; exact h1) h2
      subst e
      exact wire_op0) h hT
  . exact wire_ReadP awBb (by decide) (fun op o rest h1 h2 => by
      have e := write_op (m := awB) (by rw [aw4]) (by rw [aw4]; exact h1) h2
      subst e
      exact wire_op2) h hT
set_option maxRecDepth 8000 in
set_option maxHeartbeats 4000000 in
theorem law27_awake (h : Heap) (hT : TabW h) : Spec Tryd.prog 13 [] h [] (fun u _ H' => u = .bool true /\ H' = []) := by
  have hWA := fun h => ref11_WriteP awN awN_I (fun _ => ref11_op0) (by decide) nilV nilV nilV nilV nilV nilV h (zV rfl rfl rfl rfl rfl)
  rw [aw5] at hWA
  have hWB := fun h => ref11_WriteP awB awB_I (fun _ => ref11_op2) (by decide) nilV nilV nilV nilV nilV nilV h (zV rfl rfl rfl rfl rfl)
  rw [aw4] at hWB
  have hF := fun gc gb wv v h hT hv => conn_FeedQ awQ aw_reads gc gb wv [] v [awAb ++ awBb, awAb] (by decide) aw_all h hT hv
  rw [show ([] : Bs) ++ [awAb ++ awBb, awAb].flatten = awAb ++ awBb ++ awAb from rfl, aw_conn] at hF
  dsimp only at hWA hWB
  have la : awAb.length = 14 := rfl
  have lb : awBb.length = 7 := rfl
  refine Spec.enter Tryd.func13 rfl rfl ?_; intro w0
  repeat' (first | (show G _ (.ops .seq _ (⟨some _, .call { callee := .value (.func 25), args := _, argTypes := _ }, _, _, _, none⟩ :: _) :: _) _ _ _; refine G.call callWrite11 rfl rfl (hWA _) (by solve | repeat first | apply Zn | apply Zh | apply Zt | apply Zc) ?_; rintro _ h2 H2 ⟨rfl, rfl⟩ hle2) | (show G _ (.ops .seq _ (⟨some _, .call { callee := .value (.func 25), args := _, argTypes := _ }, _, _, _, none⟩ :: _) :: _) _ _ _; refine G.call callWrite11 rfl rfl (hWB _) (by solve | repeat first | apply Zn | apply Zh | apply Zt | apply Zc) ?_; rintro _ h3 H3 ⟨rfl, rfl⟩ hle3) | (show G _ (.ops .seq _ (⟨some _, .call { callee := .value (.func 14), args := _, argTypes := _ }, _, _, _, none⟩ :: _) :: _) _ _ _; refine G.call callCnNew rfl rfl (conn_New _) (by solve | repeat first | apply Zn | apply Zh | apply Zt | apply Zc) ?_; rintro _ h4 H4 ⟨gc, gb, rfl, rfl⟩ hle4) | (show G _ (.ops .seq _ (⟨some _, .call { callee := .value (.func 15), args := _, argTypes := _ }, _, _, _, none⟩ :: _) :: _) _ _ _; refine Hold.out ?_) | (refine G.atCode ?_; first | refine G.seq ?_ | refine G.region ?_) | refine G.endOps ?_ | (refine G.atBin ?_; first | (refine G.atAdd ?_; first | refine G.catStr rfl rfl rfl (by first | omega | (simp only [lens] at *; omega)) ?_)) | refine G.op rfl rfl ?_ | (refine G.atBld ?_; refine G.build (tyy rfl) rfl rfl rfl ?_) | (refine G.atBsl ?_; refine G.buildSlice (tyy rfl) (tyy rfl) rfl rfl rfl rfl ?_; intro _))
  all_goals first | (exfalso; omega) | (exfalso; simp_all; done) | skip
  refine ⟨?_⟩
  refine G.freezeBlk Take.hd ?_; intro hf1 hle1 hc1; have hs1 := HSl.ofBlk1 (rows := strsR [awAb ++ awBb, awAb]) (n := 2) hc1 (rowed_strs _) rfl (by decide); clear hc1
  show G _ (.ops .seq _ (⟨some _, .call { callee := .value (.func 15), args := _, argTypes := _ }, _, _, _, none⟩ :: _) :: _) _ _ _
  refine G.call callCnFeed rfl rfl (hF gc gb _ _ _ (hT.mono (by solve | repeat first | assumption | exact Zr _ | refine Zq ?_ (by assumption))) hs1) (by solve | repeat first | apply Zn | apply Zh | apply Zt | apply Zc) ?_
  rintro _ h6 H6 ⟨ov, rfl, hM, rfl⟩ hle6
  obtain ⟨A6, c6, rfl, _⟩ := hM.form
  obtain ⟨rows6, hs6, r6, rr, rfl, ⟨pv, kv, nv, av, mv, cv, rfl, hV⟩, rfl⟩ := hM
  obtain ⟨⟨pA, pn, pc, rfl⟩, ⟨kA, kn, kc, rfl⟩, ⟨nA, nn, nc, rfl⟩, ⟨aA, an, ac, rfl⟩, ⟨mA, mn, mc, rfl⟩, ⟨cA, cn, cc, rfl⟩⟩ := hV.forms
  have hl1 : (msR awN (.slice pA pn pc) (.slice kA kn kc) (.slice nA nn nc) (.slice aA an ac) (.slice mA mn mc) (.slice cA cn cc)).length = 32 := rfl
  repeat' (first | (refine G.atLoad ?_; refine G.loadImmAt1 rfl (tyy rfl) rfl rfl (by assumption) rfl rfl ?_) | (refine G.atIdx ?_; refine G.idxImm rfl rfl (tyy rfl) (tyy rfl) (hs6.mono (by solve | repeat first | assumption | exact Zr _ | refine Zq ?_ (by assumption))) (by first | (simp only [Int.reduceToNat]; rfl) | with_reducible apply Int.toNat_natCast | exact Eq.refl _) rfl (by simp) ?_; intro p1 r1 hx1 hp1; (obtain rfl := Option.some.inj hx1)) | (show G _ (.ops .seq _ (⟨some _, .call { callee := .value (.func 17), args := _, argTypes := _ }, _, _, _, none⟩ :: _) :: _) _ _ _; refine G.call callCnClosed rfl rfl (conn_Closed gc _ _ true _) (by solve | repeat first | apply Zn | apply Zh | apply Zt | apply Zc) ?_; rintro _ h7 H7 ⟨rfl, rfl⟩ hle7) | (refine G.atCode ?_; first | refine G.seq ?_ | refine G.region ?_ | refine G.ret ?_) | refine G.endOps ?_ | (refine G.atGd ?_; first | refine G.guardYes rfl rfl ?_) | (refine G.atBin ?_; first | (refine G.atEql ?_; first | refine G.op rfl rfl ?_)) | refine G.op rfl rfl ?_ | (refine G.atLen ?_; first | refine G.lenSlice rfl (tyy rfl) rfl ?_) | (refine G.atFld ?_; first | refine G.fieldAddrP rfl (tyy rfl) rfl rfl ?_))
  all_goals first | (exfalso; omega) | (exfalso; simp_all; done) | exact G.done1 rfl rfl [] (SubH.nil _) ⟨rfl, rfl⟩ | skip
  all_goals trace_state
set_option maxRecDepth 8000 in
set_option maxHeartbeats 4000000 in
theorem law27_same (l : List Ms) (v1 v2 : Value) (h : Heap) (h1 : MssC h l v1) (h2 : MssC h l v2) : Spec Tryd.prog 16 [v1, v2] h [] (fun u _ H' => u = .bool true /\ H' = []) := by
  obtain ⟨A1, c1, rfl, _, hm⟩ := h1.form
  obtain ⟨A2, c2, rfl, _, _⟩ := h2.form
  obtain ⟨rows1, hs1, hr1⟩ := h1
  obtain ⟨rows2, hs2, hr2⟩ := h2
  have hrl1 := hr1.len
  have hrl2 := hr2.len
  refine Spec.enter Tryd.func16 rfl rfl ?_; intro w0
  repeat' (first | (refine G.atCode ?_; refine G.stopLoop ?_) | (refine G.atCode ?_; first | refine G.seq ?_ | refine G.region ?_ | refine G.block ?_ | refine G.skip ?_ | (refine G.cond rfl ?_ ?_ <;> intro hc <;> (try simp only [tests, reduceCtorEq] at hc) <;> (try (exfalso; first | omega | exact Zx hc | exact Zy hc | exact Zb hc | exact hc | exact hc trivial)))) | refine G.endOps ?_ | (refine G.atBin ?_; first | (refine G.atNeq ?_; first | refine G.op rfl rfl ?_)) | refine G.op rfl rfl ?_ | (refine G.atLen ?_; first | refine G.lenSlice rfl (tyy rfl) rfl ?_))
  all_goals (try (exfalso; omega))
  refine G.go ?_
  refine G.loop (σ := Nat) (fun i => [(13, .int .i64 i), (12, .int .i64 l.length), (0, .slice A1 l.length c1), (1, .slice A2 l.length c2)])
    (fun _ => []) (fun i _ => i <= l.length) (fun i => l.length - i) 0 ⟨rfl, rfl, rfl, rfl, trivial⟩ (SubH.nil _) (Nat.zero_le _) ?_
  rintro i h3 hle3 hi
  by_cases hlt : i < l.length
  . obtain ⟨m, ha⟩ : ∃ a, l[i]? = some a := ⟨l[i], List.getElem?_eq_getElem hlt⟩
    obtain ⟨r1, hget1, pv, kv, nv, av, mv, cv, rfl, hV1⟩ := hr1.get ha
    obtain ⟨r2, hget2, pv2, kv2, nv2, av2, mv2, cv2, rfl, hV2⟩ := hr2.get ha
    have hS := fun h h1 h2 => ref11_Same m pv kv nv av mv cv pv2 kv2 nv2 av2 mv2 cv2 h h1 h2
    obtain ⟨⟨pA, pn, pc, rfl⟩, ⟨kA, kn, kc, rfl⟩, ⟨nA, nn, nc, rfl⟩, ⟨aA, an, ac, rfl⟩, ⟨mA, mn, mc, rfl⟩, ⟨cA, cn, cc, rfl⟩⟩ := hV1.forms
    obtain ⟨⟨pA2, pn2, pc2, rfl⟩, ⟨kA2, kn2, kc2, rfl⟩, ⟨nA2, nn2, nc2, rfl⟩, ⟨aA2, an2, ac2, rfl⟩, ⟨mA2, mn2, mc2, rfl⟩, ⟨cA2, cn2, cc2, rfl⟩⟩ := hV2.forms
    have hl1 : (msR m (.slice pA pn pc) (.slice kA kn kc) (.slice nA nn nc) (.slice aA an ac) (.slice mA mn mc) (.slice cA cn cc)).length = 32 := rfl
    have hl2 : (msR m (.slice pA2 pn2 pc2) (.slice kA2 kn2 kc2) (.slice nA2 nn2 nc2) (.slice aA2 an2 ac2) (.slice mA2 mn2 mc2) (.slice cA2 cn2 cc2)).length = 32 := rfl
    repeat' (first | (refine G.atIdx ?_; refine G.idxImm rfl rfl (tyy rfl) (tyy rfl) (hs1.mono (by solve | repeat first | assumption | exact Zr _ | refine Zq ?_ (by assumption))) (by first | (simp only [Int.reduceToNat]; rfl) | with_reducible apply Int.toNat_natCast | exact Eq.refl _) rfl (by omega) ?_; intro p1 r1 hx1 hp1; (rw [hget1] at hx1); (obtain rfl := Option.some.inj hx1)) | (refine G.atIdx ?_; refine G.idxImm rfl rfl (tyy rfl) (tyy rfl) (hs2.mono (by solve | repeat first | assumption | exact Zr _ | refine Zq ?_ (by assumption))) (by first | (simp only [Int.reduceToNat]; rfl) | with_reducible apply Int.toNat_natCast | exact Eq.refl _) rfl (by omega) ?_; intro p2 r2 hx2 hp2; (rw [hget2] at hx2); (obtain rfl := Option.some.inj hx2)) | (show G _ (.ops .seq _ (⟨some _, .call { callee := .value (.func 27), args := _, argTypes := _ }, _, _, _, none⟩ :: _) :: _) _ _ _; refine G.call callSame11 rfl rfl (hS _ (hV1.mono (by solve | repeat first | assumption | exact Zr _ | refine Zq ?_ (by assumption))) (hV2.mono (by solve | repeat first | assumption | exact Zr _ | refine Zq ?_ (by assumption)))) (by solve | repeat first | apply Zn | apply Zh | apply Zt | apply Zc) ?_; rintro _ h10 H10 ⟨rfl, rfl⟩ hle10) | (refine G.atCode ?_; first | refine G.seq ?_ | refine G.region ?_ | refine G.block ?_ | refine G.skip ?_ | refine G.drawAuto mixedOk rfl (by decide +kernel) ?_ | (refine G.cond rfl ?_ ?_ <;> intro hc <;> (try simp only [tests, reduceCtorEq] at hc) <;> (try (exfalso; first | omega | exact Zx hc | exact Zy hc | exact Zb hc | exact hc | exact hc trivial)))) | refine G.endOps ?_ | refine G.endStill ?_ | refine G.endBlk ?_ | (refine G.atBin ?_; first | (refine G.atAdd ?_; first | refine G.arith rfl rfl rfl rfl rfl (by simp only [inR]; omega) ?_) | refine G.op rfl rfl ?_) | refine G.op rfl rfl ?_ | (refine G.atLoad ?_; first | refine G.loadImmA rfl (tyy rfl) rfl rfl (by assumption) (by assumption) rfl ?_))
    all_goals first | (exfalso; omega) | (exfalso; simp_all; done) | exact G.again (i + 1) ⟨sint (by omega), rfl, rfl, rfl, trivial⟩ (SubH.nil _) (by omega) (by solve | repeat first | assumption | exact Zr _ | refine Zq ?_ (by assumption)) (by omega) | skip
    all_goals trace_state
  . obtain rfl : i = l.length := by omega
    repeat' (first | (refine G.atCode ?_; first | refine G.seq ?_ | refine G.region ?_ | refine G.exit rfl ?_ | refine G.ret ?_ | (refine G.cond rfl ?_ ?_ <;> intro hc <;> (try simp only [tests, reduceCtorEq] at hc) <;> (try (exfalso; first | omega | exact Zx hc | exact Zy hc | exact Zb hc | exact hc | exact hc trivial)))) | refine G.endOps ?_ | (refine G.atBin ?_; first | refine G.op rfl rfl ?_) | refine G.op rfl rfl ?_)
    all_goals first | (exfalso; omega) | exact G.done1 rfl rfl _ (SubH.nil _) ⟨rfl, rfl⟩
end Go.Proofs.YtibkffoeioidlaaDoor
namespace Go.Proofs.YtibkffoeioidlaaDoor
set_option linter.all false
set_option maxRecDepth 4000
open Go.RowKit

theorem cut_take {s t : Bs} {n : Int} (h : cutM s = (n, 0)) (hn : 0 < n) : (s ++ t).take n.toNat = s.take n.toNat /\ (s ++ t).drop n.toNat = s.drop n.toNat ++ t := by
  have hr := cutM_range s
  rw [h] at hr
  have hl : n.toNat <= s.length := by have := hr.2.1; simp only at this; omega
  exact ⟨List.take_append_of_le_length hl, List.drop_append_of_le_length hl⟩
theorem connS_app : ∀ (n : Nat) (s t : Bs), s.length <= n →
    ((connS s).closed = true -> (connS (s ++ t)).out = (connS s).out /\ (connS (s ++ t)).bad = (connS s).bad /\ (connS (s ++ t)).closed = true) ∧
    ((connS s).closed = false -> connS (s ++ t) = { connS ((connS s).rest ++ t) with out := (connS s).out ++ (connS ((connS s).rest ++ t)).out } /\ (connS s).bad = false /\ (connS s).err = 0 /\ (connS s).rest.length <= s.length)
  | n, s, t, hn => by
    have hr := cutM_range s
    by_cases he : (cutM s).2 ≠ 0
    . have e1 := connS_err he
      have e2 := cutM_app_err (s := s) (t := t) (n := (cutM s).1) (e := (cutM s).2) rfl he
      have e3 := connS_err (s := s ++ t) (by rw [e2]; exact he)
      rw [e1, e3]
      exact ⟨fun _ => ⟨rfl, rfl, rfl⟩, fun h => by cases h⟩
    have he0 : (cutM s).2 = 0 := by omega
    by_cases h0 : (cutM s).1 = 0
    . rw [connS_none he0 h0]
      refine ⟨fun h => (Bool.false_ne_true h).elim, fun _ => ⟨?_, rfl, rfl, Nat.le_refl _⟩⟩
      simp only [List.nil_append]
    have hn0 : 0 < (cutM s).1 := by omega
    have hcm : cutM s = ((cutM s).1, 0) := by rw [<- he0]
    have ha := cutM_app_msg (s := s) (t := t) hcm hn0
    obtain ⟨ht, hd⟩ := cut_take (t := t) hcm hn0
    have hdl : (s.drop (cutM s).1.toNat).length < s.length := by rw [List.length_drop]; omega
    cases ho : cnOne (s.take (cutM s).1.toNat) with
    | error b =>
      have e3 := connS_stop (s := s ++ t) (b := b) (by rw [ha]) (by rw [ha]; exact h0) (by rw [ha]; simp only; rw [ht, ho])
      rw [connS_stop he0 h0 ho, e3]
      exact ⟨fun _ => ⟨rfl, rfl, rfl⟩, fun h => by cases h⟩
    | ok m =>
      have e3 := connS_msg (s := s ++ t) (m := m) (by rw [ha]) (by rw [ha]; exact h0) (by rw [ha]; simp only; rw [ht, ho])
      rw [ha] at e3
      simp only at e3
      rw [hd] at e3
      match n, hn with
      | 0, hn => omega
      | n + 1, hn =>
        obtain ⟨i1, i2⟩ := connS_app n (s.drop (cutM s).1.toNat) t (by omega)
        rw [connS_msg he0 h0 ho, e3]
        refine ⟨fun hc => ?_, fun hc => ?_⟩
        . obtain ⟨j1, j2, j3⟩ := i1 hc
          exact ⟨by simp only [j1], j2, j3⟩
        . obtain ⟨j1, j2, j3, j4⟩ := i2 hc
          refine ⟨?_, j2, j3, ?_⟩
          . rw [j1]; simp only [List.cons_append]
          . simp only; omega
def CnI (F : Bs) (out : List Ms) (bad cl : Bool) (w : Bs) (e : Int) : Prop := out = (connS F).out /\ bad = (connS F).bad /\ cl = (connS F).closed /\ (cl = false -> w = (connS F).rest /\ e = 0 /\ w.length <= F.length)
theorem CnI.start : CnI [] [] false false [] 0 := by
  have h : connS [] = ⟨[], false, false, [], 0⟩ := connS_none rfl rfl
  rw [CnI, h]
  exact ⟨rfl, rfl, rfl, fun _ => ⟨rfl, rfl, Nat.le_refl _⟩⟩
theorem CnI.closed {F x : Bs} {out : List Ms} {bad : Bool} {w : Bs} {e : Int} (h : CnI F out bad true w e) : CnI (F ++ x) (out ++ []) (bad || false) true w e := by
  obtain ⟨h1, h2, h3, _⟩ := h
  obtain ⟨i1, i2, i3⟩ := (connS_app F.length F x (Nat.le_refl _)).1 h3.symm
  exact ⟨by rw [List.append_nil, i1, h1], by rw [Bool.or_false, i2, h2], i3.symm, fun h => by cases h⟩
theorem CnI.feed {F x : Bs} {out : List Ms} {bad : Bool} {w : Bs} {e : Int} (h : CnI F out bad false w e) : CnI (F ++ x) (out ++ (connS (w ++ x)).out) (bad || (connS (w ++ x)).bad) (connS (w ++ x)).closed (connS (w ++ x)).rest (connS (w ++ x)).err := by
  obtain ⟨h1, h2, h3, h4⟩ := h
  obtain ⟨rfl, rfl, h5⟩ := h4 rfl
  obtain ⟨i1, i2, _, i4⟩ := (connS_app F.length F x (Nat.le_refl _)).2 h3.symm
  subst h1 h2
  rw [CnI, i1]
  refine ⟨rfl, by simp only; rw [i2, Bool.false_or], rfl, fun hc => ⟨rfl, ?_, ?_⟩⟩
  . exact ((connS_app _ _ [] (Nat.le_refl _)).2 hc).2.2.1
  . have := ((connS_app _ _ [] (Nat.le_refl _)).2 hc).2.2.2
    rw [List.length_append] at this ⊢
    omega
end Go.Proofs.YtibkffoeioidlaaDoor
namespace Go.Proofs.YtibkffoeioidlaaDoor
set_option linter.all false
set_option maxRecDepth 4000
open Go.RowKit

theorem conn_Feed (gc gb : Nat) (wv : Value) (s : Bs) (v : Value) (ps : List Bs) (hlen : s.length + ps.flatten.length <= 100000000) (h : Heap) (hT : TabW h) (hv : HSl h v 1 (strsR ps)) :
    Spec Tryd.prog 15 [.pointer (some ⟨gc, 0, none⟩), v] h (CnH gc gb wv s 0 false) (fun u h' H' => FeedR (connS (s ++ ps.flatten)) gc gb wv u h' H') :=
  conn_FeedQ (fun _ => True) (fun x hx _ h hT => wire_Read x hx h hT) gc gb wv s v ps hlen (fun n => rdAll_true n _) h hT hv
end Go.Proofs.YtibkffoeioidlaaDoor
