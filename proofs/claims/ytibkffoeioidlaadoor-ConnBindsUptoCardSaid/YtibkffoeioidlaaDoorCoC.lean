/- castellanlaw27: awake, same; ConnNil. -/
import Derived.Test.YtibkffoeioidlaaDoorCoB
import Derived.Test.YtibkffoeioidlaaDoorXaO
namespace Go.Proofs.YtibkffoeioidlaaDoor
set_option linter.all false
set_option maxRecDepth 4000
open Go.RowKit

theorem callAwake27 : Callable Tryd.prog 13 := ⟨_, Tryd.func13, by kernel_rfl, rfl⟩
theorem conn_FeedC (gc : Nat) (wv pv v : Value) (h : Heap) : Spec Tryd.prog 15 [.pointer (some ⟨gc, 0, none⟩), v] h [.blk gc [wv, pv, .bool true] 79] (fun u _ H' => u = .tuple #[.slice none 0 0, .bool false] /\ H' = [.blk gc [wv, pv, .bool true] 79]) := by
  refine Spec.enter Tryd.func15 rfl rfl ?_; intro w0
  repeat' (first | (show G _ (.ops .seq _ (⟨some _, .call { callee := .value (.func 17), args := _, argTypes := _ }, _, _, _, none⟩ :: _) :: _) _ _ _; refine G.call callCnClosed rfl rfl (conn_Closed gc wv pv true _) (by solve | repeat first | apply Zn | apply Zh | apply Zt | apply Zc) ?_; rintro _ h1 H1 ⟨rfl, rfl⟩ hle1) | (refine G.atCode ?_; first | refine G.seq ?_ | refine G.region ?_ | refine G.ret ?_ | (refine G.cond rfl ?_ ?_ <;> intro hc <;> (try simp only [tests, reduceCtorEq] at hc) <;> (try (exfalso; first | omega | exact Zx hc | exact Zy hc | exact Zb hc | exact hc | exact hc trivial)))) | refine G.endOps ?_ | refine G.op rfl rfl ?_)
  all_goals first | (exfalso; simp_all; done) | exact G.done2 rfl rfl rfl _ (by solve | repeat first | apply Zm | apply Zh | apply Zt | apply Zk) ⟨rfl, rfl⟩
def awB : Ms := { zM with id := 2, op := 2 }
def awAb : Bs := [48, 12, 2, 1, 1, 96, 7, 2, 1, 3, 4, 0, 128, 0]
def awBb : Bs := [48, 5, 2, 1, 2, 66, 0]
theorem aw4 : writeM awB = (awBb, 0) := by kernel_rfl
theorem aw5 : writeM awN = (awAb, 0) := aw2
theorem aw6 : readM awAb = .ok awN := by
  have h := write_read (m := awN) (by rw [aw5])
  rw [aw5] at h
  exact h
theorem aw7 : readM awBb = .ok awB := by
  have h := write_read (m := awB) (by rw [aw4])
  rw [aw4] at h
  exact h
theorem awB_I : MsI awB := by
  constructor <;> first | (simp only [inR, awB, zM]; omega) | (intro x hx; cases hx)
theorem aw_cut1 : cutM (awAb ++ awBb ++ awAb) = (14, 0) := by kernel_rfl
theorem aw_cut2 : cutM (awBb ++ awAb) = (7, 0) := by kernel_rfl
theorem aw_cut3 : cutM awAb = (14, 0) := by kernel_rfl
theorem aw_cut4 : cutM [] = (0, 0) := by kernel_rfl
theorem aw_one1 : cnOne awAb = .ok awN := by
  unfold cnOne
  rw [aw6]; rfl
theorem aw_one2 : cnOne awBb = .error false := by
  unfold cnOne
  rw [aw7]; rfl
theorem aw_conn : connS (awAb ++ awBb ++ awAb) = ⟨[awN], false, true, awAb, 0⟩ := by
  have e1 : (awAb ++ awBb ++ awAb).take (cutM (awAb ++ awBb ++ awAb)).1.toNat = awAb := by rw [aw_cut1]; rfl
  have e2 : (awAb ++ awBb ++ awAb).drop (cutM (awAb ++ awBb ++ awAb)).1.toNat = awBb ++ awAb := by rw [aw_cut1]; rfl
  have e3 : (awBb ++ awAb).take (cutM (awBb ++ awAb)).1.toNat = awBb := by rw [aw_cut2]; rfl
  have e4 : (awBb ++ awAb).drop (cutM (awBb ++ awAb)).1.toNat = awAb := by rw [aw_cut2]; rfl
  rw [connS_msg (m := awN) (by rw [aw_cut1]) (by rw [aw_cut1]; decide) (by rw [e1, aw_one1]), e2, connS_stop (b := false) (by rw [aw_cut2]) (by rw [aw_cut2]; decide) (by rw [e3, aw_one2]), e4]
def awQ (x : Bs) : Prop := x = awAb \/ x = awBb
theorem aw_all : ∀ n, rdAll awQ n (awAb ++ awBb ++ awAb) := by
  have e1 : (awAb ++ awBb ++ awAb).take (cutM (awAb ++ awBb ++ awAb)).1.toNat = awAb := by rw [aw_cut1]; rfl
  have e2 : (awAb ++ awBb ++ awAb).drop (cutM (awAb ++ awBb ++ awAb)).1.toNat = awBb ++ awAb := by rw [aw_cut1]; rfl
  have e3 : (awBb ++ awAb).take (cutM (awBb ++ awAb)).1.toNat = awBb := by rw [aw_cut2]; rfl
  have e4 : (awBb ++ awAb).drop (cutM (awBb ++ awAb)).1.toNat = awAb := by rw [aw_cut2]; rfl
  have e5 : awAb.take (cutM awAb).1.toNat = awAb := by rw [aw_cut3]; rfl
  have e6 : awAb.drop (cutM awAb).1.toNat = [] := by rw [aw_cut3]; rfl
  have r4 : ∀ n, rdAll awQ n [] := fun n => by
    cases n with
    | zero => trivial
    | succ n => exact fun _ h => absurd (by rw [aw_cut4]) h
  have r3 : ∀ n, rdAll awQ n awAb := fun n => by
    cases n with
    | zero => trivial
    | succ n => exact fun _ _ => by rw [e5, e6]; exact ⟨.inl rfl, r4 n⟩
  have r2 : ∀ n, rdAll awQ n (awBb ++ awAb) := fun n => by
    cases n with
    | zero => trivial
    | succ n => exact fun _ _ => by rw [e3, e4]; exact ⟨.inr rfl, r3 n⟩
  intro n
  cases n with
  | zero => trivial
  | succ n => exact fun _ _ => by rw [e1, e2]; exact ⟨.inl rfl, r2 n⟩
theorem aw_reads (x : Bs) (_ : x.length <= 100000000) (hx : awQ x) : ReadsM x := by
  intro h hT
  rcases hx with rfl | rfl
  . exact wire_ReadP awAb (by decide) (fun op o rest h1 h2 => by
      have e := write_op (m := awN) (by rw [aw5]) (by rw [aw5]; exact h1) h2
      subst e
      exact wire_op0) h hT
  . exact wire_ReadP awBb (by decide) (fun op o rest h1 h2 => by
      have e := write_op (m := awB) (by rw [aw4]) (by rw [aw4]; exact h1) h2
      subst e
      exact wire_op2) h hT
set_option maxRecDepth 8000 in
set_option maxHeartbeats 4000000 in
theorem law27_awake (h : Heap) (hT : TabW h) : Spec Tryd.prog 13 [] h [] (fun u _ H' => u = .bool true /\ H' = []) := by
  have hWA := fun h => ref11_WriteP awN awN_I (fun _ => ref11_op0) (by decide) nilV nilV nilV nilV nilV nilV h (zV rfl rfl rfl rfl rfl)
  rw [aw5] at hWA
  have hWB := fun h => ref11_WriteP awB awB_I (fun _ => ref11_op2) (by decide) nilV nilV nilV nilV nilV nilV h (zV rfl rfl rfl rfl rfl)
  rw [aw4] at hWB
  have hF := fun gc gb wv v h hT hv => conn_FeedQ awQ aw_reads gc gb wv [] v [awAb ++ awBb, awAb] (by decide) aw_all h hT hv
  rw [show ([] : Bs) ++ [awAb ++ awBb, awAb].flatten = awAb ++ awBb ++ awAb from rfl, aw_conn] at hF
  dsimp only at hWA hWB
  have la : awAb.length = 14 := rfl
  have lb : awBb.length = 7 := rfl
  refine Spec.enter Tryd.func13 rfl rfl ?_; intro w0
  repeat' (first | (show G _ (.ops .seq _ (⟨some _, .call { callee := .value (.func 25), args := _, argTypes := _ }, _, _, _, none⟩ :: _) :: _) _ _ _; refine G.call callWrite11 rfl rfl (hWA _) (by solve | repeat first | apply Zn | apply Zh | apply Zt | apply Zc) ?_; rintro _ h2 H2 ⟨rfl, rfl⟩ hle2) | (show G _ (.ops .seq _ (⟨some _, .call { callee := .value (.func 25), args := _, argTypes := _ }, _, _, _, none⟩ :: _) :: _) _ _ _; refine G.call callWrite11 rfl rfl (hWB _) (by solve | repeat first | apply Zn | apply Zh | apply Zt | apply Zc) ?_; rintro _ h3 H3 ⟨rfl, rfl⟩ hle3) | (show G _ (.ops .seq _ (⟨some _, .call { callee := .value (.func 14), args := _, argTypes := _ }, _, _, _, none⟩ :: _) :: _) _ _ _; refine G.call callCnNew rfl rfl (conn_New _) (by solve | repeat first | apply Zn | apply Zh | apply Zt | apply Zc) ?_; rintro _ h4 H4 ⟨gc, gb, rfl, rfl⟩ hle4) | (show G _ (.ops .seq _ (⟨some _, .call { callee := .value (.func 15), args := _, argTypes := _ }, _, _, _, none⟩ :: _) :: _) _ _ _; refine Hold.out ?_) | (refine G.atCode ?_; first | refine G.seq ?_ | refine G.region ?_) | refine G.endOps ?_ | (refine G.atBin ?_; first | (refine G.atAdd ?_; first | refine G.catStr rfl rfl rfl (by first | omega | (simp only [lens] at *; omega)) ?_)) | refine G.op rfl rfl ?_ | (refine G.atBld ?_; refine G.build (tyy rfl) rfl rfl rfl ?_) | (refine G.atBsl ?_; refine G.buildSlice (tyy rfl) (tyy rfl) rfl rfl rfl rfl ?_; intro _))
  all_goals first | (exfalso; omega) | (exfalso; simp_all; done) | skip
  refine ⟨?_⟩
  refine G.freezeBlk Take.hd ?_; intro hf1 hle1 hc1; have hs1 := HSl.ofBlk1 (rows := strsR [awAb ++ awBb, awAb]) (n := 2) hc1 (rowed_strs _) rfl (by decide); clear hc1
  show G _ (.ops .seq _ (⟨some _, .call { callee := .value (.func 15), args := _, argTypes := _ }, _, _, _, none⟩ :: _) :: _) _ _ _
  refine G.call callCnFeed rfl rfl (hF gc gb _ _ _ (hT.mono (by solve | repeat first | assumption | exact Zr _ | refine Zq ?_ (by assumption))) hs1) (by solve | repeat first | apply Zn | apply Zh | apply Zt | apply Zc) ?_
  rintro _ h6 H6 ⟨ov, rfl, hM, rfl⟩ hle6
  obtain ⟨A6, c6, rfl, _⟩ := hM.form
  obtain ⟨rows6, hs6, r6, rr, rfl, ⟨pv, kv, nv, av, mv, cv, rfl, hV⟩, rfl⟩ := hM
  obtain ⟨⟨pA, pn, pc, rfl⟩, ⟨kA, kn, kc, rfl⟩, ⟨nA, nn, nc, rfl⟩, ⟨aA, an, ac, rfl⟩, ⟨mA, mn, mc, rfl⟩, ⟨cA, cn, cc, rfl⟩⟩ := hV.forms
  have hl1 : (msR awN (.slice pA pn pc) (.slice kA kn kc) (.slice nA nn nc) (.slice aA an ac) (.slice mA mn mc) (.slice cA cn cc)).length = 32 := rfl
  repeat' (first | (refine G.atLoad ?_; refine G.loadImmAt1 rfl (tyy rfl) rfl rfl (by assumption) rfl rfl ?_) | (refine G.atIdx ?_; refine G.idxImm rfl rfl (tyy rfl) (tyy rfl) (hs6.mono (by solve | repeat first | assumption | exact Zr _ | refine Zq ?_ (by assumption))) (by first | (simp only [Int.reduceToNat]; rfl) | with_reducible apply Int.toNat_natCast | exact Eq.refl _) rfl (by simp) ?_; intro p1 r1 hx1 hp1; (obtain rfl := Option.some.inj hx1)) | (show G _ (.ops .seq _ (⟨some _, .call { callee := .value (.func 17), args := _, argTypes := _ }, _, _, _, none⟩ :: _) :: _) _ _ _; refine G.call callCnClosed rfl rfl (conn_Closed gc _ _ true _) (by solve | repeat first | apply Zn | apply Zh | apply Zt | apply Zc) ?_; rintro _ h7 H7 ⟨rfl, rfl⟩ hle7) | (refine G.atCode ?_; first | refine G.seq ?_ | refine G.region ?_ | refine G.ret ?_) | refine G.endOps ?_ | (refine G.atGd ?_; first | refine G.guardYes rfl rfl ?_) | (refine G.atBin ?_; first | (refine G.atEql ?_; first | refine G.op rfl rfl ?_)) | refine G.op rfl rfl ?_ | (refine G.atLen ?_; first | refine G.lenSlice rfl (tyy rfl) rfl ?_) | (refine G.atFld ?_; first | refine G.fieldAddrP rfl (tyy rfl) rfl rfl ?_))
  all_goals first | (exfalso; omega) | (exfalso; simp_all; done) | exact G.done1 rfl rfl [] (SubH.nil _) ⟨rfl, rfl⟩ | skip
  all_goals trace_state
end Go.Proofs.YtibkffoeioidlaaDoor
