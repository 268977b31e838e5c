/- castellanlaw06.JournalResets: wherever the power fails in a Reset, the old records or the new ones are there. -/
import Derived.Test.YtmbpjgjajedonaaGreatDoorStOpen
import Derived.Test.YtmbpjgjajedonaaGreatDoorJpL
import Derived.Test.YtmbpjgjajedonaaGreatDoorJpM
namespace Go.Proofs.YtmbpjgjajedonaaGreatDoor
set_option linter.all false
set_option maxRecDepth 4000
open Go.RowKit

theorem loseTo_got {D : Dk} (hD : D.Ok) (l : Ls) : ∀ n, n <= D.lasts.length -> ∀ t ∈ loseTo D l n, t.got.length = 128
  | 0, _, t, ht => by simp [loseTo] at ht
  | n + 1, hn, t, ht => by
    have ih := loseTo_got hD l n (by omega)
    cases hw : wGet D.W (n : Nat) with | none => rw [loseTo_none hw] at ht; exact ih t ht | some x =>
      by_cases hk : (kAt D.W n : Int) = l.torn
      . rw [(loseTo_torn hw).1 hk] at ht
        rcases List.mem_append.1 ht with h | h
        . exact ih t h
        . rw [List.mem_singleton.1 h]; exact loseAt_len hD l (by omega)
      . rw [(loseTo_torn hw).2 hk] at ht; exact ih t ht
def GotL (T : List Tr) : Prop := ∀ t ∈ T, t.got.length = 128
theorem GotL.nil : GotL [] := fun t h => by cases h
theorem GotL.app {A B : List Tr} (h : GotL A) (k : GotL B) : GotL (A ++ B) := fun t ht => (List.mem_append.1 ht).elim (h t) (k t)
theorem cutT_got {D : Dk} (hD : D.Ok) : GotL (cutT D) := by
  unfold cutT
  split
  . exact loseTo_got hD.cut _ _ (Nat.le_refl _)
  . exact GotL.nil
theorem writeT_got {D : Dk} (hD : D.Ok) (i : Int) (s : B8) : GotL (writeT D i s) := by
  unfold writeT
  split
  . exact GotL.nil
  . split
    . exact GotL.nil
    . rename_i h
      split
      . exact GotL.nil
      . exact cutT_got (hD.put i (Decidable.not_not.1 h))
theorem flushT_got {D : Dk} (hD : D.Ok) : GotL (flushT D) := by
  unfold flushT
  split
  . exact GotL.nil
  . exact cutT_got hD
theorem crashT_got {D : Dk} (hD : D.Ok) (l : Ls) : GotL (crashT D l) := by
  unfold crashT
  split
  . exact GotL.nil
  . exact loseTo_got hD _ _ (Nat.le_refl _)
theorem layT_got : ∀ (ss : List B8) {D : Dk} (a : Nat), D.Ok -> GotL (layT D a ss)
  | [], D, a, hD => by rw [layT]; exact flushT_got hD
  | s :: ss, D, a, hD => by
    rw [layT]
    split
    . exact writeT_got hD _ _
    . exact layT_got ss (a + 1) (write_ok hD _ _)
theorem resetT_got {D : Dk} (hD : D.Ok) (J : Jn) (bs : List B8) : GotL (resetT D J bs) := by
  unfold resetT
  split
  . exact GotL.nil
  . split
    . exact GotL.nil
    . split
      . exact GotL.nil
      . split
        . exact layT_got _ _ hD
        . exact layT_got _ _ (layJ_ok _ _ hD)
theorem cuts_len {bs : List B8} {n k : Nat} : (∀ b ∈ cutsM bs n k, b.length <= n) /\ (cutsM bs n k).length <= k := by
  refine ⟨fun b hb => ?_, ?_⟩
  . simp only [cutsM, List.mem_map] at hb
    obtain ⟨c, _, rfl⟩ := hb
    rw [List.length_take]; omega
  . simp only [cutsM, List.length_map, List.length_take]; omega
structure Cu6 where
  n : Int
  loss : Ls
def Cu6.vals (c : Cu6) : List Value := [.int .i64 c.n, .int .u64 c.loss.keep, .int .i64 c.loss.torn, .int .i64 c.loss.pos]
structure Cu6.Ok (c : Cu6) : Prop where
  n : inR .i64 c.n
  l : c.loss.keep < 18446744073709551616 /\ inR .i64 c.loss.pos
theorem same_tt (a : List B8) (ha : a.length <= 1000000000) (va vb : Value) (h : Heap) (hva : HSl h va 1 (strsR a)) (hvb : HSl h vb 1 (strsR a)) :
    Spec Tryz.prog 14 [va, vb] h [] (fun u _ H' => u = .bool true /\ H' = []) :=
  (law06_same a a ha ha va vb h hva hvb).mono fun u _ _ h _ => ⟨by rw [h.1, decide_eq_true rfl], h.2⟩
set_option maxRecDepth 8000 in
set_option maxHeartbeats 16000000 in
theorem law_JournalResets (one two : List B8) (h1 : ∀ b ∈ one, b.length <= 9223372036854775807) (h2 : ∀ b ∈ two, b.length <= 9223372036854775807) (c : Cu6) (hc : c.Ok) (v1 v2 : Value) (h : Heap) (hv1 : HSl h v1 1 (strsR one)) (hv2 : HSl h v2 1 (strsR two)) :
    Spec Tryz.prog 4 [v1, v2, .agg c.vals.toArray] h [] (fun u _ _ => u = .bool true) := by
  have sC1 := fun h hv => law06_cuts one h1 200 8 (by decide) (by decide) v1 h hv
  have sC2 := fun h hv => law06_cuts two h2 200 8 (by decide) (by decide) v2 h hv
  have k1 := cuts_len (bs := one) (n := 200) (k := 8)
  have k2 := cuts_len (bs := two) (n := 200) (k := 8)
  generalize cutsM one 200 8 = ones at *
  generalize cutsM two 200 8 = twos at *
  obtain ⟨D1, J1, D2, J2, rs⟩ := resets k1.1 k1.2 k2.1 k2.2 c.n c.loss
  obtain ⟨o1, t1, r2, t2, fin⟩ := rs
  have hcn := hc.n
  have hcl := hc.l
  have hlm : 0 <= (newM 60).limit := by simp only [newM]; omega
  have hll : (newM 60).limit = (newM 60).lasts.length := by simp [newM, layM]
  have hok0 := new_ok 60
  have hwk0 : (newM 60).Wk := wk_nil rfl
  have hlr0 : LimR false 0 (newM 60) := .inr ⟨rfl, hll⟩
  have io1 := openM_inv hok0 hwk0
  have hJ1 := (JI.opened hok0 hwk0 hlm o1).1
  rw [o1] at io1
  have hlr1 : LimR false 0 D1 := io1.2.2.lim hlr0
  have hJ2 := hJ1.reset ones
  have ir2 := resetM_inv (D := D1) J1 ones hJ1.ok hJ1.wk
  rw [r2] at hJ2 ir2
  dsimp only at hJ2 ir2
  have hlr2 : LimR false 0 D2 := ir2.2.2.lim hlr1
  have hcut : (cutD D2 c.n c.loss).Ok := ⟨hJ2.ok.l, hJ2.ok.w, hJ2.ok.n, by unfold cutD; simp only [inR] at hcn ⊢; omega, hcl⟩
  have hJc : JI (cutD D2 c.n c.loss) J2 := hJ2.shp hcut ⟨hJ2.wk.k, hJ2.wk.b, hJ2.wk.bc, hJ2.wk.kr⟩ rfl hJ2.lim
  have hlrc : LimR false 0 (cutD D2 c.n c.loss) := hlr2
  have sN := disk_New 60
  have rN := refd_New 60
  have sO := fun d m v h => jo_Open d m v (newM 60) hok0 hwk0 hlm h
  have rO := fun r lv wv h => rj_Open r lv wv (.slice none 0 0) false 0 [] (by decide) (newM 60) hok0 hwk0 hlm hlr0 h
  rw [o1] at sO rO
  rw [t1] at rO
  simp only [OpR, OpQ] at sO rO
  have sR := fun g d m v bv h hv => jo_Reset g d m v J1 D1 hJ1 ones (fun b hb => by have := k1.1 b hb; omega) (by omega) bv h hv
  have rR := fun g r lv wv tv bv h hv => rj_Reset g r lv wv tv false 0 [] (by decide) J1 D1 hJ1 hlr1 ones (fun b hb => by have := k1.1 b hb; omega) (by omega) bv h hv
  rw [r2] at sR rR
  rw [t2] at rR
  have sCu := fun d m v => disk_Cut d m v D2 c.n c.loss
  have rCu := fun r lv wv tv => refd_Cut r lv wv tv false 0 [] D2 D2.lasts (waitL D2) c.n c.loss
  have sS := fun g d m v bv h hv => jo_Reset g d m v J2 (cutD D2 c.n c.loss) hJc twos (fun b hb => by have := k2.1 b hb; omega) (by omega) bv h hv
  have rS := fun g r lv wv tv bv h hv => rj_Reset g r lv wv tv false 0 [] (by decide) J2 (cutD D2 c.n c.loss) hJc hlrc twos (fun b hb => by have := k2.1 b hb; omega) (by omega) bv h hv
  have ir3 := resetM_inv (D := cutD D2 c.n c.loss) J2 twos hJc.ok hJc.wk
  have hgt := resetT_got hJc.ok J2 twos
  have hlt := resetT_len (D := cutD D2 c.n c.loss) J2 twos hJc.ok.n
  have hltr : (trR (resetT (cutD D2 c.n c.loss) J2 twos)).length = (resetT (cutD D2 c.n c.loss) J2 twos).length := by simp [trR]
  generalize resetT (cutD D2 c.n c.loss) J2 twos = T3 at *
  have ecu : ({ D2 with left := max 0 c.n, loss := c.loss } : Dk) = cutD D2 c.n c.loss := rfl
  have hw2 : waitL D2 = waitL (cutD D2 c.n c.loss) := rfl
  have hl2 : D2.lasts = (cutD D2 c.n c.loss).lasts := rfl
  rw [ecu] at sCu rCu
  generalize hRS : resetM (cutD D2 c.n c.loss) J2 twos = X3 at *
  obtain ⟨D3, J3, e3⟩ := X3
  dsimp only at sS rS ir3 fin
  have hlr3 : LimR false 0 D3 := ir3.2.2.lim hlrc
  have hlm3 : 0 <= D3.limit := by rw [ir3.2.2.1]; exact hJc.lim
  have sCr := fun d m v => disk_Crash d m v D3 ir3.1 c.loss hcl
  have rCr := fun r lv wv tv => reft_Crash r lv wv tv false 0 ([] ++ trR T3) (by rw [List.nil_append]; omega) D3 ir3.1 c.loss hcl
  have hgc := crashT_got ir3.1 c.loss
  have hlc := crashT_len (D := D3) c.loss ir3.1.n
  have hlcr : (trR (crashT D3 c.loss)).length = (crashT D3 c.loss).length := by simp [trR]
  generalize crashT D3 c.loss = T4 at *
  have hok4 := crash_ok ir3.1 c.loss
  have hwk4 := crash_wk ir3.2.1 c.loss
  have hlm4 : 0 <= (crashM D3 c.loss).limit := by rw [(crash_shp D3 c.loss).1]; exact hlm3
  generalize crashM D3 c.loss = D4 at *
  have sM := fun r lv wv tv => ref06_Mixed r lv wv tv false 0 (T3 ++ T4) (hgt.app hgc) (by rw [List.length_append]; omega) D4 D4.lasts (waitL D4)
  rw [trR_app] at sM
  have sP := fun d m v h => jo_Open d m v D4 hok4 hwk4 hlm4 h
  obtain ⟨b1, b2⟩ := k1
  obtain ⟨b3, b4⟩ := k2
  clear hRS hJ1 hJ2 hJc ir2 ir3 io1 hlr0 hlr1 hlr2 hlr3 hlrc hcut hok4 hwk4 hok0 hwk0 hgt hgc r2 o1
  unfold jdC jnC dkC at *
  unfold rjC rjB rkD rkC at *
  dsimp only [List.cons_append, List.nil_append] at *
  generalize newM 60 = D0 at *
  refine Spec.enter Tryz.func4 rfl rfl ?_; intro w0
  repeat' (first | (refine G.minI rfl rfl rfl ?_) | (refine G.maxI rfl rfl rfl ?_) | (show G _ (.ops .seq _ (⟨some _, .call { callee := .value (.func 20), args := _, argTypes := _ }, _, _, _, none⟩ :: _) :: _) _ _ _; refine G.call callCuts6 rfl rfl (sC1 _ (hv1.mono (by solve | repeat first | assumption | exact Zr _ | refine Zq ?_ Zp))) Ze ?_; rintro _ h4 H4 ⟨kA, kc, rfl, rfl⟩ hle4; refine G.freezeRow (sz := 1) (e := 9) Za ?_; intro hf1 hlf1 hsf1) | (show G _ (.ops .seq _ (⟨some _, .call { callee := .value (.func 20), args := _, argTypes := _ }, _, _, _, none⟩ :: _) :: _) _ _ _; refine G.call callCuts6 rfl rfl (sC2 _ (hv2.mono (by solve | repeat first | assumption | exact Zr _ | refine Zq ?_ Zp))) Ze ?_; rintro _ h4 H4 ⟨kA2, kc2, rfl, rfl⟩ hle4; refine G.freezeRow (sz := 1) (e := 9) Za ?_; intro hf2 hlf2 hsf2) | (show G _ (.ops .seq _ (⟨some _, .call { callee := .value (.func 7), args := _, argTypes := _ }, _, _, _, none⟩ :: _) :: _) _ _ _; refine G.call callNewD rfl rfl (sN _) Ze ?_; rintro _ h2 H2 ⟨d, m, v, rfl, rfl⟩ hle2) | (show G _ (.ops .seq _ (⟨some _, .call { callee := .value (.func 8), args := _, argTypes := _ }, _, _, _, none⟩ :: _) :: _) _ _ _; refine G.call callRNewD rfl rfl (rN _) Ze ?_; rintro _ h3 H3 ⟨r, lv, wv, rfl, rfl⟩ hle3) | (show G _ (.ops .seq _ (⟨some _, .call { callee := .value (.func 11), args := _, argTypes := _ }, _, _, _, none⟩ :: _) :: _) _ _ _; refine G.call callOpen6 rfl rfl (sO d m v _) Ze ?_; rintro _ h5 H5 ⟨gj, jA, jc, rfl, hsj, rfl⟩ hle5) | (show G _ (.ops .seq _ (⟨some _, .call { callee := .value (.func 12), args := _, argTypes := _ }, _, _, _, none⟩ :: _) :: _) _ _ _; refine G.call callQOpen rfl rfl (rO r lv wv _) Ze ?_; rintro _ h6 H6 ⟨tvq, gq, qA, qc, rfl, hsq, rfl⟩ hle6) | (show G _ (.ops .seq _ (⟨some _, .call { callee := .value (.func 6), args := _, argTypes := _ }, _, _, _, none⟩ :: _) :: _) _ _ _; refine G.call callAwake6 rfl rfl (law06_awake _) Ze ?_; rintro _ h7 H7 ⟨rfl, rfl⟩ hle7) | (show G _ (.ops .seq _ (⟨some _, .call { callee := .value (.func 21), args := _, argTypes := _ }, _, _, _, none⟩ :: _) :: _) _ _ _; refine G.call callReset6 rfl rfl (sR gj d m v _ _ (hsf1.mono (by solve | repeat first | assumption | exact Zr _ | refine Zq ?_ Zp))) Ze ?_; rintro _ h8 H8 ⟨rfl, rfl⟩ hle8) | (show G _ (.ops .seq _ (⟨some _, .call { callee := .value (.func 22), args := _, argTypes := _ }, _, _, _, none⟩ :: _) :: _) _ _ _; refine G.call callQReset rfl rfl (rR gq r lv wv tvq _ _ (hsf1.mono (by solve | repeat first | assumption | exact Zr _ | refine Zq ?_ Zp))) Ze ?_; rintro _ h9 H9 ⟨tvr, rfl, rfl⟩ hle9) | (show G _ (.ops .seq _ (⟨some _, .call { callee := .value (.func 9), args := _, argTypes := _ }, _, _, _, none⟩ :: _) :: _) _ _ _; refine G.call callCutS rfl rfl (sCu d m v _) Ze ?_; rintro _ h10 H10 rfl hle10) | (show G _ (.ops .seq _ (⟨some _, .call { callee := .value (.func 10), args := _, argTypes := _ }, _, _, _, none⟩ :: _) :: _) _ _ _; refine G.call callRCut rfl rfl (rCu r lv wv tvr _) Ze ?_; rintro _ h11 H11 rfl hle11) | (show G _ (.ops .seq _ (⟨some _, .call { callee := .value (.func 21), args := _, argTypes := _ }, _, _, _, none⟩ :: _) :: _) _ _ _; refine G.call callReset6 rfl rfl (sS gj d m v _ _ (hsf2.mono (by solve | repeat first | assumption | exact Zr _ | refine Zq ?_ Zp))) Ze ?_; rintro _ h12 H12 ⟨rfl, rfl⟩ hle12) | (show G _ (.ops .seq _ (⟨some _, .call { callee := .value (.func 22), args := _, argTypes := _ }, _, _, _, none⟩ :: _) :: _) _ _ _; refine G.call callQReset rfl rfl (rS gq r lv wv tvr _ _ (hsf2.mono (by solve | repeat first | assumption | exact Zr _ | refine Zq ?_ Zp))) Ze ?_; rintro _ h13 H13 ⟨tvs, rfl, rfl⟩ hle13) | (show G _ (.ops .seq _ (⟨some _, .call { callee := .value (.func 23), args := _, argTypes := _ }, _, _, _, none⟩ :: _) :: _) _ _ _; refine G.call callCrash rfl rfl (sCr d m v _) Ze ?_; rintro _ h14 H14 rfl hle14) | (show G _ (.ops .seq _ (⟨some _, .call { callee := .value (.func 24), args := _, argTypes := _ }, _, _, _, none⟩ :: _) :: _) _ _ _; refine G.call callRCrash rfl rfl (rCr r lv wv tvs _) Ze ?_; rintro _ h15 H15 ⟨tvc, Tc, rfl, rfl⟩ hle15) | (show G _ (.ops .seq _ (⟨some _, .call { callee := .value (.func 13), args := _, argTypes := _ }, _, _, _, none⟩ :: _) :: _) _ _ _; refine G.call callMixed rfl rfl (sM r lv wv tvc _) Ze ?_; rintro _ h16 H16 ⟨b, rfl, hb, rfl⟩ hle16; cases b) | (show G _ (.ops .seq _ (⟨some _, .call { callee := .value (.func 11), args := _, argTypes := _ }, _, _, _, none⟩ :: _) :: _) _ _ _; obtain ⟨D5, J5, bs5, o5, hh⟩ := fin (hb rfl); rcases hh with ⟨he, hbs⟩ | ⟨he, hbs | hbs⟩ <;> (rw [hbs] at o5; rw [o5] at sP; simp only [OpR, jdC, jnC, dkC, List.cons_append, List.nil_append] at sP; subst he; refine G.call callOpen6 rfl rfl (sP d m v _) Ze ?_; rintro _ h17 H17 ⟨gP, pA, pc, rfl, hsP, rfl⟩ hle17)) | (show G _ (.ops .seq _ (⟨some _, .call { callee := .value (.func 14), args := _, argTypes := _ }, _, _, _, none⟩ :: _) :: _) _ _ _; refine G.call callSame6 rfl rfl (same_tt twos (by omega) _ _ _ (hsP.mono (by solve | repeat first | assumption | exact Zr _ | refine Zq ?_ Zp)) (hsf2.mono (by solve | repeat first | assumption | exact Zr _ | refine Zq ?_ Zp))) Ze ?_; rintro _ h18 H18 ⟨rfl, rfl⟩ hle18) | (show G _ (.ops .seq _ (⟨some _, .call { callee := .value (.func 14), args := _, argTypes := _ }, _, _, _, none⟩ :: _) :: _) _ _ _; refine G.call callSame6 rfl rfl (same_tt ones (by omega) _ _ _ (hsP.mono (by solve | repeat first | assumption | exact Zr _ | refine Zq ?_ Zp)) (hsf1.mono (by solve | repeat first | assumption | exact Zr _ | refine Zq ?_ Zp))) Ze ?_; rintro _ h19 H19 ⟨rfl, rfl⟩ hle19) | (show G _ (.ops .seq _ (⟨some _, .call { callee := .value (.func 14), args := _, argTypes := _ }, _, _, _, none⟩ :: _) :: _) _ _ _; refine G.call callSame6 rfl rfl (law06_same twos ones (by omega) (by omega) _ _ _ (hsP.mono (by solve | repeat first | assumption | exact Zr _ | refine Zq ?_ Zp)) (hsf1.mono (by solve | repeat first | assumption | exact Zr _ | refine Zq ?_ Zp))) Ze ?_; rintro _ h20 H20 ⟨rfl, rfl⟩ hle20; generalize decide (twos = ones) = bb) | (refine G.atCode ?_; first | refine G.seq ?_ | refine G.region ?_ | refine G.block ?_ | refine G.skip ?_ | refine G.exit rfl ?_ | refine G.ret ?_ | (refine G.cond rfl ?_ ?_ <;> intro hc <;> (try simp only [tests, reduceCtorEq] at hc) <;> (try exact Zf))) | refine G.endOps ?_ | refine G.endStill ?_ | refine G.endHeld ?_ | refine G.back ?_ | refine G.endBlk ?_ | (refine G.atGd ?_; first | refine G.guardYes rfl rfl ?_ | refine G.guardNoS rfl rfl rfl ?_ | refine G.guardU rfl rfl rfl ?_ | (refine G.guardS rfl rfl rfl ?_ ?_ <;> intro hc <;> (try simp only [tests, reduceCtorEq] at hc) <;> (try exact Zf)) | refine G.guardNo rfl rfl ?_ (by rintro i ⟨⟩; rfl) | (refine G.guard rfl rfl ?_ ?_ (by rintro i ⟨⟩; rfl) <;> intro hc <;> (try simp only [tests, reduceCtorEq] at hc) <;> (try exact Zf))) | (refine G.atBin ?_; first | (refine G.atEql ?_; first | refine G.op rfl rfl ?_ | refine G.eqStr0 rfl rfl rfl ?_ | refine G.eqStr rfl rfl rfl ?_ | refine G.eqPtr rfl rfl (tyy rfl) rfl ?_ | refine G.eqBool rfl rfl (tyy rfl) rfl ?_) | (refine G.atNeq ?_; first | refine G.op rfl rfl ?_ | refine G.neStr0 rfl rfl rfl ?_ | refine G.neStr rfl rfl rfl ?_ | refine G.nePtr rfl rfl (tyy rfl) rfl ?_ | refine G.neBool rfl rfl (tyy rfl) rfl ?_) | refine G.op rfl rfl ?_ ) | refine G.op rfl rfl ?_ | (refine G.atLoad ?_; first | refine G.loadOwn1 rfl (tyy rfl) rfl rfl Za rfl rfl ?_ | refine G.loadOwnA rfl (tyy rfl) rfl rfl Za rfl rfl ?_ | refine G.loadImm1 rfl (tyy rfl) rfl rfl Zp rfl ?_ | refine G.loadImmA rfl (tyy rfl) rfl rfl Zp Zp rfl ?_ | refine G.loadRowS rfl (tyy rfl) Zp Za Zo rfl ?_ | (refine G.loadRowB rfl (tyy rfl) Zp Za Zo rfl ?_; intro _)) | (refine G.atFld ?_; first | refine G.fieldAddr rfl (tyy rfl) rfl rfl ?_ | refine G.fieldAddrP rfl (tyy rfl) rfl rfl ?_) | (refine G.atBox ?_; refine G.box rfl rfl rfl ?_; intro _)        )
  all_goals first | (exfalso; omega) | exact G.done1 rfl rfl [] (SubH.nil _) rfl | trace_state
end Go.Proofs.YtmbpjgjajedonaaGreatDoor
namespace Go.Proofs.YtmbpjgjajedonaaGreatDoor
set_option linter.all false
set_option maxRecDepth 4000
open Go.ChangeShapes Go.WideShapes Go.RowKit

section
variable {H : Type} {enc : TypeId × Value -> H} {W : World}
set_option maxRecDepth 20000 in
theorem cut_open6 {fuel : Nat} {cs : List Value} {x : DataW H × List MemPlace} (h : DataW.trod enc Tryz.prog W 0 (fun _ => true) true fuel 34 cs = some x) : ∃ c : Cu6, cs = c.vals /\ c.Ok /\ 1 <= Rows.uptoBulk x.1 := by
  obtain ⟨xs, n, hn, hx, hl, hlen, hfl⟩ := DataW.trod_struct Tryz.underlying34 h
  rw [cellsCut6] at hl
  match cs, hl, xs, hlen with
  | [c0, c1, c2, c3], _, [y0, y1], _ =>
    have e0 : DataW.trod enc Tryz.prog W 0 (fun _ => true) true n 3 ((List.drop 0 [c0, c1, c2, c3]).take (Tryz.prog.cellsOf 3)) = some y0 := hfl 0 _ rfl
    have e1 : DataW.trod enc Tryz.prog W 0 (fun _ => true) true n 32 ((List.drop 1 [c0, c1, c2, c3]).take (Tryz.prog.cellsOf 32)) = some y1 := hfl 1 _ rfl
    rw [cellsInt6] at e0
    rw [cellsLoss6] at e1
    simp only [List.drop_zero, List.take_succ_cons, List.take_zero, List.drop_succ_cons] at e1
    obtain ⟨k0, hs0, hr0, hb0⟩ := int6_open Tryz.underlying3 e0
    obtain ⟨l, hs4, hl1, hl2⟩ := loss_open e1
    simp only [List.drop_zero, List.take_succ_cons, List.take_zero, List.drop_succ_cons, List.cons.injEq, and_true] at hs0 hs4
    obtain ⟨rfl, rfl, rfl⟩ := hs4
    subst hs0
    exact ⟨⟨k0, l⟩, rfl, ⟨hr0, hl1, hl2⟩, by rw [hx]; simp only [List.map_cons, List.map_nil, Rows.uptoBulk, Rows.uptoBulkAll]; omega⟩
end
end Go.Proofs.YtmbpjgjajedonaaGreatDoor
