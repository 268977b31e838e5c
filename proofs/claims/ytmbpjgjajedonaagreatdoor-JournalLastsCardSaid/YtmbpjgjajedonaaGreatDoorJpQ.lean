/- castellanlaw06.JournalLasts: wherever the power fails, again and again, the records that were told are there. -/
import Derived.Test.YtmbpjgjajedonaaGreatDoorJpP
namespace Go.Proofs.YtmbpjgjajedonaaGreatDoor
set_option linter.all false
set_option maxRecDepth 4000
open Go.RowKit

structure LaC (K n : Nat) (D D1 : Dk) : Prop where
  ok : D1.Ok
  wk : D1.Wk
  off : D1.off = false
  w : D1.W = []
  len : D1.lasts.length = 40
  lim : D1.limit = 40
  l : D1.lasts = D.lasts
  left : n = K -> D1.left = 0
theorem la_cut {D : Dk} (h : LaD D) {c : Cu6} (hc : c.Ok) {n K : Nat} (hn : n < K) : LaC K n D { D with left := max 0 c.n, loss := c.loss } := by
  have hcn := hc.n
  exact ⟨⟨h.ok.l, h.ok.w, h.ok.n, by simp only [inR] at hcn ⊢; omega, hc.l⟩, ⟨h.wk.k, h.wk.b, h.wk.bc, h.wk.kr⟩, h.off, h.w, h.len, h.lim, rfl, fun e => by omega⟩
theorem la_cut0 {D : Dk} (h : LaD D) (n K : Nat) : LaC K n D D := ⟨h.ok, h.wk, h.off, h.w, h.len, h.lim, rfl, fun _ => h.left⟩
theorem la_on {D : Dk} (ok : D.Ok) (wk : D.Wk) (w : D.W = []) (len : D.lasts.length = 40) (lim : D.limit = 40) : LaD { D with off := false, left := 0 } :=
  ⟨⟨ok.l, ok.w, ok.n, by simp only [inR]; omega, ok.ls⟩, ⟨wk.k, wk.b, wk.bc, wk.kr⟩, rfl, rfl, w, len, lim⟩
structure LS where
  n : Nat
  told : List B8
  A : Option Addr
  c : Nat
  maybe : B8
  op : Bool
  i : Nat
  D : Dk
  T : List Tr
  tv : Value
structure LI (N K : Nat) (x : LS) : Prop where
  n : x.n <= K
  i : x.i <= N
  d : LaD x.D
  r : NotMix x.T -> LaR x.D x.told x.op x.maybe x.n
  t : x.T.length <= 20000 * x.n
  g : GotL x.T
  l : x.told.length + (if x.op then 1 else 0) <= x.i
structure LJ where
  told : List B8
  A : Option Addr
  c : Nat
  maybe : B8
  op : Bool
  i : Nat
  e : Int
  D : Dk
  J : Jn
  T : List Tr
  tv : Value
structure LK (N K n : Nat) (x : LJ) : Prop where
  i : x.i <= N
  ji : JI x.D x.J
  w : x.D.W = []
  len : x.D.lasts.length = 40
  lim : x.D.limit = 40
  g : GotL x.T
  l : x.told.length + (if x.op then 1 else 0) <= x.i
  c : (x.e = 0 /\ x.D.off = false /\ (n = K -> x.D.left = 0) /\ Live x.D.lasts 19 x.J x.told /\ x.J.gen <= n + 1 /\ NotMix x.T /\ x.op = false /\ x.T.length <= 20000 * n) ∨
    (x.e = 10 /\ n < K /\ (NotMix x.T -> LaR x.D x.told x.op x.maybe (n + 1)) /\ x.T.length <= 20000 * n + 8192)
def laC (d m : Nat) (v : Value) (r : Nat) (lv wv tv : Value) (T : List Tr) (D : Dk) (A : Option Addr) (c : Nat) (told : List B8) : List Chunk :=
  dkC d m v D ++ rkD r lv wv tv false 0 (trR T) D ++ [.row (.slice A told.length c) 9 1 (strsR told)]
def lbC (g d m : Nat) (v : Value) (q r : Nat) (lv wv tv : Value) (T : List Tr) (J : Jn) (D : Dk) (A : Option Addr) (c : Nat) (told : List B8) : List Chunk :=
  jrC g d m v q r lv wv tv false 0 (trR T) J D ++ [.row (.slice A told.length c) 9 1 (strsR told)]
theorem trR_len (T : List Tr) : (trR T).length = T.length := by simp [trR]
set_option maxRecDepth 8000 in
set_option maxHeartbeats 16000000 in
theorem law_JournalLasts (bodies : List B8) (hb : ∀ b ∈ bodies, b.length <= 9223372036854775807) (cuts : List Cu6) (hcu : ∀ c ∈ cuts, c.Ok) (v1 v2 : Value) (h : Heap) (hv1 : HSl h v1 1 (strsR bodies)) (hv2 : HSl h v2 4 (cuts.map Cu6.vals)) :
    Spec Tryz.prog 3 [v1, v2] h [] (fun u _ _ => u = .bool true) := by
  obtain ⟨la0, lr0⟩ := la_new
  have sN := disk_New 40
  have rN := refd_New 40
  unfold dkC at sN
  unfold rkC at rN
  obtain ⟨bA, bc, rfl, p1, p2, p3⟩ := hv1.form
  obtain ⟨cA, cc, rfl, q1, q2, q3⟩ := hv2.form
  have hsl1 : (strsR bodies).length = bodies.length := strsR_length bodies
  have hsl2 : (cuts.map Cu6.vals).length = cuts.length := List.length_map _
  rw [hsl1] at hv1 ⊢
  rw [hsl2] at hv2 ⊢
  generalize newM 40 = D0 at *
  refine Spec.enter Tryz.func3 rfl rfl ?_; intro w0
  repeat' (first | (show G _ (.ops .seq _ (⟨some _, .call { callee := .value (.func 7), args := _, argTypes := _ }, _, _, _, none⟩ :: _) :: _) _ _ _; refine G.call callNewD rfl rfl (sN _) Ze ?_; rintro _ h2 H2 ⟨d, m, v, rfl, rfl⟩ hle2) | (show G _ (.ops .seq _ (⟨some _, .call { callee := .value (.func 8), args := _, argTypes := _ }, _, _, _, none⟩ :: _) :: _) _ _ _; refine G.call callRNewD rfl rfl (rN _) Ze ?_; rintro _ h3 H3 ⟨r, lv, wv, rfl, rfl⟩ hle3) | (show G _ (.ops .seq _ (⟨some _, .call { callee := .value (.func 6), args := _, argTypes := _ }, _, _, _, none⟩ :: _) :: _) _ _ _; refine G.call callAwake6 rfl rfl (law06_awake _) Ze ?_; rintro _ h4 H4 ⟨rfl, rfl⟩ hle4) | (refine G.atCode ?_; refine G.stopLoop ?_) | (refine G.atCode ?_; first | refine G.seq ?_ | refine G.region ?_ | refine G.block ?_ | refine G.skip ?_ | refine G.ret ?_ | (refine G.cond rfl ?_ ?_ <;> intro hc <;> (try simp only [tests, reduceCtorEq] at hc) <;> (try exact Zf))) | refine G.endOps ?_ | (refine G.atGd ?_; first | refine G.guardYes rfl rfl ?_ | refine G.guardNoS rfl rfl rfl ?_ | (refine G.guardS rfl rfl rfl ?_ ?_ <;> intro hc <;> (try simp only [tests, reduceCtorEq] at hc) <;> (try exact Zf))) | (refine G.atBin ?_; first | refine G.op rfl rfl ?_) | refine G.op rfl rfl ?_ | (refine G.atLen ?_; first | refine G.lenSlice rfl (tyy rfl) rfl ?_))
  all_goals first | exact G.done1 rfl rfl [] (SubH.nil _) rfl | skip
  refine G.nilRow 9 1 ?_
  refine G.go ?_
  refine G.loop (σ := LS) (fun x => [(11, .int .i64 x.n), (10, .int .i64 x.i), (9, .bool x.op), (8, str x.maybe), (7, .slice x.A x.told.length x.c), (6, .pointer (some ⟨r, 0, none⟩)), (5, .pointer (some ⟨d, 0, none⟩)), (1, .slice cA cuts.length cc), (0, .slice bA bodies.length bc)])
    (fun x => laC d m v r lv wv x.tv x.T x.D x.A x.c x.told) (fun x _ => LI bodies.length cuts.length x) (fun x => cuts.length + 1 - x.n) ⟨0, [], none, 0, [], false, 0, D0, [], .slice none 0 0⟩ ⟨rfl, rfl, rfl, rfl, rfl, rfl, rfl, rfl, rfl, trivial⟩
    (by simp only [laC, dkC, rkD, rkC, List.cons_append, List.nil_append]; exact Zu) ⟨Nat.zero_le _, Nat.zero_le _, la0, fun _ => lr0, Nat.zero_le _, GotL.nil, Nat.le_refl _⟩ ?_
  rintro ⟨n, told, A, c, maybe, op, i, D, T, tv⟩ h1 hle1 hI
  dsimp only at hI ⊢
  simp only [laC, dkC, rkD, rkC, List.cons_append, List.nil_append]
  have hn := hI.n
  have hd := hI.d
  dsimp only at hn hd
  repeat' (first | (refine G.atCode ?_; refine G.stopIf 9 ?_) | (refine G.atCode ?_; first | refine G.seq ?_ | refine G.block ?_))
  refine G.go ?_
  refine G.meet (σ := Dk) (fun _ => [(11, .int .i64 n), (10, .int .i64 i), (9, .bool op), (8, str maybe), (7, .slice A told.length c), (6, .pointer (some ⟨r, 0, none⟩)), (5, .pointer (some ⟨d, 0, none⟩)), (1, .slice cA cuts.length cc), (0, .slice bA bodies.length bc)])
    (fun D1 => laC d m v r lv wv tv T D1 A c told) (fun D1 _ => LaC cuts.length n D D1) ?_ ?_
  . by_cases hlt : n < cuts.length
    . obtain ⟨a, hr⟩ : ∃ a, cuts[n]? = some a := ⟨cuts[n]'hlt, List.getElem?_eq_getElem hlt⟩
      have ha := hcu a (List.mem_of_getElem? hr)
      have hr2 : (cuts.map Cu6.vals)[n]? = some [.int .i64 a.n, .int .u64 a.loss.keep, .int .i64 a.loss.torn, .int .i64 a.loss.pos] := by rw [List.getElem?_map, hr]; rfl
      have hkk := la_cut hd ha hlt
      have sCu := disk_Cut d m v D a.n a.loss
      have rCu := refd_Cut r lv wv tv false 0 (trR T) D D.lasts (waitL D) a.n a.loss
      unfold dkC at sCu
      unfold rkC at rCu
      repeat' (first | (refine G.atIdx ?_; refine G.idxImmN rfl rfl (tyy rfl) (tyy rfl) (hv2.mono (by solve | repeat first | assumption | exact Zr _ | refine Zq ?_ Zp)) Zj rfl (by omega) ?_; intro p r10 hr10 hl10 hp; obtain rfl := Option.some.inj (hr2.symm.trans hr10)) | (refine G.atLoad ?_; refine G.loadImmAt1 rfl (tyy rfl) rfl rfl Zp rfl rfl ?_) | (refine G.atLoad ?_; refine G.loadImmAt (sz := 3) rfl (tyy rfl) rfl Zp rfl rfl rfl rfl ?_) | (show G _ (.ops .seq _ (⟨some _, .call { callee := .value (.func 9), args := _, argTypes := _ }, _, _, _, none⟩ :: _) :: _) _ _ _; refine G.call callCutS rfl rfl (sCu _) Ze ?_; rintro _ h7 H7 rfl hle7) | (show G _ (.ops .seq _ (⟨some _, .call { callee := .value (.func 10), args := _, argTypes := _ }, _, _, _, none⟩ :: _) :: _) _ _ _; refine G.call callRCut rfl rfl (rCu _) Ze ?_; rintro _ h8 H8 rfl hle8) | (refine G.atCode ?_; first | refine G.seq ?_ | refine G.region ?_ | refine G.drawAuto mixedOk rfl Zw ?_ | (refine G.cond rfl ?_ ?_ <;> intro hc <;> (try simp only [tests, reduceCtorEq] at hc) <;> (try exact Zf))) | refine G.endOps ?_ | refine G.endStill ?_ | (refine G.atBin ?_; first | refine G.op rfl rfl ?_) | refine G.op rfl rfl ?_ | (refine G.atLen ?_; first | refine G.lenSlice rfl (tyy rfl) rfl ?_) | (refine G.atFld ?_; first | refine G.fieldAddrP rfl (tyy rfl) rfl rfl ?_))
      all_goals first | exact G.met { D with left := max 0 a.n, loss := a.loss } ⟨rfl, rfl, rfl, rfl, rfl, rfl, rfl, rfl, rfl, trivial⟩ (by simp only [laC, dkC, rkD, rkC, List.cons_append, List.nil_append]; exact Zu) (by solve | repeat first | assumption | exact Zr _ | refine Zq ?_ Zp) hkk | trace_state
    . repeat' (first | (refine G.atCode ?_; first | refine G.seq ?_ | refine G.region ?_ | refine G.skip ?_ | (refine G.cond rfl ?_ ?_ <;> intro hc <;> (try simp only [tests, reduceCtorEq] at hc) <;> (try exact Zf))) | refine G.endOps ?_ | (refine G.atBin ?_; first | refine G.op rfl rfl ?_) | refine G.op rfl rfl ?_ | (refine G.atLen ?_; first | refine G.lenSlice rfl (tyy rfl) rfl ?_))
      all_goals first | (exfalso; omega) | exact G.met D ⟨rfl, rfl, rfl, rfl, rfl, rfl, rfl, rfl, rfl, trivial⟩ (by simp only [laC, dkC, rkD, rkC, List.cons_append, List.nil_append]; exact Zu) (by solve | repeat first | assumption | exact Zr _ | refine Zq ?_ Zp) (la_cut0 hd _ _)
  . intro D1 h2 hle2 hC
    have hI9 : i <= bodies.length := hI.i
    have hTl : T.length <= 20000 * n := hI.t
    have hTg : GotL T := hI.g
    have hl9 : told.length + (if op then 1 else 0) <= i := hI.l
    have hr1 : NotMix T -> LaR D1 told op maybe n := fun hh => by have h9 := hI.r hh; exact ⟨by rw [hC.l]; exact h9.r, by rw [hC.l]; exact h9.m⟩
    have hlm1 : 0 <= D1.limit := by rw [hC.lim]; omega
    have hlr1 : LimR false 0 D1 := .inr ⟨rfl, by rw [hC.lim, hC.len]; rfl⟩
    have hTr := trR_len T
    have sO := fun h => jo_Open d m v D1 hC.ok hC.wk hlm1 h
    have rO := fun h => rj_Open r lv wv tv false 0 (trR T) (by omega) D1 hC.ok hC.wk hlm1 hlr1 h
    have io := openM_inv hC.ok hC.wk
    have hop := la_openR (T := T) hC.off hC.w hC.len hC.lim hr1 (by omega)
    have hol := openT_len (D := D1) hC.ok.n
    rw [trR_len] at hol
    have hog := openT_got (D := D1) hC.ok
    have hcl := hC.len
    have hcm := hC.lim
    have hcf := hC.left
    have hcok := hC.ok
    have hcwk := hC.wk
    clear hI hd hr1 hC la0 lr0
    rcases hop with ⟨D2, bs, e, o, hA⟩ | ⟨D2, J, bs, o, ot, hbl, hA⟩
    . rw [o] at sO rO io
      dsimp only at io
      generalize openT D1 = OT at *
      have sM := fun tv => ref06_Mixed r lv wv tv false 0 (T ++ OT) (hTg.app hog) (by rw [List.length_append]; omega) D2 D2.lasts (waitL D2)
      have sOn := disk_On d m v D2
      have rOn := fun tv => refd_On r lv wv tv false 0 (trR (T ++ OT)) D2 D2.lasts (waitL D2)
      rw [<- trR_app] at rO
      simp only [OpR, OpQ] at sO rO
      unfold dkC at *
      unfold rkD rkC at *
      simp only [laC, dkC, rkD, rkC, List.cons_append, List.nil_append]
      repeat' (first | (show G _ (.ops .seq _ (⟨some _, .call { callee := .value (.func 11), args := _, argTypes := _ }, _, _, _, none⟩ :: _) :: _) _ _ _; refine G.call callOpen6 rfl rfl (sO _) Ze ?_; rintro _ h5 H5 ⟨rfl, rfl⟩ hle5) | (show G _ (.ops .seq _ (⟨some _, .call { callee := .value (.func 12), args := _, argTypes := _ }, _, _, _, none⟩ :: _) :: _) _ _ _; refine G.call callQOpen rfl rfl (rO _) Ze ?_; rintro _ h6 H6 ⟨tvq, rfl, rfl⟩ hle6) | (show G _ (.ops .seq _ (⟨some _, .call { callee := .value (.func 13), args := _, argTypes := _ }, _, _, _, none⟩ :: _) :: _) _ _ _; refine G.call callMixed rfl rfl (sM tvq _) Ze ?_; rintro _ h16 H16 ⟨b, rfl, hbb, rfl⟩ hle16; cases b; (obtain ⟨he, hg, hlr⟩ := hA (hbb rfl); subst he; have hnk : n < cuts.length := by (apply Classical.byContradiction; intro hz; exact hg.left (hcf (by omega))))) | (show G _ (.ops .seq _ (⟨some _, .call { callee := .value (.func 18), args := _, argTypes := _ }, _, _, _, none⟩ :: _) :: _) _ _ _; refine G.call callOn rfl rfl (sOn _) Ze ?_; rintro _ h7 H7 rfl hle7) | (show G _ (.ops .seq _ (⟨some _, .call { callee := .value (.func 19), args := _, argTypes := _ }, _, _, _, none⟩ :: _) :: _) _ _ _; refine G.call callROn rfl rfl (rOn tvq _) Ze ?_; rintro _ h8 H8 rfl hle8) | (refine G.atCode ?_; first | refine G.seq ?_ | refine G.region ?_ | refine G.skip ?_ | refine G.ret ?_ | (refine G.cond rfl ?_ ?_ <;> intro hc <;> (try simp only [tests, reduceCtorEq] at hc) <;> (try exact Zf))) | refine G.endOps ?_ | refine G.endBlk ?_ | (refine G.atGd ?_; first | refine G.guardYes rfl rfl ?_) | (refine G.atBin ?_; first | (refine G.atAdd ?_; first | refine G.arith rfl rfl rfl rfl rfl Zi ?_) | (refine G.atEql ?_; first | refine G.op rfl rfl ?_) | (refine G.atNeq ?_; first | refine G.op rfl rfl ?_) | refine G.op rfl rfl ?_) | refine G.op rfl rfl ?_ | (refine G.atLen ?_; first | refine G.lenSlice rfl (tyy rfl) rfl ?_))
      all_goals first
        | exact G.done1 rfl rfl [] (SubH.nil _) rfl
        | exact G.again ⟨n + 1, told, A, c, maybe, op, i, { D2 with off := false, left := 0 }, T ++ OT, tvq⟩ ⟨sint (by simp), rfl, rfl, rfl, rfl, rfl, rfl, rfl, rfl, trivial⟩ (by simp only [laC, dkC, rkD, rkC, List.cons_append, List.nil_append]; exact Zu)
            ⟨by simp only; omega, hI9, la_on io.1 io.2.1 hg.w (by rw [hg.sh.2]; exact hcl) (by rw [hg.sh.1]; exact hcm), fun _ => ⟨hlr.r, hlr.m⟩, by simp only [List.length_append]; omega, hTg.app hog, hl9⟩ (by solve | repeat first | assumption | exact Zr _ | refine Zq ?_ Zp) (by simp only; omega)
        | trace_state
    . rw [o] at sO rO io
      dsimp only at io
      rw [ot, show trR [] = [] from rfl, List.append_nil] at rO
      simp only [OpR, OpQ] at sO rO
      have hJ2 := (JI.opened Zp Zp hlm1 o).1
      have sM := fun tv => ref06_Mixed r lv wv tv false 0 T hTg (by omega) D2 D2.lasts (waitL D2)
      simp only [jdC, jnC, dkC, List.cons_append, List.nil_append] at sO
      simp only [rjC, rjB, rkD, rkC, List.cons_append, List.nil_append] at rO
      unfold rkC at sM
      simp only [laC, dkC, rkD, rkC, List.cons_append, List.nil_append]
      repeat' (first | (show G _ (.ops .seq _ (⟨some _, .call { callee := .value (.func 11), args := _, argTypes := _ }, _, _, _, none⟩ :: _) :: _) _ _ _; refine G.call callOpen6 rfl rfl (sO _) Ze ?_; rintro _ h5 H5 ⟨gj, jA, jc, rfl, hsj, rfl⟩ hle5) | (show G _ (.ops .seq _ (⟨some _, .call { callee := .value (.func 12), args := _, argTypes := _ }, _, _, _, none⟩ :: _) :: _) _ _ _; refine G.call callQOpen rfl rfl (rO _) Ze ?_; rintro _ h6 H6 ⟨tvq, gq, qA, qc, rfl, hsq, rfl⟩ hle6) | (show G _ (.ops .seq _ (⟨some _, .call { callee := .value (.func 13), args := _, argTypes := _ }, _, _, _, none⟩ :: _) :: _) _ _ _; refine G.call callMixed rfl rfl (sM tvq _) Ze ?_; rintro _ h16 H16 ⟨b, rfl, hbb, rfl⟩ hle16; cases b) | (refine G.atCode ?_; refine G.stopIf 17 ?_) | (refine G.atCode ?_; first | refine G.seq ?_ | refine G.region ?_ | refine G.skip ?_ | refine G.ret ?_ | (refine G.cond rfl ?_ ?_ <;> intro hc <;> (try simp only [tests, reduceCtorEq] at hc) <;> (try exact Zf))) | refine G.endOps ?_ | (refine G.atBin ?_; first | (refine G.atEql ?_; first | refine G.op rfl rfl ?_)) | refine G.op rfl rfl ?_)
      all_goals first | exact G.done1 rfl rfl [] (SubH.nil _) rfl | skip
      obtain ⟨hk, hlv, hg, hbs⟩ := hA (hbb rfl)
      refine G.go ?_
      refine G.meet (σ := Option Addr × Nat) (fun y => [(15, .pointer (some ⟨gq, 0, none⟩)), (14, .int .i64 0), (13, .slice jA bs.length jc), (12, .pointer (some ⟨gj, 0, none⟩)), (11, .int .i64 n), (10, .int .i64 i), (8, str maybe), (7, .slice y.1 bs.length y.2), (6, .pointer (some ⟨r, 0, none⟩)), (5, .pointer (some ⟨d, 0, none⟩)), (1, .slice cA cuts.length cc), (0, .slice bA bodies.length bc)])
        (fun y => lbC gj d m v gq r lv wv tvq T J D2 y.1 y.2 bs) (fun _ _ => True) ?_ ?_
      . have hsj1 := hsj.mono (show Heap.le _ h16 from (by solve | repeat first | assumption | exact Zr _ | refine Zq ?_ Zp))
        have hbsl : bs.length = told.length \/ bs.length = told.length + 1 := by rcases hbs with hh | ⟨_, hh⟩ <;> rw [hh] <;> simp
        rcases hbs with hbs | ⟨hop, hbs⟩
        . subst hbs
          cases op
          . repeat' (first | (refine G.atCode ?_; first | refine G.seq ?_ | refine G.region ?_ | refine G.skip ?_ | (refine G.cond rfl ?_ ?_ <;> intro hc <;> (try simp only [tests, reduceCtorEq] at hc) <;> (try exact Zf))) | refine G.endOps ?_ | (refine G.atGd ?_; first | refine G.guardNoS rfl rfl rfl ?_) | refine G.op rfl rfl ?_)
            all_goals first | (exfalso; omega) | exact G.met ⟨A, c⟩ ⟨rfl, rfl, rfl, rfl, rfl, rfl, rfl, rfl, rfl, rfl, rfl, rfl, trivial⟩ (by simp only [lbC, jrC, jdC, jnC, rjC, rjB, dkC, rkD, rkC, List.cons_append, List.nil_append]; exact Zu) (by solve | repeat first | assumption | exact Zr _ | refine Zq ?_ Zp) trivial | trace_state
          . repeat' (first | (refine G.atCode ?_; first | refine G.seq ?_ | refine G.region ?_ | refine G.skip ?_ | (refine G.cond rfl ?_ ?_ <;> intro hc <;> (try simp only [tests, reduceCtorEq] at hc) <;> (try exact Zf))) | refine G.endOps ?_ | (refine G.atGd ?_; first | refine G.guardYes rfl rfl ?_ | refine G.guardNoS rfl rfl rfl ?_ | (refine G.guardS rfl rfl rfl ?_ ?_ <;> intro hc <;> (try simp only [tests, reduceCtorEq] at hc) <;> (try exact Zf))) | (refine G.atBin ?_; first | (refine G.atAdd ?_; first | refine G.arith rfl rfl rfl rfl rfl Zi ?_) | (refine G.atEql ?_; first | refine G.op rfl rfl ?_)) | refine G.op rfl rfl ?_ | (refine G.atLen ?_; first | refine G.lenSlice rfl (tyy rfl) rfl ?_))
            all_goals first | (exfalso; omega) | exact G.met ⟨A, c⟩ ⟨rfl, rfl, rfl, rfl, rfl, rfl, rfl, rfl, rfl, rfl, rfl, rfl, trivial⟩ (by simp only [lbC, jrC, jdC, jnC, rjC, rjB, dkC, rkD, rkC, List.cons_append, List.nil_append]; exact Zu) (by solve | repeat first | assumption | exact Zr _ | refine Zq ?_ Zp) trivial | trace_state
        . subst hop
          have hat : strAt bs told.length = maybe := by rw [hbs]; simp [strAt]
          have hbl1 : bs.length = told.length + 1 := by rw [hbs]; simp
          repeat' (first | (refine G.atIdx ?_; refine G.idxImmS rfl rfl (tyy rfl) (tyy rfl) hsj1 Zj rfl (by omega) ?_; intro _ _) | (refine G.atApp ?_; refine G.append1S rfl rfl (tyy rfl) (tyy rfl) rfl rfl Za Za rfl Zo ?_; intro _; refine G.rowForm Take.hd ?_; rintro _ _ rfl) | (refine G.atCode ?_; first | refine G.seq ?_ | refine G.region ?_ | (refine G.cond rfl ?_ ?_ <;> intro hc <;> (try simp only [tests, reduceCtorEq] at hc) <;> (try exact Zf))) | refine G.endOps ?_ | (refine G.atGd ?_; first | refine G.guardYes rfl rfl ?_ | (refine G.guardS rfl rfl rfl ?_ ?_ <;> intro hc <;> (try simp only [tests, reduceCtorEq] at hc) <;> (try exact Zf))) | (refine G.atBin ?_; first | (refine G.atAdd ?_; first | refine G.arith rfl rfl rfl rfl rfl Zi ?_) | (refine G.atEql ?_; first | refine G.op rfl rfl ?_ | refine G.eqStr rfl rfl rfl ?_)) | refine G.op rfl rfl ?_ | (refine G.atLen ?_; first | refine G.lenSlice rfl (tyy rfl) rfl ?_) | (refine G.atLoad ?_; first | refine G.loadImm1 rfl (tyy rfl) rfl rfl Zp rfl ?_) | (refine G.atBsl ?_; refine G.buildSlice (tyy rfl) (tyy rfl) rfl rfl rfl rfl ?_; intro _))
          all_goals first | (exfalso; omega) | (exfalso; contradiction) | skip
          all_goals rw [<- hbs, strsR_length]
          all_goals first | exact G.met ⟨_, _⟩ ⟨rfl, rfl, rfl, rfl, rfl, rfl, rfl, rfl, rfl, rfl, rfl, rfl, trivial⟩ (by simp only [lbC, jrC, jdC, jnC, rjC, rjB, dkC, rkD, rkC, List.cons_append, List.nil_append]; exact Zu) (by solve | repeat first | assumption | exact Zr _ | refine Zq ?_ Zp) trivial | trace_state
      . rintro ⟨yA, yc⟩ h17 hle17 _
        dsimp only
        have hsj1 := hsj.mono (show Heap.le _ h17 from (by solve | repeat first | assumption | exact Zr _ | refine Zq ?_ Zp))
        have sS := law06_sameO bs (by omega) _ yA yc _ hsj1
        simp only [lbC, jrC, jdC, jnC, rjC, rjB, dkC, rkD, rkC, List.cons_append, List.nil_append]
        repeat' (first | (show G _ (.ops .seq _ (⟨some _, .call { callee := .value (.func 14), args := _, argTypes := _ }, _, _, _, none⟩ :: _) :: _) _ _ _; refine G.call callSame6 rfl rfl (sS) Ze ?_; rintro _ h18 H18 ⟨rfl, rfl⟩ hle18) | (refine G.atCode ?_; refine G.stopLoop ?_) | (refine G.atCode ?_; first | refine G.seq ?_ | refine G.region ?_ | refine G.block ?_ | refine G.skip ?_ | (refine G.cond rfl ?_ ?_ <;> intro hc <;> (try simp only [tests, reduceCtorEq] at hc) <;> (try exact Zf))) | refine G.endOps ?_ | (refine G.atGd ?_; first | refine G.guardYes rfl rfl ?_) | (refine G.atBin ?_; first | (refine G.atEql ?_; first | refine G.eqPtr rfl rfl (tyy rfl) rfl ?_)) | refine G.op rfl rfl ?_)
        have hbl2 : bs.length <= i := by
          rcases hbs with hh | ⟨hh1, hh⟩
          . rw [hh]; omega
          . rw [hh, List.length_append]; rw [hh1] at hl9; exact hl9
        refine G.go ?_
        refine G.loop (σ := LJ) (fun y => [(15, .pointer (some ⟨gq, 0, none⟩)), (14, .int .i64 y.e), (12, .pointer (some ⟨gj, 0, none⟩)), (11, .int .i64 n), (10, .int .i64 y.i), (9, .bool y.op), (8, str y.maybe), (7, .slice y.A y.told.length y.c), (6, .pointer (some ⟨r, 0, none⟩)), (5, .pointer (some ⟨d, 0, none⟩)), (1, .slice cA cuts.length cc), (0, .slice bA bodies.length bc)])
          (fun y => lbC gj d m v gq r lv wv y.tv y.T y.J y.D y.A y.c y.told) (fun y _ => LK bodies.length cuts.length n y) (fun y => bodies.length - y.i) ⟨bs, yA, yc, maybe, false, i, 0, D2, J, T, tvq⟩ ⟨rfl, rfl, rfl, rfl, rfl, rfl, rfl, rfl, rfl, rfl, rfl, rfl, trivial⟩ (by simp only [lbC, jrC, jdC, jnC, rjC, rjB, dkC, rkD, rkC, List.cons_append, List.nil_append]; exact Zu)
          ⟨hI9, hJ2, hk.w, by rw [hk.sh.2]; exact hcl, by rw [hk.sh.1]; exact hcm, hTg, hbl2, .inl ⟨rfl, hk.off, fun e => hk.left (hcf e), hlv, hg, hbb rfl, rfl, hTl⟩⟩ ?_
        clear hA hbb hbs hk hlv hg hTl hTg sM sO rO io hJ2 hol hog hcf hlr1 hcok hcwk
        rintro ⟨told2, A2, c2, maybe2, op2, i2, e2, D3, J3, T3, tv3⟩ h3 hle3 hK
        have hKc := hK.c
        have hKi := hK.i
        have hJI := hK.ji
        have hKw := hK.w
        have hKl := hK.len
        have hKm := hK.lim
        have hKg := hK.g
        have hKt := hK.l
        clear hK
        dsimp only at hKc hKi hJI hKw hKl hKm hKg hKt ⊢
        rcases hKc with ⟨rfl, ho, hlf, hlv, hg2, hnm, rfl, htl⟩ | ⟨rfl, hnk, hlr, htl⟩
        . by_cases hlt : i2 < bodies.length
          . have hlm3 : LimR false 0 D3 := .inr ⟨rfl, by rw [hKm, hKl]; rfl⟩
            have sC := law06_cut (strAt bodies i2) (hb _ (strAt_in (by omega))) 300 (by decide)
            have hbx : ((strAt bodies i2).take 300).length <= 300 := by rw [List.length_take]; omega
            generalize (strAt bodies i2).take 300 = b at *
            have hap := las_append (D := D3) ho hKw (by omega) (J := J3) (bs := told2) (by rw [la_size hKl]; exact hlv) (b := b) (by omega)
            rw [la_size hKl] at hap
            have sA := jo_Append gj d m v J3 D3 hJI b (by omega)
            have rA := rj_Append gq r lv wv tv3 false 0 (trR T3) (by rw [trR_len]; omega) J3 D3 hJI hlm3 b (by omega)
            have hal := appendT_len (D := D3) J3 b hJI.ok.n
            rw [trR_len] at hal
            have hag := appendT_got hJI.ok J3 b
            have hJ4 := hJI.append b
            rcases hap with ⟨D4, J4, ea, et, k4, lv4, g4⟩ | ⟨ea, et⟩ | ⟨D4, J4, ea, g4, hr4⟩
            . rw [ea] at sA rA hJ4
              rw [et, show trR [] = [] from rfl, List.append_nil] at rA
              simp only [jdC, jnC, dkC, List.cons_append, List.nil_append] at sA
              simp only [rjC, rjB, rkD, rkC, List.cons_append, List.nil_append] at rA
              simp only [lbC, jrC, jdC, jnC, rjC, rjB, dkC, rkD, rkC, List.cons_append, List.nil_append]
              repeat' (first | (refine G.atIdx ?_; refine G.idxImmS rfl rfl (tyy rfl) (tyy rfl) (hv1.mono (by solve | repeat first | assumption | exact Zr _ | refine Zq ?_ Zp)) Zj rfl (by omega) ?_; intro _ _) | (show G _ (.ops .seq _ (⟨some _, .call { callee := .value (.func 15), args := _, argTypes := _ }, _, _, _, none⟩ :: _) :: _) _ _ _; refine G.call callCut6 rfl rfl (sC _) Ze ?_; rintro _ h4 H4 ⟨rfl, rfl⟩ hle4) | (show G _ (.ops .seq _ (⟨some _, .call { callee := .value (.func 16), args := _, argTypes := _ }, _, _, _, none⟩ :: _) :: _) _ _ _; refine G.call callAppend6 rfl rfl (sA _) Ze ?_; rintro _ h5 H5 ⟨rfl, rfl⟩ hle5) | (show G _ (.ops .seq _ (⟨some _, .call { callee := .value (.func 17), args := _, argTypes := _ }, _, _, _, none⟩ :: _) :: _) _ _ _; refine G.call callQAppend rfl rfl (rA _) Ze ?_; rintro _ h6 H6 ⟨tva, rfl, rfl⟩ hle6) | (refine G.atApp ?_; refine G.append1S rfl rfl (tyy rfl) (tyy rfl) rfl rfl Za Za rfl Zo ?_; intro _; refine G.rowForm Take.hd ?_; rintro _ _ rfl) | (refine G.atCode ?_; first | refine G.seq ?_ | refine G.region ?_ | refine G.block ?_ | refine G.skip ?_ | (refine G.cond rfl ?_ ?_ <;> intro hc <;> (try simp only [tests, reduceCtorEq] at hc) <;> (try exact Zf))) | refine G.endOps ?_ | refine G.endBlk ?_ | (refine G.atGd ?_; first | refine G.guardYes rfl rfl ?_ | (refine G.guardS rfl rfl rfl ?_ ?_ <;> intro hc <;> (try simp only [tests, reduceCtorEq] at hc) <;> (try exact Zf))) | (refine G.atBin ?_; first | (refine G.atAdd ?_; first | refine G.arith rfl rfl rfl rfl rfl Zi ?_) | (refine G.atEql ?_; first | refine G.op rfl rfl ?_) | refine G.op rfl rfl ?_) | refine G.op rfl rfl ?_ | (refine G.atLen ?_; first | refine G.lenSlice rfl (tyy rfl) rfl ?_) | (refine G.atLoad ?_; first | refine G.loadImm1 rfl (tyy rfl) rfl rfl Zp rfl ?_) | (refine G.atBsl ?_; refine G.buildSlice (tyy rfl) (tyy rfl) rfl rfl rfl rfl ?_; intro _))
              all_goals first | (exfalso; omega) | skip
              all_goals rw [strsR_length]
              all_goals first
                | exact G.again ⟨told2 ++ [b], _, _, maybe2, false, i2 + 1, 0, D4, J4, T3, tva⟩ ⟨rfl, rfl, rfl, rfl, sint (by simp), rfl, rfl, rfl, rfl, rfl, rfl, rfl, trivial⟩ (by simp only [lbC, jrC, jdC, jnC, rjC, rjB, dkC, rkD, rkC, List.cons_append, List.nil_append]; exact Zu)
                    ⟨by simp only; omega, hJ4, k4.w, by rw [k4.sh.2]; exact hKl, by rw [k4.sh.1]; exact hKm, hKg, by simp only [List.length_append, List.length_cons, List.length_nil] at hKt ⊢; omega, .inl ⟨rfl, k4.off, fun e => k4.left (hlf e), lv4, by simp only; omega, hnm, rfl, htl⟩⟩ (by solve | repeat first | assumption | exact Zr _ | refine Zq ?_ Zp) (by simp only; omega)
                | trace_state
            . rw [ea] at sA rA
              rw [et, show trR [] = [] from rfl, List.append_nil] at rA
              simp only [jdC, jnC, dkC, List.cons_append, List.nil_append] at sA
              simp only [rjC, rjB, rkD, rkC, List.cons_append, List.nil_append] at rA
              simp only [lbC, jrC, jdC, jnC, rjC, rjB, dkC, rkD, rkC, List.cons_append, List.nil_append]
              repeat' (first | (refine G.atIdx ?_; refine G.idxImmS rfl rfl (tyy rfl) (tyy rfl) (hv1.mono (by solve | repeat first | assumption | exact Zr _ | refine Zq ?_ Zp)) Zj rfl (by omega) ?_; intro _ _) | (show G _ (.ops .seq _ (⟨some _, .call { callee := .value (.func 15), args := _, argTypes := _ }, _, _, _, none⟩ :: _) :: _) _ _ _; refine G.call callCut6 rfl rfl (sC _) Ze ?_; rintro _ h4 H4 ⟨rfl, rfl⟩ hle4) | (show G _ (.ops .seq _ (⟨some _, .call { callee := .value (.func 16), args := _, argTypes := _ }, _, _, _, none⟩ :: _) :: _) _ _ _; refine G.call callAppend6 rfl rfl (sA _) Ze ?_; rintro _ h5 H5 ⟨rfl, rfl⟩ hle5) | (show G _ (.ops .seq _ (⟨some _, .call { callee := .value (.func 17), args := _, argTypes := _ }, _, _, _, none⟩ :: _) :: _) _ _ _; refine G.call callQAppend rfl rfl (rA _) Ze ?_; rintro _ h6 H6 ⟨tva, rfl, rfl⟩ hle6) | (refine G.atCode ?_; first | refine G.seq ?_ | refine G.region ?_ | refine G.block ?_ | refine G.skip ?_ | (refine G.cond rfl ?_ ?_ <;> intro hc <;> (try simp only [tests, reduceCtorEq] at hc) <;> (try exact Zf))) | refine G.endOps ?_ | refine G.endBlk ?_ | (refine G.atGd ?_; first | refine G.guardYes rfl rfl ?_ | (refine G.guardS rfl rfl rfl ?_ ?_ <;> intro hc <;> (try simp only [tests, reduceCtorEq] at hc) <;> (try exact Zf))) | (refine G.atBin ?_; first | (refine G.atAdd ?_; first | refine G.arith rfl rfl rfl rfl rfl Zi ?_) | (refine G.atEql ?_; first | refine G.op rfl rfl ?_) | refine G.op rfl rfl ?_) | refine G.op rfl rfl ?_ | (refine G.atLen ?_; first | refine G.lenSlice rfl (tyy rfl) rfl ?_) | (refine G.atLoad ?_; first | refine G.loadImm1 rfl (tyy rfl) rfl rfl Zp rfl ?_))
              all_goals first
                | (exfalso; omega)
                | exact G.again ⟨told2, A2, c2, maybe2, false, i2 + 1, 0, D3, J3, T3, tva⟩ ⟨rfl, rfl, rfl, rfl, sint (by simp), rfl, rfl, rfl, rfl, rfl, rfl, rfl, trivial⟩ (by simp only [lbC, jrC, jdC, jnC, rjC, rjB, dkC, rkD, rkC, List.cons_append, List.nil_append]; exact Zu)
                    ⟨by simp only; omega, hJI, hKw, hKl, hKm, hKg, by simp only at hKt ⊢; omega, .inl ⟨rfl, ho, hlf, hlv, hg2, hnm, rfl, htl⟩⟩ (by solve | repeat first | assumption | exact Zr _ | refine Zq ?_ Zp) (by simp only; omega)
                | trace_state
            . rw [ea] at sA rA hJ4
              generalize appendT D3 J3 b = AT at *
              rw [<- trR_app] at rA
              simp only [jdC, jnC, dkC, List.cons_append, List.nil_append] at sA
              simp only [rjC, rjB, rkD, rkC, List.cons_append, List.nil_append] at rA
              have hnk : n < cuts.length := by apply Classical.byContradiction; intro hz; exact g4.left (hlf (by omega))
              simp only [lbC, jrC, jdC, jnC, rjC, rjB, dkC, rkD, rkC, List.cons_append, List.nil_append]
              repeat' (first | (refine G.atIdx ?_; refine G.idxImmS rfl rfl (tyy rfl) (tyy rfl) (hv1.mono (by solve | repeat first | assumption | exact Zr _ | refine Zq ?_ Zp)) Zj rfl (by omega) ?_; intro _ _) | (show G _ (.ops .seq _ (⟨some _, .call { callee := .value (.func 15), args := _, argTypes := _ }, _, _, _, none⟩ :: _) :: _) _ _ _; refine G.call callCut6 rfl rfl (sC _) Ze ?_; rintro _ h4 H4 ⟨rfl, rfl⟩ hle4) | (show G _ (.ops .seq _ (⟨some _, .call { callee := .value (.func 16), args := _, argTypes := _ }, _, _, _, none⟩ :: _) :: _) _ _ _; refine G.call callAppend6 rfl rfl (sA _) Ze ?_; rintro _ h5 H5 ⟨rfl, rfl⟩ hle5) | (show G _ (.ops .seq _ (⟨some _, .call { callee := .value (.func 17), args := _, argTypes := _ }, _, _, _, none⟩ :: _) :: _) _ _ _; refine G.call callQAppend rfl rfl (rA _) Ze ?_; rintro _ h6 H6 ⟨tva, rfl, rfl⟩ hle6) | (refine G.atCode ?_; first | refine G.seq ?_ | refine G.region ?_ | refine G.block ?_ | refine G.skip ?_ | (refine G.cond rfl ?_ ?_ <;> intro hc <;> (try simp only [tests, reduceCtorEq] at hc) <;> (try exact Zf))) | refine G.endOps ?_ | refine G.endBlk ?_ | (refine G.atGd ?_; first | refine G.guardYes rfl rfl ?_ | (refine G.guardS rfl rfl rfl ?_ ?_ <;> intro hc <;> (try simp only [tests, reduceCtorEq] at hc) <;> (try exact Zf))) | (refine G.atBin ?_; first | (refine G.atAdd ?_; first | refine G.arith rfl rfl rfl rfl rfl Zi ?_) | (refine G.atEql ?_; first | refine G.op rfl rfl ?_) | refine G.op rfl rfl ?_) | refine G.op rfl rfl ?_ | (refine G.atLen ?_; first | refine G.lenSlice rfl (tyy rfl) rfl ?_) | (refine G.atLoad ?_; first | refine G.loadImm1 rfl (tyy rfl) rfl rfl Zp rfl ?_))
              all_goals first
                | (exfalso; omega)
                | exact G.again ⟨told2, A2, c2, b, true, i2 + 1, 10, D4, J4, T3 ++ AT, tva⟩ ⟨rfl, rfl, rfl, rfl, sint (by simp), rfl, rfl, rfl, rfl, rfl, rfl, rfl, trivial⟩ (by simp only [lbC, jrC, jdC, jnC, rjC, rjB, dkC, rkD, rkC, List.cons_append, List.nil_append]; exact Zu)
                    ⟨by simp only; omega, hJ4, g4.w, by rw [g4.sh.2]; exact hKl, by rw [g4.sh.1]; exact hKm, hKg.app hag, by simp only at hKt ⊢; simp only [if_true]; omega, .inr ⟨rfl, hnk, fun hn => ⟨(hr4 hn.right).1.imp id (fun q => ⟨rfl, q⟩), Nat.le_trans (hr4 hn.right).2 hg2⟩, by simp only [List.length_append]; omega⟩⟩ (by solve | repeat first | assumption | exact Zr _ | refine Zq ?_ Zp) (by simp only; omega)
                | trace_state
          . have hd5 := la_on hJI.ok hJI.wk hKw hKl hKm
            have sOn := disk_On d m v D3
            have htell := hlv.tells (by omega)
            have hmost := hlv.most
            obtain ⟨D6, J6, o6, _⟩ := open_rest (D := { D3 with off := false, left := 0 }) ⟨rfl, rfl⟩ hKw (by rw [hd5.len]; decide) (by rw [hd5.len]; decide) (by rw [hd5.lim, hd5.len]; rfl) (by rw [la_size hd5.len]; show mostL D3.lasts 19 < _; omega)
            rw [la_size hd5.len] at o6
            dsimp only at o6
            rw [htell] at o6
            have sP := fun h => jo_Open d m v { D3 with off := false, left := 0 } hd5.ok hd5.wk (by rw [hd5.lim]; decide) h
            rw [o6] at sP
            simp only [OpR, jdC, jnC, dkC, List.cons_append, List.nil_append] at sP
            unfold dkC at sOn
            simp only [lbC, jrC, jdC, jnC, rjC, rjB, dkC, rkD, rkC, List.cons_append, List.nil_append]
            repeat' (first | (show G _ (.ops .seq _ (⟨some _, .call { callee := .value (.func 18), args := _, argTypes := _ }, _, _, _, none⟩ :: _) :: _) _ _ _; refine G.call callOn rfl rfl (sOn _) Ze ?_; rintro _ h7 H7 rfl hle7) | (show G _ (.ops .seq _ (⟨some _, .call { callee := .value (.func 11), args := _, argTypes := _ }, _, _, _, none⟩ :: _) :: _) _ _ _; refine G.call callOpen6 rfl rfl (sP _) Ze ?_; rintro _ h8 H8 ⟨gP, pA, pc, rfl, hsP, rfl⟩ hle8) | (show G _ (.ops .seq _ (⟨some _, .call { callee := .value (.func 14), args := _, argTypes := _ }, _, _, _, none⟩ :: _) :: _) _ _ _; refine G.call callSame6 rfl rfl (law06_sameO told2 (by omega) _ A2 c2 _ (hsP.mono (by solve | repeat first | assumption | exact Zr _ | refine Zq ?_ Zp))) Ze ?_; rintro _ h9 H9 ⟨rfl, rfl⟩ hle9) | (refine G.atCode ?_; first | refine G.seq ?_ | refine G.region ?_ | refine G.exit rfl ?_ | refine G.ret ?_ | (refine G.cond rfl ?_ ?_ <;> intro hc <;> (try simp only [tests, reduceCtorEq] at hc) <;> (try exact Zf))) | refine G.endOps ?_ | (refine G.atGd ?_; first | refine G.guardYes rfl rfl ?_ | refine G.guardNoS rfl rfl rfl ?_ | (refine G.guardS rfl rfl rfl ?_ ?_ <;> intro hc <;> (try simp only [tests, reduceCtorEq] at hc) <;> (try exact Zf))) | (refine G.atBin ?_; first | (refine G.atEql ?_; first | refine G.op rfl rfl ?_) | refine G.op rfl rfl ?_) | refine G.op rfl rfl ?_ | (refine G.atLen ?_; first | refine G.lenSlice rfl (tyy rfl) rfl ?_))
            all_goals first | (exfalso; omega) | exact G.done1 rfl rfl [] (SubH.nil _) rfl | trace_state
        . have sOn := disk_On d m v D3
          have rOn := refd_On r lv wv tv3 false 0 (trR T3) D3 D3.lasts (waitL D3)
          unfold dkC at sOn
          unfold rkC at rOn
          simp only [lbC, jrC, jdC, jnC, rjC, rjB, dkC, rkD, rkC, List.cons_append, List.nil_append]
          repeat' (first | (show G _ (.ops .seq _ (⟨some _, .call { callee := .value (.func 18), args := _, argTypes := _ }, _, _, _, none⟩ :: _) :: _) _ _ _; refine G.call callOn rfl rfl (sOn _) Ze ?_; rintro _ h7 H7 rfl hle7) | (show G _ (.ops .seq _ (⟨some _, .call { callee := .value (.func 19), args := _, argTypes := _ }, _, _, _, none⟩ :: _) :: _) _ _ _; refine G.call callROn rfl rfl (rOn _) Ze ?_; rintro _ h8 H8 rfl hle8) | (refine G.atCode ?_; first | refine G.seq ?_ | refine G.region ?_ | refine G.skip ?_ | refine G.exit rfl ?_ | (refine G.cond rfl ?_ ?_ <;> intro hc <;> (try simp only [tests, reduceCtorEq] at hc) <;> (try exact Zf))) | refine G.endOps ?_ | refine G.endBlk ?_ | (refine G.atGd ?_; first | refine G.guardYes rfl rfl ?_ | refine G.guardNoS rfl rfl rfl ?_ | (refine G.guardS rfl rfl rfl ?_ ?_ <;> intro hc <;> (try simp only [tests, reduceCtorEq] at hc) <;> (try exact Zf))) | (refine G.atBin ?_; first | (refine G.atAdd ?_; first | refine G.arith rfl rfl rfl rfl rfl Zi ?_) | (refine G.atEql ?_; first | refine G.op rfl rfl ?_) | (refine G.atNeq ?_; first | refine G.op rfl rfl ?_) | refine G.op rfl rfl ?_) | refine G.op rfl rfl ?_ | (refine G.atLen ?_; first | refine G.lenSlice rfl (tyy rfl) rfl ?_))
          all_goals first
            | (exfalso; omega)
            | exact G.again ⟨n + 1, told2, A2, c2, maybe2, op2, i2, { D3 with off := false, left := 0 }, T3, tv3⟩ ⟨sint (by simp), rfl, rfl, rfl, rfl, rfl, rfl, rfl, rfl, trivial⟩ (by simp only [laC, dkC, rkD, rkC, List.cons_append, List.nil_append]; exact Zu)
                ⟨by simp only; omega, hKi, la_on hJI.ok hJI.wk hKw hKl hKm, fun hn => ⟨(hlr hn).r, (hlr hn).m⟩, by simp only; omega, hKg, hKt⟩ (by solve | repeat first | assumption | exact Zr _ | refine Zq ?_ Zp) (by simp only; omega)
            | trace_state
end Go.Proofs.YtmbpjgjajedonaaGreatDoor
