/- castellanref13.Wants. -/
import Derived.Test.YtfmekdmpghhegaaScG
import Derived.Test.YtfmekdmpghhegaaScF
import Derived.Test.YtfmekdmpghhegaaScE
namespace Go.Proofs.Ytfmekdmpghhegaa
set_option linter.all false
set_option maxRecDepth 4000
open Go.RowKit

theorem callWantsR : Callable Try.prog 14 := ⟨_, Try.func14, by kernel_rfl, rfl⟩
theorem uM_snoc (P : List (List UInt8)) (x : List UInt8) : uM (P ++ [x]) = putU (uM P) x := by rw [uM_app]; rfl
theorem ris_nodup {l : List (List UInt8)} (h : Ris l) : l.Nodup := h.imp fun hab e => by subst e; exact bl_irr _ hab
theorem uM_len {P F : List (List UInt8)} (h : ∀ x ∈ P, x ∈ F) : (uM P).length <= F.length := nodup_len (ris_nodup (uM_ris P)) fun x hx => h x (uM_mem.1 hx)
theorem setM_len {es : Ens} {c : Nat} {P F : List (List UInt8)} (s : SetM es c P) (h : ∀ x ∈ P, x ∈ F) : es.length <= F.length := by
  have := nodup_len s.k (m := F) fun x hx => h x ((s.m x).1 hx)
  simpa using this
def mustU (C : List Cls) (u : List UInt8) : List (List UInt8) := (gtC C u).2.2.2.1.map foldM
def mayV (C : List Cls) (u : List UInt8) : List (List UInt8) := (gtC C u).2.2.2.2.map foldM
theorem flat_snoc {f : List UInt8 -> List (List UInt8)} {l : List (List UInt8)} {i : Nat} {w : List UInt8} (h : l[i]? = some w) : (l.take (i + 1)).flatMap f = (l.take i).flatMap f ++ f w := by
  rw [take_get h, List.flatMap_append]; simp
theorem map_snoc {f : List UInt8 -> List UInt8} {l : List (List UInt8)} {i : Nat} {w : List UInt8} (h : l[i]? = some w) : (l.take (i + 1)).map f = (l.take i).map f ++ [f w] := by
  rw [take_get h, List.map_append]; rfl
theorem tyF_len (T : List Ty4) : (tyF T).length = T.length := by simp [tyF]
theorem in_snoc {P F : List (List UInt8)} {x : List UInt8} (h : ∀ y ∈ P, y ∈ F) (hx : x ∈ F) : ∀ y ∈ P ++ [x], y ∈ F := fun y hy => by
  rcases List.mem_append.1 hy with hy | hy
  . exact h y hy
  . simp at hy; subst hy; exact hx
theorem chM_ix {C : List Cls} (g : GoodC C) {w u : List UInt8} (h : u ∈ chM C w) : ∃ j c, ixC C u = some j /\ C[j]? = some c /\ gtC C u = c := by
  cases hw : ixC C w with
  | none => rw [chM_none hw] at h; simp at h
  | some i =>
    obtain ⟨j, c, _, h2, h3⟩ := chM_mem g i w u hw h
    subst h3
    exact ⟨j, c, g.one j c h2, h2, gtC_of (g.one j c h2) h2⟩
set_option maxRecDepth 8000 in
set_option maxHeartbeats 8000000 in
theorem ref13_Wants (T : List Ty4) (C : List Cls) (hk : chkS T C = 0) (hC : ∀ c ∈ C, ClsB c) (AT : Option Addr) (nT cT : Nat) (vC vW : Value) (rc : List (List Value)) (ws : List (List UInt8)) (hw : ∀ w ∈ ws, w.length <= 10000000) (h : Heap) (hvC : HSl h vC 5 rc) (hrc : ClsC h C rc) (hW : HSl h vW 1 (strsR ws)) :
    Spec Try.prog 14 [.agg #[.slice AT nT cT, vC], vW] h [] (fun u h' H' => (∃ v1 v2, u = .tuple #[v1, v2] /\ HSl h' v1 1 (strsR (uM (mustF C ws))) /\ HSl h' v2 1 (strsR (mayU C ws))) /\ H' = []) := by
  obtain ⟨g, hTl, hCl⟩ := good_of hk
  have hgt := good_gt hk
  have hFl := tyF_len T
  have hrl := hrc.len
  obtain ⟨AC, cC, rfl, hcC, hmC, _⟩ := hvC.form
  rw [hrl] at *
  have hrl := hrc.len
  have hwl := hW.len
  obtain ⟨AW, cW, rfl, _⟩ := hW.form
  rw [strsR_length] at *
  have sch := fun q (hq : q.length <= 10000000) => ref13_Chain C hC (by omega) AT nT cT (.slice AC C.length cC) rc q hq
  have sat := fun q (hq : q.length <= 100000000) => ref13_ClassAt C (ClsB.ok hC) (.slice AC C.length cC) rc q hq
  refine Spec.enter Try.func14 rfl rfl ?_; intro w0
  repeat' (first | (refine G.atCode ?_; refine G.stopLoop ?_) | (refine G.atCode ?_; first | refine G.seq ?_ | refine G.region ?_ | refine G.block ?_) | refine G.endOps ?_ | refine G.op rfl rfl ?_ | (refine G.atLen ?_; first | refine G.lenSlice rfl (tyy rfl) rfl ?_) | (refine G.atBox ?_; refine G.box rfl rfl rfl ?_; intro _))
  rename_i gS
  refine G.go ?_
  refine G.loop (σ := Nat × Value × Value) (fun x => [(22, .int .i64 x.1), (21, .int .i64 ws.length), (20, .slice AW ws.length cW), (6, x.2.1), (7, x.2.2), (8, .slice none 0 0), (2, .pointer (some ⟨gS, 0, none⟩))])
    (fun _ => [.blk gS [.slice AT nT cT, .slice AC C.length cC] 25])
    (fun x h1 => x.1 <= ws.length /\ HSl h1 x.2.1 1 (strsR (uM (mustF C (ws.take x.1)))) /\ HSl h1 x.2.2 1 (strsR (uM (mayF C (ws.take x.1)))) /\ (∀ y ∈ mustF C (ws.take x.1), y ∈ tyF T) /\ ∀ y ∈ mayF C (ws.take x.1), y ∈ tyF T) (fun x => ws.length - x.1) ⟨0, .slice none 0 0, .slice none 0 0⟩ ⟨rfl, rfl, rfl, rfl, rfl, rfl, rfl, trivial⟩ Zu ⟨Nat.zero_le _, HSl.nil _ 1, HSl.nil _ 1, by simp [mustF], by simp [mayF]⟩ ?_
  rintro ⟨i, mv, av⟩ h1 hle1 ⟨hi, hmv, hav, hmi, hai⟩
  simp only at hi hmv hav hmi hai
  refine G.norm (by (try dsimp only) <;> exact rfl) (by (try dsimp only) <;> exact rfl) ?_
  by_cases hlt : i < ws.length
  . obtain ⟨w, hx⟩ : ∃ t, ws[i]? = some t := ⟨ws[i], List.getElem?_eq_getElem hlt⟩
    have hget : (strsR ws)[i]? = some [str w] := by simp [strsR, hx]
    have hm1 : mustF C (ws.take (i + 1)) = mustF C (ws.take i) ++ (chM C w).flatMap (mustU C) := flat_snoc hx
    have ha1 : mayF C (ws.take (i + 1)) = mayF C (ws.take i) ++ (chM C w).flatMap (mayV C) := flat_snoc hx
    generalize mustF C (ws.take i) = P0 at *
    generalize mayF C (ws.take i) = A0 at *
    have hcn := chM_le g w
    have hcx := fun u (hu : u ∈ chM C w) => chM_ix g hu
    have sch2 := sch w (hw w (List.mem_of_getElem? hx))
    generalize hLc : chM C w = Lc at *
    repeat' (first | (refine G.atIdx ?_; refine G.idxImm rfl rfl (tyy rfl) (tyy rfl) (hW.mono (by solve | repeat first | assumption | exact Zr _ | refine Zq ?_ Zp)) Zj rfl (by rw [strsR_length]; omega) ?_; intro pp rr hx9 hp9; (rw [hget] at hx9); (obtain rfl := Option.some.inj hx9)) | (show G _ (.ops .seq _ (⟨some _, .call { callee := .value (.func 29), args := _, argTypes := _ }, _, _, _, none⟩ :: _) :: _) _ _ _; refine G.call callChainR rfl rfl (sch2 _ (hvC.mono (by solve | repeat first | assumption | exact Zr _ | refine Zq ?_ Zp)) (hrc.mono (by solve | repeat first | assumption | exact Zr _ | refine Zq ?_ Zp))) Ze ?_; rintro cv h2 H2 ⟨hcv, rfl⟩ hle2; obtain ⟨Acv, ccv, rfl, _⟩ := hcv.form; rw [strsR_length] at *) | (refine G.atCode ?_; refine G.stopLoop ?_) | (refine G.atCode ?_; first | refine G.seq ?_ | refine G.region ?_ | refine G.block ?_ | refine G.skip ?_ | (refine G.cond rfl ?_ ?_ <;> intro hc <;> (try simp only [tests, reduceCtorEq] at hc) <;> (try exact Zf))) | refine G.endOps ?_ | (refine G.atBin ?_; first | refine G.op rfl rfl ?_) | refine G.op rfl rfl ?_ | (refine G.atLen ?_; first | refine G.lenSlice rfl (tyy rfl) rfl ?_) | (refine G.atLoad ?_; first | refine G.loadOwnA rfl (tyy rfl) rfl rfl Za rfl rfl ?_ | refine G.loadImm1 rfl (tyy rfl) rfl rfl Zp rfl ?_))
    all_goals (try (exfalso; omega))
    refine G.go ?_
    refine G.loop (σ := Nat × Value × Value) (fun x => [(30, .int .i64 x.1), (29, .int .i64 Lc.length), (28, .slice Acv Lc.length ccv), (22, .int .i64 i), (21, .int .i64 ws.length), (20, .slice AW ws.length cW), (6, x.2.1), (7, x.2.2), (8, .slice none 0 0), (2, .pointer (some ⟨gS, 0, none⟩))])
      (fun _ => [.blk gS [.slice AT nT cT, .slice AC C.length cC] 25])
      (fun x h1 => x.1 <= Lc.length /\ HSl h1 x.2.1 1 (strsR (uM (P0 ++ (Lc.take x.1).flatMap (mustU C)))) /\ HSl h1 x.2.2 1 (strsR (uM (A0 ++ (Lc.take x.1).flatMap (mayV C)))) /\ (∀ y ∈ P0 ++ (Lc.take x.1).flatMap (mustU C), y ∈ tyF T) /\ ∀ y ∈ A0 ++ (Lc.take x.1).flatMap (mayV C), y ∈ tyF T) (fun x => Lc.length - x.1) ⟨0, mv, av⟩ ⟨rfl, rfl, rfl, rfl, rfl, rfl, rfl, rfl, rfl, rfl, trivial⟩ Zu ⟨Nat.zero_le _, by simpa using hmv.mono (by solve | repeat first | assumption | exact Zr _ | refine Zq ?_ Zp), by simpa using hav.mono (by solve | repeat first | assumption | exact Zr _ | refine Zq ?_ Zp), by simpa using hmi, by simpa using hai⟩ ?_
    clear hmv hav hmi hai
    rintro ⟨j, mv, av⟩ h3 hle3 ⟨hj, hmv, hav, hmi, hai⟩
    simp only at hj hmv hav hmi hai
    refine G.norm (by (try dsimp only) <;> exact rfl) (by (try dsimp only) <;> exact rfl) ?_
    by_cases hjt : j < Lc.length
    . obtain ⟨u, hu⟩ : ∃ t, Lc[j]? = some t := ⟨Lc[j], List.getElem?_eq_getElem hjt⟩
      have hgetu : (strsR Lc)[j]? = some [str u] := by simp [strsR, hu]
      obtain ⟨jc, c, hjc, hcc, hgc⟩ := hcx u (List.mem_of_getElem? hu)
      have hgtu := hgt u
      rw [hgc] at hgtu
      have hfm : P0 ++ (Lc.take (j + 1)).flatMap (mustU C) = P0 ++ (Lc.take j).flatMap (mustU C) ++ c.2.2.2.1.map foldM := by rw [flat_snoc hu, List.append_assoc]; unfold mustU; rw [hgc]
      have hfa : A0 ++ (Lc.take (j + 1)).flatMap (mayV C) = A0 ++ (Lc.take j).flatMap (mayV C) ++ c.2.2.2.2.map foldM := by rw [flat_snoc hu, List.append_assoc]; unfold mayV; rw [hgc]
      have hcl := hrc.get hcc
      obtain ⟨vm, vy, hgetc, hm, hy⟩ := hcl
      obtain ⟨b1, b2, b3, b4, b5, b6⟩ := hC c (List.mem_of_getElem? hcc)
      have hjl := (List.getElem?_eq_some_iff.1 hcc).1
      obtain ⟨Am, cm, rfl, _⟩ := hm.form
      obtain ⟨Ay, cy, rfl, _⟩ := hy.form
      simp only [strsR_length] at hm hy hgetc
      have sat2 := sat u (by
        obtain ⟨c2, hc2, _, _⟩ := ixM_some hjc
        have : u ∈ chM C w := by rw [hLc]; exact List.mem_of_getElem? hu
        cases hwi : ixC C w with
        | none => rw [chM_none hwi] at this; simp at this
        | some i9 =>
          obtain ⟨j9, c9, _, h29, h39⟩ := chM_mem g i9 w u hwi this
          rw [h39]
          have := (hC c9 (List.mem_of_getElem? h29)).1
          omega)
      rw [hjc, ixV_some] at sat2
      have hl5 : ([str c.1, str c.2.1, .int .i64 c.2.2.1, .slice Am c.2.2.2.1.length cm, .slice Ay c.2.2.2.2.length cy] : List Value).length = 5 := rfl
      repeat' (first | (refine G.atAny ?_; first | refine G.anyAutoX slB rfl rfl Zw Zg Zd ?_ | refine G.anyKeep slB rfl Zw Zg Zu ?_ | refine G.anyOne rfl Zw Zg Zu ?_ | refine G.anyTwo rfl Zw Zg Zu ?_ ?_ | refine G.anyEndX Zw ?_) | (refine G.atIdx ?_; refine G.idxImm rfl rfl (tyy rfl) (tyy rfl) (hcv.mono (by solve | repeat first | assumption | exact Zr _ | refine Zq ?_ Zp)) Zj rfl (by rw [strsR_length]; omega) ?_; intro pp rr hx9 hp9; (rw [hgetu] at hx9); (obtain rfl := Option.some.inj hx9)) | (show G _ (.ops .seq _ (⟨some _, .call { callee := .value (.func 27), args := _, argTypes := _ }, _, _, _, none⟩ :: _) :: _) _ _ _; refine G.call callClassAt rfl rfl (sat2 _ (hvC.mono (by solve | repeat first | assumption | exact Zr _ | refine Zq ?_ Zp)) (hrc.mono (by solve | repeat first | assumption | exact Zr _ | refine Zq ?_ Zp))) Ze ?_; rintro _ h4 H4 ⟨rfl, rfl⟩ hle4) | (refine G.atIdx ?_; refine G.idxImm rfl rfl (tyy rfl) (tyy rfl) (hvC.mono (by solve | repeat first | assumption | exact Zr _ | refine Zq ?_ Zp)) Zj rfl (by rw [hrl]; omega) ?_; intro pp rr hx9 hp9; (rw [hgetc] at hx9); (obtain rfl := Option.some.inj hx9)) | (refine G.atCode ?_; refine G.stopLoop ?_) | (refine G.atCode ?_; first | refine G.seq ?_ | refine G.region ?_ | refine G.block ?_ | refine G.skip ?_ | refine G.anyIn mixedOk ?_ | (refine G.cond rfl ?_ ?_ <;> intro hc <;> (try simp only [tests, reduceCtorEq] at hc) <;> (try exact Zf))) | refine G.endOps ?_ | refine G.endHeld ?_ | refine G.back ?_ | (refine G.atBin ?_; first | refine G.op rfl rfl ?_) | refine G.op rfl rfl ?_ | (refine G.atLen ?_; first | refine G.lenSlice rfl (tyy rfl) rfl ?_) | (refine G.atLoad ?_; first | refine G.loadOwn1 rfl (tyy rfl) rfl rfl Za rfl rfl ?_ | refine G.loadImm1 rfl (tyy rfl) rfl rfl Zp rfl ?_ | refine G.loadImmA rfl (tyy rfl) rfl rfl Zp Zp rfl ?_) | (refine G.atFld ?_; first | refine G.fieldAddr rfl (tyy rfl) rfl rfl ?_) | (refine G.atSto ?_; refine G.storeOwn rfl rfl (tyy rfl) Za rfl rfl rfl rfl ?_) | (refine G.atAlc ?_; refine G.alloc (tyy rfl) rfl rfl ?_; intro _))
      all_goals (try (exfalso; omega))
      all_goals
        rename_i g13
        refine G.go ?_
        refine G.loop (σ := Nat × List (List UInt8) × Value) (fun x => [(45, .int .i64 x.1), (44, .int .i64 c.2.2.2.1.length), (43, .slice Am c.2.2.2.1.length cm), (6, x.2.2), (7, av), (13, .pointer (some ⟨g13, 0, none⟩)), (30, .int .i64 j), (29, .int .i64 Lc.length), (28, .slice Acv Lc.length ccv), (22, .int .i64 i), (21, .int .i64 ws.length), (20, .slice AW ws.length cW), (8, .slice none 0 0), (2, .pointer (some ⟨gS, 0, none⟩))])
          (fun _ => [.blk g13 [str c.1, str c.2.1, .int .i64 c.2.2.1, .slice Am c.2.2.2.1.length cm, .slice Ay c.2.2.2.2.length cy] 31, .blk gS [.slice AT nT cT, .slice AC C.length cC] 25])
          (fun x h1 => x.1 <= c.2.2.2.1.length /\ x.2.1 = P0 ++ (Lc.take j).flatMap (mustU C) ++ (c.2.2.2.1.take x.1).map foldM /\ HSl h1 x.2.2 1 (strsR (uM x.2.1)) /\ ∀ y ∈ x.2.1, y ∈ tyF T) (fun x => c.2.2.2.1.length - x.1) ⟨0, P0 ++ (Lc.take j).flatMap (mustU C), mv⟩ ⟨rfl, rfl, rfl, rfl, rfl, rfl, rfl, rfl, rfl, rfl, rfl, rfl, rfl, rfl, trivial⟩ Zu ⟨Nat.zero_le _, by simp, hmv.mono (by solve | repeat first | assumption | exact Zr _ | refine Zq ?_ Zp), hmi⟩ ?_
        rintro ⟨k, P, pv⟩ h5 hle5 ⟨hkk, hP, hpv, hPi⟩
        simp only at hkk hP hpv hPi
        refine G.norm (by (try dsimp only) <;> exact rfl) (by (try dsimp only) <;> exact rfl) ?_
        by_cases hkt : k < c.2.2.2.1.length
        . obtain ⟨n, hn⟩ : ∃ t, c.2.2.2.1[k]? = some t := ⟨c.2.2.2.1[k], List.getElem?_eq_getElem hkt⟩
          have hgetn : (strsR c.2.2.2.1)[k]? = some [str n] := by simp [strsR, hn]
          have hnl := b5 n (List.mem_of_getElem? hn)
          have hnF := hgtu.1 n (List.mem_of_getElem? hn)
          have hul := uM_len hPi
          rw [hFl] at hul
          repeat' (first | (refine G.atIdx ?_; refine G.idxImm rfl rfl (tyy rfl) (tyy rfl) (hm.mono (by solve | repeat first | assumption | exact Zr _ | refine Zq ?_ Zp)) Zj rfl (by rw [strsR_length]; omega) ?_; intro pp rr hx9 hp9; (rw [hgetn] at hx9); (obtain rfl := Option.some.inj hx9)) | (show G _ (.ops .seq _ (⟨some _, .call { callee := .value (.func 22), args := _, argTypes := _ }, _, _, _, none⟩ :: _) :: _) _ _ _; refine G.call callRFold rfl rfl (ref01_Fold n (by omega) _) Ze ?_; rintro _ h6 H6 ⟨rfl, rfl⟩ hle6) | (show G _ (.ops .seq _ (⟨some _, .call { callee := .value (.func 37), args := _, argTypes := _ }, _, _, _, none⟩ :: _) :: _) _ _ _; refine G.call callPut13 rfl rfl (ref13_put (uM P) (foldM n) pv (by omega) _ (hpv.mono (by solve | repeat first | assumption | exact Zr _ | refine Zq ?_ Zp))) Ze ?_; rintro pv2 h7 H7 ⟨hpv2, rfl⟩ hle7) | (refine G.atCode ?_; first | refine G.seq ?_ | refine G.region ?_ | refine G.block ?_ | refine G.skip ?_ | (refine G.cond rfl ?_ ?_ <;> intro hc <;> (try simp only [tests, reduceCtorEq] at hc) <;> (try exact Zf))) | refine G.endOps ?_ | refine G.endBlk ?_ | (refine G.atBin ?_; first | (refine G.atAdd ?_; first | refine G.arith rfl rfl rfl rfl rfl Zi ?_) | refine G.op rfl rfl ?_) | refine G.op rfl rfl ?_ | (refine G.atLoad ?_; first | refine G.loadImm1 rfl (tyy rfl) rfl rfl Zp rfl ?_))
          all_goals first | (exfalso; omega) | exact G.again ⟨k + 1, P ++ [foldM n], pv2⟩ ⟨sint (by simp), rfl, rfl, rfl, rfl, rfl, rfl, rfl, rfl, rfl, rfl, rfl, rfl, rfl, trivial⟩ Zu ⟨by simp only; omega, by simp only; rw [map_snoc hn, hP, List.append_assoc], by simp only [uM_snoc]; exact hpv2.mono (by solve | repeat first | assumption | exact Zr _ | refine Zq ?_ Zp), in_snoc hPi hnF⟩ (by solve | repeat first | assumption | exact Zr _ | refine Zq ?_ Zp) (by simp only; omega) | skip
        . obtain rfl : k = c.2.2.2.1.length := by omega
          rw [List.take_length, ← hfm] at hP
          subst hP
          have hmi2 := hPi
          repeat' (first | (refine G.atCode ?_; refine G.stopLoop ?_) | (refine G.atCode ?_; first | refine G.seq ?_ | refine G.region ?_ | refine G.block ?_ | refine G.exit rfl ?_ | (refine G.cond rfl ?_ ?_ <;> intro hc <;> (try simp only [tests, reduceCtorEq] at hc) <;> (try exact Zf))) | refine G.endOps ?_ | (refine G.atBin ?_; first | refine G.op rfl rfl ?_) | refine G.op rfl rfl ?_ | (refine G.atLen ?_; first | refine G.lenSlice rfl (tyy rfl) rfl ?_) | (refine G.atLoad ?_; first | refine G.loadOwn1 rfl (tyy rfl) rfl rfl Za rfl rfl ?_) | (refine G.atFld ?_; first | refine G.fieldAddr rfl (tyy rfl) rfl rfl ?_))
          all_goals (try (exfalso; omega))
          refine G.go ?_
          refine G.loop (σ := Nat × List (List UInt8) × Value) (fun x => [(57, .int .i64 x.1), (56, .int .i64 c.2.2.2.2.length), (55, .slice Ay c.2.2.2.2.length cy), (7, x.2.2), (6, pv), (13, .pointer (some ⟨g13, 0, none⟩)), (30, .int .i64 j), (29, .int .i64 Lc.length), (28, .slice Acv Lc.length ccv), (22, .int .i64 i), (21, .int .i64 ws.length), (20, .slice AW ws.length cW), (8, .slice none 0 0), (2, .pointer (some ⟨gS, 0, none⟩))])
            (fun _ => [.blk g13 [str c.1, str c.2.1, .int .i64 c.2.2.1, .slice Am c.2.2.2.1.length cm, .slice Ay c.2.2.2.2.length cy] 31, .blk gS [.slice AT nT cT, .slice AC C.length cC] 25])
            (fun x h1 => x.1 <= c.2.2.2.2.length /\ x.2.1 = A0 ++ (Lc.take j).flatMap (mayV C) ++ (c.2.2.2.2.take x.1).map foldM /\ HSl h1 x.2.2 1 (strsR (uM x.2.1)) /\ ∀ y ∈ x.2.1, y ∈ tyF T) (fun x => c.2.2.2.2.length - x.1) ⟨0, A0 ++ (Lc.take j).flatMap (mayV C), av⟩ ⟨rfl, rfl, rfl, rfl, rfl, rfl, rfl, rfl, rfl, rfl, rfl, rfl, rfl, rfl, trivial⟩ Zu ⟨Nat.zero_le _, by simp, hav.mono (by solve | repeat first | assumption | exact Zr _ | refine Zq ?_ Zp), hai⟩ ?_
          rintro ⟨k, P, qv⟩ h8 hle8 ⟨hkk, hP, hqv, hPi⟩
          simp only at hkk hP hqv hPi
          refine G.norm (by (try dsimp only) <;> exact rfl) (by (try dsimp only) <;> exact rfl) ?_
          by_cases hkt : k < c.2.2.2.2.length
          . obtain ⟨n, hn⟩ : ∃ t, c.2.2.2.2[k]? = some t := ⟨c.2.2.2.2[k], List.getElem?_eq_getElem hkt⟩
            have hgetn : (strsR c.2.2.2.2)[k]? = some [str n] := by simp [strsR, hn]
            have hnl := b6 n (List.mem_of_getElem? hn)
            have hnF := hgtu.2 n (List.mem_of_getElem? hn)
            have hul := uM_len hPi
            rw [hFl] at hul
            repeat' (first | (refine G.atIdx ?_; refine G.idxImm rfl rfl (tyy rfl) (tyy rfl) (hy.mono (by solve | repeat first | assumption | exact Zr _ | refine Zq ?_ Zp)) Zj rfl (by rw [strsR_length]; omega) ?_; intro pp rr hx9 hp9; (rw [hgetn] at hx9); (obtain rfl := Option.some.inj hx9)) | (show G _ (.ops .seq _ (⟨some _, .call { callee := .value (.func 22), args := _, argTypes := _ }, _, _, _, none⟩ :: _) :: _) _ _ _; refine G.call callRFold rfl rfl (ref01_Fold n (by omega) _) Ze ?_; rintro _ h6 H6 ⟨rfl, rfl⟩ hle6) | (show G _ (.ops .seq _ (⟨some _, .call { callee := .value (.func 37), args := _, argTypes := _ }, _, _, _, none⟩ :: _) :: _) _ _ _; refine G.call callPut13 rfl rfl (ref13_put (uM P) (foldM n) qv (by omega) _ (hqv.mono (by solve | repeat first | assumption | exact Zr _ | refine Zq ?_ Zp))) Ze ?_; rintro pv2 h7 H7 ⟨hpv2, rfl⟩ hle7) | (refine G.atCode ?_; first | refine G.seq ?_ | refine G.region ?_ | refine G.block ?_ | refine G.skip ?_ | (refine G.cond rfl ?_ ?_ <;> intro hc <;> (try simp only [tests, reduceCtorEq] at hc) <;> (try exact Zf))) | refine G.endOps ?_ | refine G.endBlk ?_ | (refine G.atBin ?_; first | (refine G.atAdd ?_; first | refine G.arith rfl rfl rfl rfl rfl Zi ?_) | refine G.op rfl rfl ?_) | refine G.op rfl rfl ?_ | (refine G.atLoad ?_; first | refine G.loadImm1 rfl (tyy rfl) rfl rfl Zp rfl ?_))
            all_goals first | (exfalso; omega) | exact G.again ⟨k + 1, P ++ [foldM n], pv2⟩ ⟨sint (by simp), rfl, rfl, rfl, rfl, rfl, rfl, rfl, rfl, rfl, rfl, rfl, rfl, rfl, trivial⟩ Zu ⟨by simp only; omega, by simp only; rw [map_snoc hn, hP, List.append_assoc], by simp only [uM_snoc]; exact hpv2.mono (by solve | repeat first | assumption | exact Zr _ | refine Zq ?_ Zp), in_snoc hPi hnF⟩ (by solve | repeat first | assumption | exact Zr _ | refine Zq ?_ Zp) (by simp only; omega) | skip
          . obtain rfl : k = c.2.2.2.2.length := by omega
            rw [List.take_length, ← hfa] at hP
            subst hP
            repeat' (first | (refine G.atCode ?_; first | refine G.seq ?_ | refine G.region ?_ | refine G.exit rfl ?_ | (refine G.cond rfl ?_ ?_ <;> intro hc <;> (try simp only [tests, reduceCtorEq] at hc) <;> (try exact Zf))) | refine G.endOps ?_ | refine G.endBlk ?_ | (refine G.atBin ?_; first | (refine G.atAdd ?_; first | refine G.arith rfl rfl rfl rfl rfl Zi ?_) | refine G.op rfl rfl ?_) | refine G.op rfl rfl ?_)
            all_goals first | (exfalso; omega) | exact G.again ⟨j + 1, pv, qv⟩ ⟨sint (by simp), rfl, rfl, rfl, rfl, rfl, rfl, rfl, rfl, rfl, trivial⟩ Zu ⟨by simp only; omega, hpv.mono (by solve | repeat first | assumption | exact Zr _ | refine Zq ?_ Zp), hqv.mono (by solve | repeat first | assumption | exact Zr _ | refine Zq ?_ Zp), hmi2, hPi⟩ (by solve | repeat first | assumption | exact Zr _ | refine Zq ?_ Zp) (by simp only; omega) | skip
    . obtain rfl : j = Lc.length := by omega
      rw [List.take_length] at hmv hav hmi hai
      repeat' (first | (refine G.atCode ?_; first | refine G.seq ?_ | refine G.region ?_ | refine G.exit rfl ?_ | (refine G.cond rfl ?_ ?_ <;> intro hc <;> (try simp only [tests, reduceCtorEq] at hc) <;> (try exact Zf))) | refine G.endOps ?_ | refine G.endBlk ?_ | (refine G.atBin ?_; first | (refine G.atAdd ?_; first | refine G.arith rfl rfl rfl rfl rfl Zi ?_) | refine G.op rfl rfl ?_) | refine G.op rfl rfl ?_)
      all_goals first | (exfalso; omega) | exact G.again ⟨i + 1, mv, av⟩ ⟨sint (by simp), rfl, rfl, rfl, rfl, rfl, rfl, trivial⟩ Zu ⟨by simp only; omega, by simp only [hm1]; exact hmv.mono (by solve | repeat first | assumption | exact Zr _ | refine Zq ?_ Zp), by simp only [ha1]; exact hav.mono (by solve | repeat first | assumption | exact Zr _ | refine Zq ?_ Zp), by simp only [hm1]; exact hmi, by simp only [ha1]; exact hai⟩ (by solve | repeat first | assumption | exact Zr _ | refine Zq ?_ Zp) (by simp only; omega) | skip
  . obtain rfl : i = ws.length := by omega
    rw [List.take_length] at hmv hav hmi hai
    have hul := uM_len hai
    rw [hFl] at hul
    obtain ⟨Aav, cav, rfl, _⟩ := hav.form
    rw [strsR_length] at *
    have hpe : ∀ x, decide (x ∈ uM (mustF C ws)) = decide (x ∈ mustF C ws) := fun x => decide_eq_decide.2 uM_mem
    have hmay : mayU C ws = (uM (mayF C ws)).filter fun t => !decide (t ∈ mustF C ws) := rfl
    rw [hmay]
    generalize hLu : uM (mayF C ws) = Lu at *
    repeat' (first | (refine G.atCode ?_; refine G.stopLoop ?_) | (refine G.atCode ?_; first | refine G.seq ?_ | refine G.region ?_ | refine G.block ?_ | refine G.exit rfl ?_ | (refine G.cond rfl ?_ ?_ <;> intro hc <;> (try simp only [tests, reduceCtorEq] at hc) <;> (try exact Zf))) | refine G.endOps ?_ | (refine G.atBin ?_; first | refine G.op rfl rfl ?_) | refine G.op rfl rfl ?_ | (refine G.atLen ?_; first | refine G.lenSlice rfl (tyy rfl) rfl ?_))
    all_goals (try (exfalso; omega))
    refine G.nilRow 9 1 ?_
    refine G.go ?_
    refine G.loop (σ := Nat × Value × List (List UInt8)) (fun x => [(70, .int .i64 x.1), (69, .int .i64 Lu.length), (68, .slice Aav Lu.length cav), (6, mv), (8, x.2.1)])
      (fun x => [.row x.2.1 9 1 (strsR x.2.2)]) (fun x _ => x.1 <= Lu.length /\ x.2.2 = (Lu.take x.1).filter fun t => !decide (t ∈ mustF C ws)) (fun x => Lu.length - x.1) ⟨0, .slice none 0 0, []⟩ ⟨rfl, rfl, rfl, rfl, rfl, trivial⟩ Zu ⟨Nat.zero_le _, by simp⟩ ?_
    rintro ⟨k, ov, out⟩ h5 hle5 ⟨hkk, hout⟩
    simp only at hkk hout
    refine G.norm (by (try dsimp only) <;> exact rfl) (by (try dsimp only) <;> exact rfl) ?_
    have hol : out.length <= Lu.length := by rw [hout]; have := List.length_filter_le (fun t => !decide (t ∈ mustF C ws)) (Lu.take k); rw [List.length_take] at this; omega
    by_cases hkt : k < Lu.length
    . obtain ⟨n, hn⟩ : ∃ t, Lu[k]? = some t := ⟨Lu[k], List.getElem?_eq_getElem hkt⟩
      have hgetn : (strsR Lu)[k]? = some [str n] := by simp [strsR, hn]
      have hhas := ref13_Has (uM (mustF C ws)) n mv
      rw [hpe] at hhas
      by_cases hq : n ∈ mustF C ws
      . rw [decide_eq_true hq] at hhas
        have hft : (Lu.take (k + 1)).filter (fun t => !decide (t ∈ mustF C ws)) = out := by rw [take_get hn, List.filter_append, ← hout]; simp [hq]
        repeat' (first | (refine G.atIdx ?_; refine G.idxImm rfl rfl (tyy rfl) (tyy rfl) (hav.mono (by solve | repeat first | assumption | exact Zr _ | refine Zq ?_ Zp)) Zj rfl (by rw [strsR_length]; omega) ?_; intro pp rr hx9 hp9; (rw [hgetn] at hx9); (obtain rfl := Option.some.inj hx9)) | (show G _ (.ops .seq _ (⟨some _, .call { callee := .value (.func 21), args := _, argTypes := _ }, _, _, _, none⟩ :: _) :: _) _ _ _; refine G.call callHas rfl rfl (hhas _ (hmv.mono (by solve | repeat first | assumption | exact Zr _ | refine Zq ?_ Zp))) Ze ?_; rintro _ h6 H6 ⟨rfl, rfl⟩ hle6) | (refine G.atCode ?_; first | refine G.seq ?_ | refine G.region ?_ | refine G.block ?_ | refine G.skip ?_ | (refine G.cond rfl ?_ ?_ <;> intro hc <;> (try simp only [tests, reduceCtorEq] at hc) <;> (try exact Zf))) | refine G.endOps ?_ | refine G.endBlk ?_ | (refine G.atBin ?_; first | (refine G.atAdd ?_; first | refine G.arith rfl rfl rfl rfl rfl Zi ?_) | refine G.op rfl rfl ?_) | refine G.op rfl rfl ?_ | (refine G.atLoad ?_; first | refine G.loadImm1 rfl (tyy rfl) rfl rfl Zp rfl ?_))
        all_goals first | (exfalso; omega) | exact G.again ⟨k + 1, _, out⟩ ⟨sint (by simp), rfl, rfl, rfl, rfl, trivial⟩ Zu ⟨by simp only; omega, hft.symm⟩ (by solve | repeat first | assumption | exact Zr _ | refine Zq ?_ Zp) (by simp only; omega) | skip
      . rw [decide_eq_false hq] at hhas
        have hft : (Lu.take (k + 1)).filter (fun t => !decide (t ∈ mustF C ws)) = out ++ [n] := by rw [take_get hn, List.filter_append, ← hout]; simp [hq]
        repeat' (first | (refine G.atIdx ?_; refine G.idxImm rfl rfl (tyy rfl) (tyy rfl) (hav.mono (by solve | repeat first | assumption | exact Zr _ | refine Zq ?_ Zp)) Zj rfl (by rw [strsR_length]; omega) ?_; intro pp rr hx9 hp9; (rw [hgetn] at hx9); (obtain rfl := Option.some.inj hx9)) | (show G _ (.ops .seq _ (⟨some _, .call { callee := .value (.func 21), args := _, argTypes := _ }, _, _, _, none⟩ :: _) :: _) _ _ _; refine G.call callHas rfl rfl (hhas _ (hmv.mono (by solve | repeat first | assumption | exact Zr _ | refine Zq ?_ Zp))) Ze ?_; rintro _ h6 H6 ⟨rfl, rfl⟩ hle6) | (refine G.atCode ?_; first | refine G.seq ?_ | refine G.region ?_ | refine G.block ?_ | refine G.skip ?_ | (refine G.cond rfl ?_ ?_ <;> intro hc <;> (try simp only [tests, reduceCtorEq] at hc) <;> (try exact Zf))) | refine G.endOps ?_ | refine G.endBlk ?_ | (refine G.atBin ?_; first | (refine G.atAdd ?_; first | refine G.arith rfl rfl rfl rfl rfl Zi ?_) | refine G.op rfl rfl ?_) | refine G.op rfl rfl ?_ | (refine G.atLoad ?_; first | refine G.loadImm1 rfl (tyy rfl) rfl rfl Zp rfl ?_) | (refine G.atBsl ?_; refine G.buildSlice (tyy rfl) (tyy rfl) rfl rfl rfl rfl ?_; intro _) | (refine G.atApp ?_; first | (refine G.append1S rfl rfl (tyy rfl) (tyy rfl) rfl rfl Za Za rfl Zo ?_; intro _)))
        all_goals first | (exfalso; omega) | exact G.again ⟨k + 1, _, out ++ [n]⟩ ⟨sint (by simp), rfl, rfl, rfl, rfl, trivial⟩ Zu ⟨by simp only; omega, hft.symm⟩ (by solve | repeat first | assumption | exact Zr _ | refine Zq ?_ Zp) (by simp only; omega) | skip
    . obtain rfl : k = Lu.length := by omega
      rw [List.take_length] at hout
      repeat' (first | (refine G.atCode ?_; first | refine G.seq ?_ | refine G.region ?_ | refine G.exit rfl ?_ | refine G.ret ?_ | (refine G.cond rfl ?_ ?_ <;> intro hc <;> (try simp only [tests, reduceCtorEq] at hc) <;> (try exact Zf))) | refine G.endOps ?_ | (refine G.atBin ?_; first | refine G.op rfl rfl ?_) | refine G.op rfl rfl ?_)
      all_goals first | (exfalso; omega) | skip
      all_goals
        refine G.freezeRow Take.hd ?_
        intro h8 hle8 hs8
        exact G.done (rs := [.tmp 4, .tmp 5]) rfl (.tmp rfl (.tmp rfl .nil)) rfl [] (SubH.nil _) ⟨⟨_, _, rfl, hmv.mono (by solve | repeat first | assumption | exact Zr _ | refine Zq ?_ Zp), by rw [<- hout]; exact hs8⟩, rfl⟩
end Go.Proofs.Ytfmekdmpghhegaa
