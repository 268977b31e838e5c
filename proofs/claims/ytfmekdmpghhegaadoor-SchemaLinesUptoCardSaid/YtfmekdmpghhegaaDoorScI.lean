/- schema.Wants: what must be there, what may. -/
import Derived.Test.YtfmekdmpghhegaaDoorScH
namespace Go.Proofs.YtfmekdmpghhegaaDoor
set_option linter.all false
set_option maxRecDepth 4000
open Go.RowKit

theorem callWants : Callable Tryd.prog 10 := ⟨_, Tryd.func10, by kernel_rfl, rfl⟩
set_option maxRecDepth 8000 in
set_option maxHeartbeats 8000000 in
theorem schema_Wants (T : List Ty4) (C : List Cls) (hk : chkS T C = 0) (hC : ∀ c ∈ C, ClsB c) (AT : Option Addr) (nT cT : Nat) (vC vW : Value) (rc : List (List Value)) (ws : List (List UInt8)) (hw : ∀ w ∈ ws, w.length <= 10000000) (h : Heap) (hvC : HSl h vC 5 rc) (hrc : ClsC h C rc) (hW : HSl h vW 1 (strsR ws)) :
    Spec Tryd.prog 10 [.agg #[.slice AT nT cT, vC], vW] h [] (fun u h' H' => (∃ v1 v2, u = .tuple #[v1, v2] /\ HSl h' v1 1 (strsR (uM (mustF C ws))) /\ HSl h' v2 1 (strsR (mayU C ws))) /\ H' = []) := by
  obtain ⟨g, hTl, hCl⟩ := good_of hk
  have hgt := good_gt hk
  have hFl := tyF_len T
  have hrl := hrc.len
  obtain ⟨AC, cC, rfl, hcC, hmC, _⟩ := hvC.form
  rw [hrl] at *
  have hrl := hrc.len
  have hwl := hW.len
  obtain ⟨AW, cW, rfl, _⟩ := hW.form
  rw [strsR_length] at *
  have sch : ∀ q : List UInt8, q.length <= 10000000 -> ∀ hh, HSl hh (.slice AC C.length cC) 5 rc -> ClsC hh C rc -> Spec Tryd.prog 19 [.agg #[.slice AT nT cT, .slice AC C.length cC], str q] hh [] (fun u h' H' => HSl h' u 1 (strsR (chM C q)) /\ H' = []) := fun q hq hh x y => by
    have := schema_Chain C hC (by omega) AT nT cT (.slice AC C.length cC) rc q hq hh x y
    rw [chGo_end g] at this
    exact this
  have scl := fun q (hq : q.length <= 100000000) => schema_classF C (ClsB.ok hC) (ClsB.two hC) (.slice AT nT cT) (.slice AC C.length cC) rc q hq
  refine Spec.enter Tryd.func10 rfl rfl ?_; intro w0
  repeat' (first | (refine G.atCode ?_; first | refine G.seq ?_ | refine G.region ?_) | refine G.endOps ?_ | refine G.op rfl rfl ?_ | (refine G.atBox ?_; refine G.box rfl rfl rfl ?_; intro _))
  rename_i gS
  refine G.makeMapS rfl ?_
  intro m1
  refine G.makeMapS rfl ?_
  intro m2
  repeat' (first | (refine G.atCode ?_; refine G.stopLoop ?_) | (refine G.atCode ?_; first | refine G.seq ?_ | refine G.region ?_ | refine G.block ?_) | refine G.endOps ?_ | refine G.op rfl rfl ?_ | (refine G.atLen ?_; first | refine G.lenSlice rfl (tyy rfl) rfl ?_))
  refine G.go ?_
  refine G.loop (σ := Nat × (Ens × Nat) × (Ens × Nat)) (fun x => [(23, .int .i64 x.1), (22, .int .i64 ws.length), (21, .slice AW ws.length cW), (6, .map (some m1)), (7, .map (some m2)), (2, .pointer (some ⟨gS, 0, none⟩))])
    (fun x => [.obj m1 (mapOS x.2.1.1 x.2.1.2), .obj m2 (mapOS x.2.2.1 x.2.2.2), .blk gS [.slice AT nT cT, .slice AC C.length cC] 25])
    (fun x _ => x.1 <= ws.length /\ SetM x.2.1.1 x.2.1.2 (mustF C (ws.take x.1)) /\ SetM x.2.2.1 x.2.2.2 (mayF C (ws.take x.1)) /\ (∀ y ∈ mustF C (ws.take x.1), y ∈ tyF T) /\ ∀ y ∈ mayF C (ws.take x.1), y ∈ tyF T) (fun x => ws.length - x.1) ⟨0, ⟨[], 0⟩, ⟨[], 0⟩⟩ ⟨rfl, rfl, rfl, rfl, rfl, rfl, trivial⟩ Zu ⟨Nat.zero_le _, by simpa [mustF] using SetM.nil, by simpa [mayF] using SetM.nil, by simp [mustF], by simp [mayF]⟩ ?_
  rintro ⟨i, ⟨e1, c1⟩, ⟨e2, c2⟩⟩ h1 hle1 ⟨hi, hs1, hs2, hi1, hi2⟩
  simp only at hi hs1 hs2 hi1 hi2
  refine G.norm (by (try dsimp only) <;> exact rfl) (by (try dsimp only) <;> exact rfl) ?_
  by_cases hlt : i < ws.length
  . obtain ⟨w, hx⟩ : ∃ t, ws[i]? = some t := ⟨ws[i], List.getElem?_eq_getElem hlt⟩
    have hget : (strsR ws)[i]? = some [str w] := by simp [strsR, hx]
    have hm1 : mustF C (ws.take (i + 1)) = mustF C (ws.take i) ++ (chM C w).flatMap (mustU C) := flat_snoc hx
    have ha1 : mayF C (ws.take (i + 1)) = mayF C (ws.take i) ++ (chM C w).flatMap (mayV C) := flat_snoc hx
    generalize mustF C (ws.take i) = P0 at *
    generalize mayF C (ws.take i) = A0 at *
    have hcn := chM_le g w
    have hcx := fun u (hu : u ∈ chM C w) => chM_ix g hu
    have sch2 := sch w (hw w (List.mem_of_getElem? hx))
    generalize hLc : chM C w = Lc at *
    repeat' (first | (refine G.atIdx ?_; refine G.idxImm rfl rfl (tyy rfl) (tyy rfl) (hW.mono (by solve | repeat first | assumption | exact Zr _ | refine Zq ?_ Zp)) Zj rfl (by rw [strsR_length]; omega) ?_; intro pp rr hx9 hp9; (rw [hget] at hx9); (obtain rfl := Option.some.inj hx9)) | (show G _ (.ops .seq _ (⟨some _, .call { callee := .value (.func 19), args := _, argTypes := _ }, _, _, _, none⟩ :: _) :: _) _ _ _; refine G.call callChain rfl rfl (sch2 _ (hvC.mono (by solve | repeat first | assumption | exact Zr _ | refine Zq ?_ Zp)) (hrc.mono (by solve | repeat first | assumption | exact Zr _ | refine Zq ?_ Zp))) Ze ?_; rintro cv h2 H2 ⟨hcv, rfl⟩ hle2; obtain ⟨Acv, ccv, rfl, _⟩ := hcv.form; rw [strsR_length] at *) | (refine G.atCode ?_; refine G.stopLoop ?_) | (refine G.atCode ?_; first | refine G.seq ?_ | refine G.region ?_ | refine G.block ?_ | refine G.skip ?_ | (refine G.cond rfl ?_ ?_ <;> intro hc <;> (try simp only [tests, reduceCtorEq] at hc) <;> (try exact Zf))) | refine G.endOps ?_ | (refine G.atBin ?_; first | refine G.op rfl rfl ?_) | refine G.op rfl rfl ?_ | (refine G.atLen ?_; first | refine G.lenSlice rfl (tyy rfl) rfl ?_) | (refine G.atLoad ?_; first | refine G.loadOwnA rfl (tyy rfl) rfl rfl Za rfl rfl ?_ | refine G.loadImm1 rfl (tyy rfl) rfl rfl Zp rfl ?_))
    all_goals (try (exfalso; omega))
    refine G.go ?_
    refine G.loop (σ := Nat × (Ens × Nat) × (Ens × Nat)) (fun x => [(31, .int .i64 x.1), (30, .int .i64 Lc.length), (29, .slice Acv Lc.length ccv), (23, .int .i64 i), (22, .int .i64 ws.length), (21, .slice AW ws.length cW), (6, .map (some m1)), (7, .map (some m2)), (2, .pointer (some ⟨gS, 0, none⟩))])
      (fun x => [.obj m1 (mapOS x.2.1.1 x.2.1.2), .obj m2 (mapOS x.2.2.1 x.2.2.2), .blk gS [.slice AT nT cT, .slice AC C.length cC] 25])
      (fun x _ => x.1 <= Lc.length /\ SetM x.2.1.1 x.2.1.2 (P0 ++ (Lc.take x.1).flatMap (mustU C)) /\ SetM x.2.2.1 x.2.2.2 (A0 ++ (Lc.take x.1).flatMap (mayV C)) /\ (∀ y ∈ P0 ++ (Lc.take x.1).flatMap (mustU C), y ∈ tyF T) /\ ∀ y ∈ A0 ++ (Lc.take x.1).flatMap (mayV C), y ∈ tyF T) (fun x => Lc.length - x.1) ⟨0, ⟨e1, c1⟩, ⟨e2, c2⟩⟩ ⟨rfl, rfl, rfl, rfl, rfl, rfl, rfl, rfl, rfl, trivial⟩ Zu ⟨Nat.zero_le _, by simpa using hs1, by simpa using hs2, by simpa using hi1, by simpa using hi2⟩ ?_
    clear hs1 hs2 hi1 hi2
    rintro ⟨j, ⟨e1, c1⟩, ⟨e2, c2⟩⟩ h3 hle3 ⟨hj, hs1, hs2, hi1, hi2⟩
    simp only at hj hs1 hs2 hi1 hi2
    refine G.norm (by (try dsimp only) <;> exact rfl) (by (try dsimp only) <;> exact rfl) ?_
    by_cases hjt : j < Lc.length
    . obtain ⟨u, hu⟩ : ∃ t, Lc[j]? = some t := ⟨Lc[j], List.getElem?_eq_getElem hjt⟩
      have hgetu : (strsR Lc)[j]? = some [str u] := by simp [strsR, hu]
      obtain ⟨jc, c, hjc, hcc, hgc⟩ := hcx u (List.mem_of_getElem? hu)
      have hgtu := hgt u
      rw [hgc] at hgtu
      have hfm : P0 ++ (Lc.take (j + 1)).flatMap (mustU C) = P0 ++ (Lc.take j).flatMap (mustU C) ++ c.2.2.2.1.map foldM := by rw [flat_snoc hu, List.append_assoc]; unfold mustU; rw [hgc]
      have hfa : A0 ++ (Lc.take (j + 1)).flatMap (mayV C) = A0 ++ (Lc.take j).flatMap (mayV C) ++ c.2.2.2.2.map foldM := by rw [flat_snoc hu, List.append_assoc]; unfold mayV; rw [hgc]
      obtain ⟨b1, b2, b3, b4, b5, b6⟩ := hC c (List.mem_of_getElem? hcc)
      have scl2 := scl u (by
        have : u ∈ chM C w := by rw [hLc]; exact List.mem_of_getElem? hu
        cases hwi : ixC C w with
        | none => rw [chM_none hwi] at this; simp at this
        | some i9 =>
          obtain ⟨j9, c9, _, h29, h39⟩ := chM_mem g i9 w u hwi this
          rw [h39]
          have := (hC c9 (List.mem_of_getElem? h29)).1
          omega)
      rw [hjc, hgc] at scl2
      repeat' (first | (refine G.atIdx ?_; refine G.idxImm rfl rfl (tyy rfl) (tyy rfl) (hcv.mono (by solve | repeat first | assumption | exact Zr _ | refine Zq ?_ Zp)) Zj rfl (by rw [strsR_length]; omega) ?_; intro pp rr hx9 hp9; (rw [hgetu] at hx9); (obtain rfl := Option.some.inj hx9)) | (show G _ (.ops .seq _ (⟨some _, .call { callee := .value (.func 18), args := _, argTypes := _ }, _, _, _, none⟩ :: _) :: _) _ _ _; refine G.call callClass rfl rfl (scl2 _ (hvC.mono (by solve | repeat first | assumption | exact Zr _ | refine Zq ?_ Zp)) (hrc.mono (by solve | repeat first | assumption | exact Zr _ | refine Zq ?_ Zp))) Ze ?_; rintro _ h4 H4 ⟨⟨Am, cm, Ay, cy, rfl, hm, hy⟩, rfl⟩ hle4) | (refine G.atCode ?_; refine G.stopLoop ?_) | (refine G.atCode ?_; first | refine G.seq ?_ | refine G.region ?_ | refine G.block ?_ | refine G.skip ?_ | (refine G.cond rfl ?_ ?_ <;> intro hc <;> (try simp only [tests, reduceCtorEq] at hc) <;> (try exact Zf))) | refine G.endOps ?_ | (refine G.atBin ?_; first | refine G.op rfl rfl ?_) | refine G.op rfl rfl ?_ | (refine G.atLen ?_; first | refine G.lenSlice rfl (tyy rfl) rfl ?_) | (refine G.atLoad ?_; first | refine G.loadOwn1 rfl (tyy rfl) rfl rfl Za rfl rfl ?_ | refine G.loadOwnA rfl (tyy rfl) rfl rfl Za rfl rfl ?_ | refine G.loadImm1 rfl (tyy rfl) rfl rfl Zp rfl ?_) | (refine G.atFld ?_; first | refine G.fieldAddr rfl (tyy rfl) rfl rfl ?_) | (refine G.atSto ?_; refine G.storeOwn rfl rfl (tyy rfl) Za rfl rfl rfl rfl ?_) | (refine G.atAlc ?_; refine G.alloc (tyy rfl) rfl rfl ?_; intro _) | (refine G.atBld ?_; refine G.build (tyy rfl) rfl rfl rfl ?_))
      all_goals (try (exfalso; omega))
      rename_i g12
      refine G.go ?_
      refine G.loop (σ := Nat × List (List UInt8) × Ens × Nat) (fun x => [(45, .int .i64 x.1), (44, .int .i64 c.2.2.2.1.length), (43, .slice Am c.2.2.2.1.length cm), (12, .pointer (some ⟨g12, 0, none⟩)), (31, .int .i64 j), (30, .int .i64 Lc.length), (29, .slice Acv Lc.length ccv), (23, .int .i64 i), (22, .int .i64 ws.length), (21, .slice AW ws.length cW), (6, .map (some m1)), (7, .map (some m2)), (2, .pointer (some ⟨gS, 0, none⟩))])
        (fun x => [.blk g12 [str c.1, str c.2.1, .int .i64 c.2.2.1, .slice Am c.2.2.2.1.length cm, .slice Ay c.2.2.2.2.length cy] 28, .obj m1 (mapOS x.2.2.1 x.2.2.2), .obj m2 (mapOS e2 c2), .blk gS [.slice AT nT cT, .slice AC C.length cC] 25])
        (fun x _ => x.1 <= c.2.2.2.1.length /\ x.2.1 = P0 ++ (Lc.take j).flatMap (mustU C) ++ (c.2.2.2.1.take x.1).map foldM /\ SetM x.2.2.1 x.2.2.2 x.2.1 /\ ∀ y ∈ x.2.1, y ∈ tyF T) (fun x => c.2.2.2.1.length - x.1) ⟨0, P0 ++ (Lc.take j).flatMap (mustU C), e1, c1⟩ ⟨rfl, rfl, rfl, rfl, rfl, rfl, rfl, rfl, rfl, rfl, rfl, rfl, rfl, trivial⟩ Zu ⟨Nat.zero_le _, by simp, hs1, hi1⟩ ?_
      rintro ⟨k, P, e1', c1'⟩ h5 hle5 ⟨hkk, hP, hs1', hi1'⟩
      simp only at hkk hP hs1' hi1'
      refine G.norm (by (try dsimp only) <;> exact rfl) (by (try dsimp only) <;> exact rfl) ?_
      by_cases hkt : k < c.2.2.2.1.length
      . obtain ⟨n, hn⟩ : ∃ t, c.2.2.2.1[k]? = some t := ⟨c.2.2.2.1[k], List.getElem?_eq_getElem hkt⟩
        have hgetn : (strsR c.2.2.2.1)[k]? = some [str n] := by simp [strsR, hn]
        have hnl := b5 n (List.mem_of_getElem? hn)
        have hnF := hgtu.1 n (List.mem_of_getElem? hn)
        repeat' (first | (refine G.atIdx ?_; refine G.idxImm rfl rfl (tyy rfl) (tyy rfl) (hm.mono (by solve | repeat first | assumption | exact Zr _ | refine Zq ?_ Zp)) Zj rfl (by rw [strsR_length]; omega) ?_; intro pp rr hx9 hp9; (rw [hgetn] at hx9); (obtain rfl := Option.some.inj hx9)) | (show G _ (.ops .seq _ (⟨some _, .call { callee := .value (.func 21), args := _, argTypes := _ }, _, _, _, none⟩ :: _) :: _) _ _ _; refine G.call callFold rfl rfl (octet_Fold n (by omega) _) Ze ?_; rintro _ h6 H6 ⟨rfl, rfl⟩ hle6) | (refine G.mapUpdateS rfl rfl rfl (tyy rfl) (tyy rfl) Za ?_) | (refine G.atCode ?_; first | refine G.seq ?_ | refine G.region ?_ | refine G.block ?_ | refine G.skip ?_ | (refine G.cond rfl ?_ ?_ <;> intro hc <;> (try simp only [tests, reduceCtorEq] at hc) <;> (try exact Zf))) | refine G.endOps ?_ | refine G.endBlk ?_ | (refine G.atBin ?_; first | (refine G.atAdd ?_; first | refine G.arith rfl rfl rfl rfl rfl Zi ?_) | refine G.op rfl rfl ?_) | refine G.op rfl rfl ?_ | (refine G.atLoad ?_; first | refine G.loadImm1 rfl (tyy rfl) rfl rfl Zp rfl ?_))
        all_goals first | (exfalso; omega) | exact G.again ⟨k + 1, P ++ [foldM n], _, _⟩ ⟨sint (by simp), rfl, rfl, rfl, rfl, rfl, rfl, rfl, rfl, rfl, rfl, rfl, rfl, trivial⟩ Zu ⟨by simp only; omega, by simp only; rw [map_snoc hn, hP, List.append_assoc], hs1'.put (foldM n) _, in_snoc hi1' hnF⟩ (by solve | repeat first | assumption | exact Zr _ | refine Zq ?_ Zp) (by simp only; omega) | skip
      . obtain rfl : k = c.2.2.2.1.length := by omega
        rw [List.take_length, ← hfm] at hP
        subst hP
        repeat' (first | (refine G.atCode ?_; refine G.stopLoop ?_) | (refine G.atCode ?_; first | refine G.seq ?_ | refine G.region ?_ | refine G.block ?_ | refine G.exit rfl ?_ | (refine G.cond rfl ?_ ?_ <;> intro hc <;> (try simp only [tests, reduceCtorEq] at hc) <;> (try exact Zf))) | refine G.endOps ?_ | (refine G.atBin ?_; first | refine G.op rfl rfl ?_) | refine G.op rfl rfl ?_ | (refine G.atLen ?_; first | refine G.lenSlice rfl (tyy rfl) rfl ?_) | (refine G.atLoad ?_; first | refine G.loadOwn1 rfl (tyy rfl) rfl rfl Za rfl rfl ?_) | (refine G.atFld ?_; first | refine G.fieldAddr rfl (tyy rfl) rfl rfl ?_))
        all_goals (try (exfalso; omega))
        refine G.go ?_
        refine G.loop (σ := Nat × List (List UInt8) × Ens × Nat) (fun x => [(56, .int .i64 x.1), (55, .int .i64 c.2.2.2.2.length), (54, .slice Ay c.2.2.2.2.length cy), (12, .pointer (some ⟨g12, 0, none⟩)), (31, .int .i64 j), (30, .int .i64 Lc.length), (29, .slice Acv Lc.length ccv), (23, .int .i64 i), (22, .int .i64 ws.length), (21, .slice AW ws.length cW), (6, .map (some m1)), (7, .map (some m2)), (2, .pointer (some ⟨gS, 0, none⟩))])
          (fun x => [.blk g12 [str c.1, str c.2.1, .int .i64 c.2.2.1, .slice Am c.2.2.2.1.length cm, .slice Ay c.2.2.2.2.length cy] 28, .obj m2 (mapOS x.2.2.1 x.2.2.2), .obj m1 (mapOS e1' c1'), .blk gS [.slice AT nT cT, .slice AC C.length cC] 25])
          (fun x _ => x.1 <= c.2.2.2.2.length /\ x.2.1 = A0 ++ (Lc.take j).flatMap (mayV C) ++ (c.2.2.2.2.take x.1).map foldM /\ SetM x.2.2.1 x.2.2.2 x.2.1 /\ ∀ y ∈ x.2.1, y ∈ tyF T) (fun x => c.2.2.2.2.length - x.1) ⟨0, A0 ++ (Lc.take j).flatMap (mayV C), e2, c2⟩ ⟨rfl, rfl, rfl, rfl, rfl, rfl, rfl, rfl, rfl, rfl, rfl, rfl, rfl, trivial⟩ Zu ⟨Nat.zero_le _, by simp, hs2, hi2⟩ ?_
        rintro ⟨k, P, ex, cx⟩ h8 hle8 ⟨hkk, hP, hsx, hPi⟩
        simp only at hkk hP hsx hPi
        refine G.norm (by (try dsimp only) <;> exact rfl) (by (try dsimp only) <;> exact rfl) ?_
        by_cases hkt : k < c.2.2.2.2.length
        . obtain ⟨n, hn⟩ : ∃ t, c.2.2.2.2[k]? = some t := ⟨c.2.2.2.2[k], List.getElem?_eq_getElem hkt⟩
          have hgetn : (strsR c.2.2.2.2)[k]? = some [str n] := by simp [strsR, hn]
          have hnl := b6 n (List.mem_of_getElem? hn)
          have hnF := hgtu.2 n (List.mem_of_getElem? hn)
          repeat' (first | (refine G.atIdx ?_; refine G.idxImm rfl rfl (tyy rfl) (tyy rfl) (hy.mono (by solve | repeat first | assumption | exact Zr _ | refine Zq ?_ Zp)) Zj rfl (by rw [strsR_length]; omega) ?_; intro pp rr hx9 hp9; (rw [hgetn] at hx9); (obtain rfl := Option.some.inj hx9)) | (show G _ (.ops .seq _ (⟨some _, .call { callee := .value (.func 21), args := _, argTypes := _ }, _, _, _, none⟩ :: _) :: _) _ _ _; refine G.call callFold rfl rfl (octet_Fold n (by omega) _) Ze ?_; rintro _ h6 H6 ⟨rfl, rfl⟩ hle6) | (refine G.mapUpdateS rfl rfl rfl (tyy rfl) (tyy rfl) Za ?_) | (refine G.atCode ?_; first | refine G.seq ?_ | refine G.region ?_ | refine G.block ?_ | refine G.skip ?_ | (refine G.cond rfl ?_ ?_ <;> intro hc <;> (try simp only [tests, reduceCtorEq] at hc) <;> (try exact Zf))) | refine G.endOps ?_ | refine G.endBlk ?_ | (refine G.atBin ?_; first | (refine G.atAdd ?_; first | refine G.arith rfl rfl rfl rfl rfl Zi ?_) | refine G.op rfl rfl ?_) | refine G.op rfl rfl ?_ | (refine G.atLoad ?_; first | refine G.loadImm1 rfl (tyy rfl) rfl rfl Zp rfl ?_))
          all_goals first | (exfalso; omega) | exact G.again ⟨k + 1, P ++ [foldM n], _, _⟩ ⟨sint (by simp), rfl, rfl, rfl, rfl, rfl, rfl, rfl, rfl, rfl, rfl, rfl, rfl, trivial⟩ Zu ⟨by simp only; omega, by simp only; rw [map_snoc hn, hP, List.append_assoc], hsx.put (foldM n) _, in_snoc hPi hnF⟩ (by solve | repeat first | assumption | exact Zr _ | refine Zq ?_ Zp) (by simp only; omega) | skip
        . obtain rfl : k = c.2.2.2.2.length := by omega
          rw [List.take_length, ← hfa] at hP
          subst hP
          repeat' (first | (refine G.atCode ?_; first | refine G.seq ?_ | refine G.region ?_ | refine G.exit rfl ?_ | (refine G.cond rfl ?_ ?_ <;> intro hc <;> (try simp only [tests, reduceCtorEq] at hc) <;> (try exact Zf))) | refine G.endOps ?_ | refine G.endBlk ?_ | (refine G.atBin ?_; first | (refine G.atAdd ?_; first | refine G.arith rfl rfl rfl rfl rfl Zi ?_) | refine G.op rfl rfl ?_) | refine G.op rfl rfl ?_)
          all_goals first | (exfalso; omega) | exact G.again ⟨j + 1, ⟨e1', c1'⟩, ⟨ex, cx⟩⟩ ⟨sint (by simp), rfl, rfl, rfl, rfl, rfl, rfl, rfl, rfl, trivial⟩ Zu ⟨by simp only; omega, hs1', hsx, hi1', hPi⟩ (by solve | repeat first | assumption | exact Zr _ | refine Zq ?_ Zp) (by simp only; omega) | skip
    . obtain rfl : j = Lc.length := by omega
      rw [List.take_length] at hs1 hs2 hi1 hi2
      repeat' (first | (refine G.atCode ?_; first | refine G.seq ?_ | refine G.region ?_ | refine G.exit rfl ?_ | (refine G.cond rfl ?_ ?_ <;> intro hc <;> (try simp only [tests, reduceCtorEq] at hc) <;> (try exact Zf))) | refine G.endOps ?_ | refine G.endBlk ?_ | (refine G.atBin ?_; first | (refine G.atAdd ?_; first | refine G.arith rfl rfl rfl rfl rfl Zi ?_) | refine G.op rfl rfl ?_) | refine G.op rfl rfl ?_)
      all_goals first | (exfalso; omega) | exact G.again ⟨i + 1, ⟨e1, c1⟩, ⟨e2, c2⟩⟩ ⟨sint (by simp), rfl, rfl, rfl, rfl, rfl, trivial⟩ Zu ⟨by simp only; omega, by simp only [hm1]; exact hs1, by simp only [ha1]; exact hs2, by simp only [hm1]; exact hi1, by simp only [ha1]; exact hi2⟩ (by solve | repeat first | assumption | exact Zr _ | refine Zq ?_ Zp) (by simp only; omega) | skip
  . obtain rfl : i = ws.length := by omega
    rw [List.take_length] at hs1 hs2 hi1 hi2
    have hl1 := setM_len hs1 hi1
    rw [hFl] at hl1
    repeat' (first | (refine G.rangeMapS rfl (tyy rfl) Za rfl ?_; intro r) | (refine G.atCode ?_; refine G.stopLoop ?_) | (refine G.atCode ?_; first | refine G.seq ?_ | refine G.region ?_ | refine G.block ?_ | refine G.exit rfl ?_ | (refine G.cond rfl ?_ ?_ <;> intro hc <;> (try simp only [tests, reduceCtorEq] at hc) <;> (try exact Zf))) | refine G.endOps ?_ | (refine G.atBin ?_; first | refine G.op rfl rfl ?_) | refine G.op rfl rfl ?_)
    all_goals (try (exfalso; omega))
    refine G.go ?_
    refine G.loop (σ := Array Nat × List (List UInt8) × Ens) (fun x => [(67, .pointer (some ⟨r, 0, none⟩)), (6, .map (some m1)), (7, .map (some m2))])
      (fun x => [.obj r (.mapIter (some m1) c1 x.1 c1), .obj m1 (mapOS e1 c1), .obj m2 (mapOS x.2.2 c2)]) (fun x _ => Seen e1 x.1 x.2.1 /\ SetM x.2.2 c2 ((mayF C ws).filter fun t => !decide (t ∈ x.2.1))) (fun x => e1.length - x.2.1.length) ⟨#[], [], e2⟩ ⟨rfl, rfl, rfl, trivial⟩ Zu ⟨Seen.nil e1, by simp only; rw [List.filter_eq_self.2 (fun a _ => by simp)]; exact hs2⟩ ?_
    rintro ⟨seen, K, ex⟩ h5 hle5 ⟨hse, hsx⟩
    simp only at hse hsx
    refine G.norm (by (try dsimp only) <;> exact rfl) (by (try dsimp only) <;> exact rfl) ?_
    have hpl := hse.len
    repeat' (first | (refine G.nextMapS rfl Za Za rfl hs1.bc (Nat.le_refl _) ?_ ?_) | (refine G.atCode ?_; first | refine G.seq ?_ | refine G.region ?_))
    . intro hall
      have hov := Seen.over hs1 hse hall
      have hl2 := setM_len hsx (F := tyF T) (fun x hx => hi2 x (List.mem_filter.1 hx).1)
      rw [hFl] at hl2
      repeat' (first | (show G _ (.ops .seq _ (⟨some _, .call { callee := .value (.func 22), args := _, argTypes := _ }, _, _, _, none⟩ :: _) :: _) _ _ _; refine G.call callSorted rfl rfl (schema_sorted m1 c1 e1 (mustF C ws) hs1 (by omega) _) Ze ?_; rintro u1 h8 H8 ⟨⟨K1, n1, x1, hu1⟩, rfl⟩ hle8) | (show G _ (.ops .seq _ (⟨some _, .call { callee := .value (.func 22), args := _, argTypes := _ }, _, _, _, none⟩ :: _) :: _) _ _ _; refine G.call callSorted rfl rfl (schema_sorted m2 c2 ex _ hsx (by omega) _) Ze ?_; rintro u2 h9 H9 ⟨⟨K2, n2, x2, hu2⟩, rfl⟩ hle9) | (refine G.atCode ?_; first | refine G.seq ?_ | refine G.region ?_ | refine G.exit rfl ?_ | refine G.ret ?_ | (refine G.cond rfl ?_ ?_ <;> intro hc <;> (try simp only [tests, reduceCtorEq] at hc) <;> (try exact Zf))) | refine G.endOps ?_ | refine G.op rfl rfl ?_)
      all_goals
        rw [sortM_uM n1 x1] at hu1
        rw [sortM_mayU (C := C) (ws := ws) n2 (fun x => by rw [x2 x, List.mem_filter]; simp [hov x])] at hu2
        exact G.done (rs := [.tmp 4, .tmp 5]) rfl (.tmp rfl (.tmp rfl .nil)) rfl [] (SubH.nil _) ⟨⟨_, _, rfl, hu1.mono (by solve | repeat first | assumption | exact Zr _ | refine Zq ?_ Zp), hu2.mono (by solve | repeat first | assumption | exact Zr _ | refine Zq ?_ Zp)⟩, rfl⟩
    . intro q v' b' hm hb
      have hlt := hse.lt hm hb
      have hst := hse.step hs1 hm hb
      have hdl := hsx.del q (L' := (mayF C ws).filter fun t => !decide (t ∈ K ++ [q])) (fun x => by simp only [List.mem_filter, List.mem_append, List.mem_singleton, Bool.not_eq_true', decide_eq_false_iff_not, not_or]; exact ⟨fun ⟨a, b, c⟩ => ⟨⟨a, b⟩, c⟩, fun ⟨⟨a, b⟩, c⟩ => ⟨a, b, c⟩⟩)
      repeat' (first | (refine G.entryMapS rfl Za Za rfl hm hs1.b ?_) | (refine G.deleteMapS rfl rfl rfl (tyy rfl) (tyy rfl) Za ?_) | (refine G.atCode ?_; first | refine G.seq ?_ | refine G.region ?_ | refine G.block ?_ | refine G.skip ?_ | (refine G.cond rfl ?_ ?_ <;> intro hc <;> (try simp only [tests, reduceCtorEq] at hc) <;> (try exact Zf))) | refine G.endOps ?_ | refine G.endBlk ?_ | refine G.op rfl rfl ?_)
      all_goals
        exact G.again ⟨seen.push b', K ++ [q], _⟩ ⟨rfl, rfl, rfl, trivial⟩ Zu ⟨hst, hdl⟩ (by solve | repeat first | assumption | exact Zr _ | refine Zq ?_ Zp) (by simp only [List.length_append, List.length_cons, List.length_nil]; omega)
end Go.Proofs.YtfmekdmpghhegaaDoor
