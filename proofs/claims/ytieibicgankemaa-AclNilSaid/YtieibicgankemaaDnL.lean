/- Names: castellanref09.Print. -/
import Derived.Test.YtieibicgankemaaDnK
import Derived.Test.YtieibicgankemaaLtT
namespace Go.Proofs.Ytieibicgankemaa
set_option linter.all false
set_option maxRecDepth 4000
open Go.RowKit

def szA (a : List UInt8 × List UInt8) : Nat := min a.2.length 5000
def szR (r : Rdn) : Nat := (r.map szA).sum
def szD (d : Dn) : Nat := (d.map szR).sum
theorem joinTail_ge (sep : List UInt8) (r : List (List UInt8)) : (r.map List.length).sum ≤ (Lib.joinTail sep r).length := by
  induction r with
  | nil => simp [Lib.joinTail]
  | cons y r ih => simp only [Lib.joinTail, List.map_cons, List.flatten_cons, List.length_append, List.sum_cons] at ih ⊢; omega
theorem join_ge (sep : List UInt8) (L : List (List UInt8)) : (L.map List.length).sum ≤ (Lib.join L sep).length := by
  cases L with
  | nil => simp [Lib.join_nil]
  | cons x r => rw [Lib.join_cons, List.length_append, List.map_cons, List.sum_cons]; have := joinTail_ge sep r; omega
theorem fR_ge (r : Rdn) : szR r ≤ (fR false r).length := by
  refine Nat.le_trans ?_ (join_ge [43] (r.map (fA false)))
  rw [List.map_map]
  exact sum_le _ _ _ fun a _ => by have := (wrM_len a.2).1; simp only [szA, Function.comp, fA, avaT, Bool.false_eq_true, if_false, List.length_append]; omega
theorem txt_ge (d : Dn) : szD d ≤ (txt false d).length := by
  refine Nat.le_trans ?_ (join_ge [44] (d.map (fR false)))
  rw [List.map_map]
  exact sum_le _ _ _ fun r _ => fR_ge r
theorem long_sz {d : Dn} (h : longB d = true) : 4096 < szD d := by
  unfold longB longR at h
  rw [List.any_eq_true] at h
  obtain ⟨r, hr, h⟩ := h
  rw [List.any_eq_true] at h
  obtain ⟨a, ha, h⟩ := h
  have h := of_decide_eq_true h
  have h1 : szA a ≤ szR r := mem_le_sum szA r a ha
  have h2 : szR r ≤ szD d := mem_le_sum szR d r hr
  unfold szA at h1
  omega
theorem printM_eq {d : Dn} (hc : chkM d = 0) : printM d = if 4096 < (txt false d).length then ([], 5) else (txt false d, 0) := by
  unfold printM
  rw [if_neg (by rw [hc]; simp)]
  by_cases h : longB d = true
  · rw [if_pos h, if_pos (by have := long_sz h; have := txt_ge d; omega)]
  · rw [if_neg h]
theorem callRPrint : Callable Try.prog 23 := ⟨_, Try.func23, by kernel_rfl, rfl⟩
set_option maxRecDepth 8000 in
set_option maxHeartbeats 2000000 in
theorem ref09_Print (d : Dn) (v : Value) (hd : dnW d ≤ 10000000) (h : Heap) (hv : DnC h d v) : Spec Try.prog 23 [v] h [] (fun u _ H' => u = .tuple #[str (printM d).1, .int .i64 (printM d).2] ∧ H' = []) := by
  have hv0 := hv
  obtain ⟨rows, hs, hrows⟩ := hv
  have hrl := hrows.len
  have hdl := dn_len_le d
  have hge := txt_ge d
  have htl := txt_len false d
  have hP0 : ∀ c, chkM d = c → c ≠ 0 → printM d = ([], c) := fun c e h => by unfold printM; rw [e, if_pos h]
  have hP1 : chkM d = 0 → 4096 < (txt false d).length → printM d = ([], 5) := fun e h => by rw [printM_eq e, if_pos h]
  have hP2 : chkM d = 0 → ¬ 4096 < (txt false d).length → printM d = (txt false d, 0) := fun e h => by rw [printM_eq e, if_neg h]
  generalize hPd : printM d = P0 at *
  clear hPd
  generalize hR : chkM d = R at *
  unfold chkM at hR
  refine Spec.enter Try.func23 rfl rfl ?_; intro w0
  repeat' (first | (refine G.atCode ?_; refine G.stopLoop ?_) | (refine G.atCode ?_; first | refine G.seq ?_ | refine G.region ?_ | refine G.block ?_) | refine G.endOps ?_ | refine G.op rfl rfl ?_ | (refine G.atLen ?_; first | refine G.lenImm rfl (tyy rfl) (by solve | (repeat (first | assumption | (apply HSl.mono; rotate_left; assumption)))) rfl ?_))
  refine G.go ?_
  rw [hrl]
  refine G.loop (σ := Nat) (fun i => [(11, .int .i64 i), (10, .int .i64 d.length), (9, v), (4, .int .i64 (szD (d.take i) : Nat)), (0, v)])
    (fun _ => []) (fun i _ => i ≤ d.length ∧ chkGo i (d.drop i) = R) (fun i => d.length - i) 0 ⟨rfl, rfl, rfl, rfl, rfl, trivial⟩ (SubH.nil _) ⟨Nat.zero_le _, hR⟩ ?_
  clear hR
  rintro i h1 hle1 ⟨hi, hR⟩
  by_cases hlt : i < d.length
  · obtain ⟨r, hr⟩ : ∃ r, d[i]? = some r := ⟨d[i], List.getElem?_eq_getElem hlt⟩
    obtain ⟨rv, hget, hrv⟩ := hrows.get hr
    have hrw := rdnW_le (List.mem_of_getElem? hr)
    have hrlen := rdn_len_le r
    have hal := avaR_length r
    have hty := tysOk_of r (by omega)
    have hsz : szD (d.take (i + 1)) = szD (d.take i) + szR r := by unfold szD; rw [take_of_get hr]; simp
    have hszl : szD (d.take i) + szR r ≤ szD d := sum_take szR d i r hr
    rw [chkGo_step hr] at hR
    by_cases h32 : i = 32
    · rw [if_pos h32] at hR
      subst hR
      have e := hP0 9 rfl (by decide)
      subst e
      repeat' (first | (refine G.atIdx ?_; refine G.idxImm rfl rfl (tyy rfl) (tyy rfl) (hs.mono hle1) (by first | (simp only [Int.reduceToNat]; rfl) | with_reducible apply Int.toNat_natCast | exact Eq.refl _) rfl (by omega) ?_; intro p1 r1 hr1 hp1; (rw [hget] at hr1); (obtain rfl := Option.some.inj hr1)) | (refine G.atCode ?_; first | refine G.seq ?_ | refine G.region ?_ | refine G.block ?_ | refine G.skip ?_ | refine G.ret ?_ | (refine G.cond rfl ?_ ?_ <;> intro hc <;> (try simp only [tests, reduceCtorEq] at hc) <;> (try (exfalso; first | omega | exact absurd hc (by with_reducible assumption) | exact absurd (by with_reducible assumption) hc | exact Bool.noConfusion hc | exact hc | exact hc trivial | fail)))) | refine G.endOps ?_ | (refine G.atBin ?_; first | (refine G.atEql ?_; first | refine G.op rfl rfl ?_) | refine G.op rfl rfl ?_) | refine G.op rfl rfl ?_ | (refine G.atLoad ?_; first | refine G.loadImm1 rfl (tyy rfl) rfl rfl (by assumption) rfl ?_))
      all_goals first | (exfalso; omega) | exact G.done2 rfl rfl rfl _ (SubH.nil _) ⟨rfl, rfl⟩
    rw [if_neg h32] at hR
    by_cases hr0 : r.length = 0
    · have e2 : rdnCk r = 2 := by unfold rdnCk; rw [if_pos hr0]
      rw [e2, if_pos (by decide)] at hR
      subst hR
      have e := hP0 2 rfl (by decide)
      subst e
      repeat' (first | (refine G.atIdx ?_; refine G.idxImm rfl rfl (tyy rfl) (tyy rfl) (hs.mono hle1) (by first | (simp only [Int.reduceToNat]; rfl) | with_reducible apply Int.toNat_natCast | exact Eq.refl _) rfl (by omega) ?_; intro p1 r1 hr1 hp1; (rw [hget] at hr1); (obtain rfl := Option.some.inj hr1)) | (refine G.atCode ?_; first | refine G.seq ?_ | refine G.region ?_ | refine G.block ?_ | refine G.skip ?_ | refine G.ret ?_ | (refine G.cond rfl ?_ ?_ <;> intro hc <;> (try simp only [tests, reduceCtorEq] at hc) <;> (try (exfalso; first | omega | exact absurd hc (by with_reducible assumption) | exact absurd (by with_reducible assumption) hc | exact Bool.noConfusion hc | exact hc | exact hc trivial | fail)))) | refine G.endOps ?_ | (refine G.atBin ?_; first | (refine G.atEql ?_; first | refine G.op rfl rfl ?_) | refine G.op rfl rfl ?_) | refine G.op rfl rfl ?_ | (refine G.atLen ?_; first | refine G.lenImm rfl (tyy rfl) (by solve | (repeat (first | assumption | (apply HSl.mono; rotate_left; assumption)))) rfl ?_) | (refine G.atLoad ?_; first | refine G.loadImm1 rfl (tyy rfl) rfl rfl (by assumption) rfl ?_))
      all_goals first | (exfalso; omega) | exact G.done2 rfl rfl rfl _ (SubH.nil _) ⟨rfl, rfl⟩
    have e2 : rdnCk r = rdnGo (r.take 0) (r.drop 0) := by unfold rdnCk; rw [if_neg hr0]; rfl
    repeat' (first | (refine G.atIdx ?_; refine G.idxImm rfl rfl (tyy rfl) (tyy rfl) (hs.mono hle1) (by first | (simp only [Int.reduceToNat]; rfl) | with_reducible apply Int.toNat_natCast | exact Eq.refl _) rfl (by omega) ?_; intro p1 r1 hr1 hp1; (rw [hget] at hr1); (obtain rfl := Option.some.inj hr1)) | (refine G.atCode ?_; refine G.stopLoop ?_) | (refine G.atCode ?_; first | refine G.seq ?_ | refine G.region ?_ | refine G.block ?_ | refine G.skip ?_ | (refine G.cond rfl ?_ ?_ <;> intro hc <;> (try simp only [tests, reduceCtorEq] at hc) <;> (try (exfalso; first | omega | exact absurd hc (by with_reducible assumption) | exact absurd (by with_reducible assumption) hc | exact Bool.noConfusion hc | exact hc | exact hc trivial | fail)))) | refine G.endOps ?_ | (refine G.atBin ?_; first | (refine G.atEql ?_; first | refine G.op rfl rfl ?_) | refine G.op rfl rfl ?_) | refine G.op rfl rfl ?_ | (refine G.atLen ?_; first | refine G.lenImm rfl (tyy rfl) (by solve | (repeat (first | assumption | (apply HSl.mono; rotate_left; assumption)))) rfl ?_) | (refine G.atLoad ?_; first | refine G.loadImm1 rfl (tyy rfl) rfl rfl (by assumption) rfl ?_))
    obtain ⟨A, cap, rfl, hcap, _, _⟩ := hrv.form
    refine G.go ?_
    rw [hal] at *
    have hal := avaR_length r
    refine G.loop (σ := Nat) (fun k => [(23, .int .i64 k), (22, .int .i64 r.length), (21, .slice A r.length cap), (6, .slice A r.length cap), (11, .int .i64 i), (10, .int .i64 d.length), (9, v), (4, .int .i64 (szD (d.take i) + szR (r.take k) : Nat)), (0, v)])
      (fun _ => []) (fun k _ => k ≤ r.length ∧ rdnGo (r.take k) (r.drop k) = rdnCk r) (fun k => r.length - k) 0 ⟨rfl, rfl, rfl, rfl, rfl, rfl, rfl, rfl, rfl, trivial⟩ (SubH.nil _) ⟨Nat.zero_le _, e2.symm⟩ ?_
    clear e2
    rintro k h3 hle3 ⟨hk, hR2⟩
    by_cases hkl : k < r.length
    · obtain ⟨⟨ty, vl⟩, ha⟩ : ∃ a, r[k]? = some a := ⟨r[k], List.getElem?_eq_getElem hkl⟩
      have hget2 := avaR_get ha
      have haw := avaW_le (List.mem_of_getElem? ha)
      have hpre := HSl.cut hrv k (by omega)
      rw [← avaR_take] at hpre
      have htk : (r.take k).length = k := by rw [List.length_take]; omega
      have hsz2 : szR (r.take (k + 1)) = szR (r.take k) + min vl.length 5000 := by unfold szR; rw [take_of_get ha]; simp [szA]
      have hszl2 : szR (r.take k) + min vl.length 5000 ≤ szR r := sum_take szA r k (ty, vl) ha
      rw [rdnGo_step ha] at hR2
      simp only [avaW] at haw hget2
      unfold avaC at hR2
      rw [htk] at hR2
      simp only at hR2
      have f1 : k = 8 → R = 9 := fun e => by simp [e] at hR2; rw [← hR2] at hR; simpa using hR.symm
      have f2 : ¬ k = 8 → typeM ty = false → R = 20 := fun e e2 => by simp [e, e2] at hR2; rw [← hR2] at hR; simpa using hR.symm
      have f3 : ¬ k = 8 → typeM ty = true → hasM (r.take k) ty = true → R = 21 := fun e e2 e3 => by simp [e, e2, e3] at hR2; rw [← hR2] at hR; simpa using hR.symm
      have f4 : ¬ k = 8 → typeM ty = true → hasM (r.take k) ty = false → rdnGo (r.take (k + 1)) (r.drop (k + 1)) = rdnCk r := fun e e2 e3 => by simpa [e, e2, e3] using hR2
      clear hR2
      generalize htt : typeM ty = tt at *
      generalize hhh : hasM (r.take k) ty = hh at *
      generalize hz1 : szD (d.take i) = z1 at *
      generalize hz2 : szR (r.take k) = z2 at *
      repeat' (first | (refine G.minI rfl rfl rfl ?_) | (refine G.atIdx ?_; refine G.idxImm rfl rfl (tyy rfl) (tyy rfl) (hrv.mono (Heap.le_trans hle1 hle3)) (by first | (simp only [Int.reduceToNat]; rfl) | with_reducible apply Int.toNat_natCast | exact Eq.refl _) rfl (by omega) ?_; intro p1 r1 hr1 hp1; (rw [hget2] at hr1); (obtain rfl := Option.some.inj hr1); have hl1 : ([str ty, str vl] : List Value).length = 2 := rfl) | (show G _ (.ops .seq _ (⟨some _, .call { callee := .value (.func 41), args := _, argTypes := _ }, _, _, _, none⟩ :: _) :: _) _ _ _; refine G.call callRType9 rfl rfl (ref09_Type ty (by omega) _) (by solve | (repeat (first | apply Takes.nil | apply Take.hd | apply Take.tl | apply Takes.cons))) ?_; rintro _ h4 H4 ⟨rfl, rfl⟩ hle4; rw [htt]) | (refine G.slicePre (b' := k) rfl rfl (tyy rfl) (tyy rfl) rfl (by first | (simp only [Int.reduceToNat]; rfl) | with_reducible apply Int.toNat_natCast | exact Eq.refl _) (by omega) ?_) | (show G _ (.ops .seq _ (⟨some _, .call { callee := .value (.func 42), args := _, argTypes := _ }, _, _, _, none⟩ :: _) :: _) _ _ _; refine G.call callRHas rfl rfl (ref09_has (r.take k) (tysOk_take hty k) (.slice A k cap) ty (by omega) [] _ (.inl ⟨rfl, hpre.mono (by solve | (repeat (first | assumption | exact Heap.le_refl _ | (refine Heap.le_trans ?_ (by assumption)))))⟩)) (by solve | (repeat (first | apply Takes.nil | apply Take.hd | apply Take.tl | apply Takes.cons))) ?_; rintro _ h5 H5 ⟨rfl, rfl⟩ hle5; rw [hhh]) | (refine G.atCode ?_; first | refine G.seq ?_ | refine G.region ?_ | refine G.block ?_ | refine G.skip ?_ | refine G.drawAuto mixedOk rfl (by decide +kernel) ?_ | refine G.ret ?_ | (refine G.cond rfl ?_ ?_ <;> intro hc <;> (try simp only [tests, reduceCtorEq] at hc) <;> (try (exfalso; first | omega | exact absurd hc (by with_reducible assumption) | exact absurd (by with_reducible assumption) hc | exact Bool.noConfusion hc | exact hc | exact hc trivial | fail)))) | refine G.endOps ?_ | refine G.endStill ?_ | refine G.endBlk ?_ | (refine G.atBin ?_; first | (refine G.atAdd ?_; first | refine G.arith rfl rfl rfl rfl rfl (by simp only [inR]; omega) ?_) | (refine G.atEql ?_; first | refine G.op rfl rfl ?_) | refine G.op rfl rfl ?_) | refine G.op rfl rfl ?_ | (refine G.atLen ?_; first | refine G.lenStr rfl (tyy rfl) rfl ?_) | (refine G.atLoad ?_; first | refine G.loadOwn1 rfl (tyy rfl) rfl rfl (by solve | (repeat (first | apply Take.hd | apply Take.tl))) rfl rfl ?_ | refine G.loadImmA rfl (tyy rfl) rfl rfl (by assumption) (by assumption) rfl ?_) | (refine G.atFld ?_; first | refine G.fieldAddr rfl (tyy rfl) rfl rfl ?_) | (refine G.atSto ?_; refine G.storeOwn rfl rfl (tyy rfl) (by solve | (repeat (first | apply Take.hd | apply Take.tl))) rfl rfl rfl rfl ?_) | (refine G.atAlc ?_; refine G.alloc (tyy rfl) rfl rfl ?_; intro _))
      all_goals first
        | (obtain rfl := f1 (by omega); obtain rfl := hP0 _ rfl (by decide); exact G.done2 rfl rfl rfl _ (SubH.nil _) ⟨rfl, rfl⟩)
        | (obtain rfl := f2 (by omega) (by assumption); obtain rfl := hP0 _ rfl (by decide); exact G.done2 rfl rfl rfl _ (SubH.nil _) ⟨rfl, rfl⟩)
        | (obtain rfl := f3 (by omega) (by assumption) (by assumption); obtain rfl := hP0 _ rfl (by decide); exact G.done2 rfl rfl rfl _ (SubH.nil _) ⟨rfl, rfl⟩)
        | exact G.again (k + 1) ⟨sint (by omega), rfl, rfl, rfl, rfl, rfl, rfl, sint (by rw [hsz2]; omega), rfl, trivial⟩ (SubH.nil _) ⟨by omega, f4 (by omega) (by assumption) (by assumption)⟩ (by solve | (repeat (first | assumption | exact Heap.le_refl _ | (refine Heap.le_trans ?_ (by assumption))))) (by omega)
    · obtain rfl : k = r.length := by omega
      rw [List.drop_length, rdnGo] at hR2
      rw [← hR2, if_neg (by simp)] at hR
      rw [List.take_length, ← hsz]
      repeat' (first | (refine G.atCode ?_; first | refine G.seq ?_ | refine G.region ?_ | refine G.exit rfl ?_ | (refine G.cond rfl ?_ ?_ <;> intro hc <;> (try simp only [tests, reduceCtorEq] at hc) <;> (try (exfalso; first | omega | exact absurd hc (by with_reducible assumption) | exact absurd (by with_reducible assumption) hc | exact Bool.noConfusion hc | exact hc | exact hc trivial | fail)))) | refine G.endOps ?_ | refine G.endBlk ?_ | (refine G.atBin ?_; first | (refine G.atAdd ?_; first | refine G.arith rfl rfl rfl rfl rfl (by simp only [inR]; omega) ?_) | refine G.op rfl rfl ?_) | refine G.op rfl rfl ?_)
      all_goals first | (exfalso; omega) | exact G.again (i + 1) ⟨sint (by omega), rfl, rfl, rfl, rfl, trivial⟩ (SubH.nil _) ⟨by omega, hR⟩ (by solve | (repeat (first | assumption | exact Heap.le_refl _ | (refine Heap.le_trans ?_ (by assumption))))) (by omega)
  · obtain rfl : i = d.length := by omega
    rw [List.drop_length, chkGo] at hR
    subst hR
    have hP1 := hP1 rfl
    have hP2 := hP2 rfl
    rw [List.take_length]
    generalize htt : txt false d = T at *
    generalize szD d = z at *
    repeat' (first | (show G _ (.ops .seq _ (⟨some _, .call { callee := .value (.func 43), args := _, argTypes := _ }, _, _, _, none⟩ :: _) :: _) _ _ _; refine G.call callRText rfl rfl (ref09_text d v hd _ (hv0.mono (by solve | (repeat (first | assumption | exact Heap.le_refl _ | (refine Heap.le_trans ?_ (by assumption))))))) (by solve | (repeat (first | apply Takes.nil | apply Take.hd | apply Take.tl | apply Takes.cons))) ?_; rintro _ h5 H5 ⟨rfl, rfl⟩ hle5; rw [htt]) | (refine G.atCode ?_; first | refine G.seq ?_ | refine G.region ?_ | refine G.skip ?_ | refine G.exit rfl ?_ | refine G.ret ?_ | (refine G.cond rfl ?_ ?_ <;> intro hc <;> (try simp only [tests, reduceCtorEq] at hc) <;> (try (exfalso; first | omega | exact absurd hc (by with_reducible assumption) | exact absurd (by with_reducible assumption) hc | exact Bool.noConfusion hc | exact hc | exact hc trivial | fail)))) | refine G.endOps ?_ | (refine G.atGd ?_; first | refine G.guardYes rfl rfl ?_ | refine G.guardNoS rfl rfl rfl ?_ | (refine G.guardS rfl rfl rfl ?_ ?_ <;> intro hc <;> (try simp only [tests, reduceCtorEq] at hc) <;> (try (exfalso; first | omega | exact absurd hc (by with_reducible assumption) | exact absurd (by with_reducible assumption) hc | exact Bool.noConfusion hc | exact hc | exact hc trivial | fail)))) | (refine G.atBin ?_; first | refine G.op rfl rfl ?_) | refine G.op rfl rfl ?_ | (refine G.atLen ?_; first | refine G.lenStr rfl (tyy rfl) rfl ?_))
    all_goals first
      | (obtain rfl := hP1 (by omega); exact G.done2 rfl rfl rfl _ (SubH.nil _) ⟨rfl, rfl⟩)
      | (obtain rfl := hP2 (by omega); exact G.done2 rfl rfl rfl _ (SubH.nil _) ⟨rfl, rfl⟩)
end Go.Proofs.Ytieibicgankemaa
