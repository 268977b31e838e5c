/- Names: dn.Print, dn.Norm. -/
import Derived.Test.YtahpemfnhepgoaaDnI
namespace Go.Proofs.Ytahpemfnhepgoaa
set_option linter.all false
open Go.RowKit

def longR (r : Rdn) : Bool := r.any fun a => decide (4096 < a.2.length)
def longB (d : Dn) : Bool := d.any longR
/-- A name's text, and what is wrong with it. -/
def printM (d : Dn) : List UInt8 × Int := if chkM d ≠ 0 then ([], chkM d) else if longB d = true then ([], 5) else if 4096 < (txt false d).length then ([], 5) else (txt false d, 0)
def normM (d : Dn) : List UInt8 × Int := if (printM d).2 ≠ 0 then ([], (printM d).2) else (txt true d, 0)
theorem longB_step {d : Dn} {i : Nat} {r : Rdn} (h : d[i]? = some r) : longB (d.drop i) = (longR r || longB (d.drop (i + 1))) := by
  unfold longB; rw [drop_of_get h, List.any_cons]
theorem longR_step {r : Rdn} {i : Nat} {a : List UInt8 × List UInt8} (h : r[i]? = some a) : longR (r.drop i) = (decide (4096 < a.2.length) || longR (r.drop (i + 1))) := by
  unfold longR; rw [drop_of_get h, List.any_cons]
theorem callPrint : Callable Try.prog 16 := ⟨_, Try.func16, by kernel_rfl, rfl⟩
theorem callNorm : Callable Try.prog 18 := ⟨_, Try.func18, by kernel_rfl, rfl⟩
theorem printM_text {d : Dn} (hc : chkM d = 0) (hl : longB d = false) : printM d = if 4096 < (txt false d).length then ([], 5) else (txt false d, 0) := by
  unfold printM; rw [if_neg (by rw [hc]; simp), if_neg (by rw [hl]; simp)]
set_option maxRecDepth 8000 in
set_option maxHeartbeats 2000000 in
theorem dn_Print (d : Dn) (v : Value) (hd : dnW d ≤ 10000000) (h : Heap) (hv : DnC h d v) : Spec Try.prog 16 [v] h [] (fun u _ H' => u = .tuple #[str (printM d).1, .int .i64 (printM d).2] ∧ H' = []) := by
  have hv0 := hv
  obtain ⟨rows, hs, hrows⟩ := hv
  have hrl := hrows.len
  have hdl := dn_len_le d
  have htl := txt_len false d
  generalize hR : printM d = R
  by_cases hc0 : chkM d ≠ 0
  · have e : printM d = ([], chkM d) := by unfold printM; rw [if_pos hc0]
    rw [e] at hR
    subst hR
    generalize hcc : chkM d = c at *
    refine Spec.enter Try.func16 rfl rfl ?_; intro w0
    repeat' (first | (show G _ (.ops .seq _ (⟨some _, .call { callee := .value (.func 33), args := _, argTypes := _ }, _, _, _, none⟩ :: _) :: _) _ _ _; refine G.call callCheck rfl rfl (dn_check d v hd _ (hv0.mono (by solve | (repeat (first | assumption | exact Heap.le_refl _ | (refine Heap.le_trans ?_ (by assumption))))))) (by solve | (repeat (first | apply Takes.nil | apply Take.hd | apply Take.tl | apply Takes.cons))) ?_; rintro _ h4 H4 ⟨rfl, rfl⟩ hle4; rw [hcc]) | (refine G.atCode ?_; first | refine G.seq ?_ | refine G.region ?_ | refine G.ret ?_ | (refine G.cond rfl ?_ ?_ <;> intro hc <;> (try simp only [tests, reduceCtorEq] at hc) <;> (try (exfalso; first | omega | exact absurd hc (by with_reducible assumption) | exact absurd (by with_reducible assumption) hc | exact Bool.noConfusion hc | exact hc | exact hc trivial | fail)))) | refine G.endOps ?_ | (refine G.atBin ?_; first | (refine G.atNeq ?_; first | refine G.op rfl rfl ?_)) | refine G.op rfl rfl ?_)
    all_goals first | (exfalso; omega) | exact G.done2 rfl rfl rfl _ (SubH.nil _) ⟨rfl, rfl⟩
  have hcc : chkM d = 0 := by omega
  refine Spec.enter Try.func16 rfl rfl ?_; intro w0
  repeat' (first | (show G _ (.ops .seq _ (⟨some _, .call { callee := .value (.func 33), args := _, argTypes := _ }, _, _, _, none⟩ :: _) :: _) _ _ _; refine G.call callCheck rfl rfl (dn_check d v hd _ (hv0.mono (by solve | (repeat (first | assumption | exact Heap.le_refl _ | (refine Heap.le_trans ?_ (by assumption))))))) (by solve | (repeat (first | apply Takes.nil | apply Take.hd | apply Take.tl | apply Takes.cons))) ?_; rintro _ h4 H4 ⟨rfl, rfl⟩ hle4; rw [hcc]) | (refine G.atCode ?_; refine G.stopLoop ?_) | (refine G.atCode ?_; first | refine G.seq ?_ | refine G.region ?_ | refine G.block ?_ | refine G.skip ?_ | (refine G.cond rfl ?_ ?_ <;> intro hc <;> (try simp only [tests, reduceCtorEq] at hc) <;> (try (exfalso; first | omega | exact absurd hc (by with_reducible assumption) | exact absurd (by with_reducible assumption) hc | exact Bool.noConfusion hc | exact hc | exact hc trivial | fail)))) | refine G.endOps ?_ | (refine G.atBin ?_; first | (refine G.atNeq ?_; first | refine G.op rfl rfl ?_)) | refine G.op rfl rfl ?_ | (refine G.atLen ?_; first | refine G.lenImm rfl (tyy rfl) (by solve | (repeat (first | assumption | (apply HSl.mono; rotate_left; assumption)))) rfl ?_))
  refine G.go ?_
  rw [hrl]
  refine G.loop (σ := Nat × Int) (fun x => [(18, .int .i64 x.1), (17, .int .i64 d.length), (16, v), (5, .int .i64 x.2), (0, v)])
    (fun _ => []) (fun x _ => x.1 ≤ d.length ∧ longB (d.drop x.1) = longB d) (fun x => d.length - x.1) ⟨0, 0⟩ ⟨rfl, rfl, rfl, rfl, rfl, trivial⟩ (SubH.nil _) ⟨Nat.zero_le _, rfl⟩ ?_
  rintro ⟨i, n⟩ h1 hle1 ⟨hi, hL⟩
  simp only at hi hL
  refine G.norm (by (try dsimp only) <;> exact rfl) (by (try dsimp only) <;> exact rfl) ?_
  have hle01 : Heap.le h h1 := Heap.le_trans hle4 hle1
  by_cases hlt : i < d.length
  · obtain ⟨r, hr⟩ : ∃ r, d[i]? = some r := ⟨d[i], List.getElem?_eq_getElem hlt⟩
    obtain ⟨rv, hget, hrv⟩ := hrows.get hr
    have hrw := rdnW_le (List.mem_of_getElem? hr)
    have hrlen := rdn_len_le r
    have hal := avaR_length r
    rw [longB_step hr] at hL
    repeat' (first | (refine G.atIdx ?_; refine G.idxImm rfl rfl (tyy rfl) (tyy rfl) (hs.mono hle01) (by first | (simp only [Int.reduceToNat]; rfl) | with_reducible apply Int.toNat_natCast | exact Eq.refl _) rfl (by omega) ?_; intro p1 r1 hr1 hp1; (rw [hget] at hr1); (obtain rfl := Option.some.inj hr1)) | (refine G.atCode ?_; refine G.stopLoop ?_) | (refine G.atCode ?_; first | refine G.seq ?_ | refine G.region ?_ | refine G.block ?_ | refine G.skip ?_ | (refine G.cond rfl ?_ ?_ <;> intro hc <;> (try simp only [tests, reduceCtorEq] at hc) <;> (try (exfalso; first | omega | exact absurd hc (by with_reducible assumption) | exact absurd (by with_reducible assumption) hc | exact Bool.noConfusion hc | exact hc | exact hc trivial | fail)))) | refine G.endOps ?_ | (refine G.atBin ?_; first | refine G.op rfl rfl ?_) | refine G.op rfl rfl ?_ | (refine G.atLen ?_; first | refine G.lenImm rfl (tyy rfl) (by solve | (repeat (first | assumption | (apply HSl.mono; rotate_left; assumption)))) rfl ?_) | (refine G.atLoad ?_; first | refine G.loadImm1 rfl (tyy rfl) rfl rfl (by assumption) rfl ?_))
    refine G.go ?_
    rw [hal]
    refine G.loop (σ := Nat × Int) (fun x => [(24, .int .i64 x.1), (23, .int .i64 r.length), (22, rv), (18, .int .i64 i), (17, .int .i64 d.length), (16, v), (5, .int .i64 x.2), (0, v)])
      (fun _ => []) (fun x _ => x.1 ≤ r.length ∧ longR (r.drop x.1) = longR r) (fun x => r.length - x.1) ⟨0, n⟩ ⟨rfl, rfl, rfl, rfl, rfl, rfl, rfl, rfl, trivial⟩ (SubH.nil _) ⟨Nat.zero_le _, rfl⟩ ?_
    rintro ⟨k, n2⟩ h3 hle3 ⟨hk, hL2⟩
    simp only at hk hL2
    refine G.norm (by (try dsimp only) <;> exact rfl) (by (try dsimp only) <;> exact rfl) ?_
    by_cases hkl : k < r.length
    · obtain ⟨⟨ty, vl⟩, ha⟩ : ∃ a, r[k]? = some a := ⟨r[k], List.getElem?_eq_getElem hkl⟩
      have hget2 := avaR_get ha
      rw [longR_step ha] at hL2
      simp only at hget2 hL2
      have f1 : 4096 < vl.length → R = ([], 5) := fun e => by
        rw [decide_eq_true e] at hL2
        rw [← hL2] at hL
        rw [← hR]; unfold printM; rw [if_neg (by rw [hcc]; simp), if_pos (by rw [← hL]; rfl)]
      have f2 : ¬ 4096 < vl.length → longR (r.drop (k + 1)) = longR r := fun e => by
        rw [decide_eq_false e] at hL2; simpa using hL2
      clear hL2
      repeat' (first | (refine G.atIdx ?_; refine G.idxImm rfl rfl (tyy rfl) (tyy rfl) (hrv.mono (Heap.le_trans hle01 hle3)) (by first | (simp only [Int.reduceToNat]; rfl) | with_reducible apply Int.toNat_natCast | exact Eq.refl _) rfl (by omega) ?_; intro p1 r1 hr1 hp1; (rw [hget2] at hr1); (obtain rfl := Option.some.inj hr1); have hl1 : ([str ty, str vl] : List Value).length = 2 := rfl) | (refine G.atCode ?_; first | refine G.seq ?_ | refine G.region ?_ | refine G.block ?_ | refine G.skip ?_ | refine G.ret ?_ | (refine G.cond rfl ?_ ?_ <;> intro hc <;> (try simp only [tests, reduceCtorEq] at hc) <;> (try (exfalso; first | omega | exact absurd hc (by with_reducible assumption) | exact absurd (by with_reducible assumption) hc | exact Bool.noConfusion hc | exact hc | exact hc trivial | fail)))) | refine G.endOps ?_ | refine G.endBlk ?_ | (refine G.atBin ?_; first | (refine G.atAdd ?_; first | refine G.arith rfl rfl rfl rfl rfl (by simp only [inR]; omega) ?_ | refine G.op rfl rfl ?_) | refine G.op rfl rfl ?_) | refine G.op rfl rfl ?_ | (refine G.atLen ?_; first | refine G.lenStr rfl (tyy rfl) rfl ?_) | (refine G.atLoad ?_; first | refine G.loadOwn1 rfl (tyy rfl) rfl rfl (by solve | (repeat (first | apply Take.hd | apply Take.tl))) rfl rfl ?_ | refine G.loadImmA rfl (tyy rfl) rfl rfl (by assumption) (by assumption) rfl ?_) | (refine G.atFld ?_; first | refine G.fieldAddr rfl (tyy rfl) rfl rfl ?_) | (refine G.atSto ?_; refine G.storeOwn rfl rfl (tyy rfl) (by solve | (repeat (first | apply Take.hd | apply Take.tl))) rfl rfl rfl rfl ?_) | (refine G.atAlc ?_; refine G.alloc (tyy rfl) rfl rfl ?_; intro _))
      all_goals first
        | (obtain rfl := f1 (by omega); exact G.done2 rfl rfl rfl _ (SubH.nil _) ⟨rfl, rfl⟩)
        | exact G.again ⟨k + 1, _⟩ ⟨sint (by omega), rfl, rfl, rfl, rfl, rfl, rfl, rfl, trivial⟩ (SubH.nil _) ⟨by simp only; omega, f2 (by omega)⟩ (by solve | (repeat (first | assumption | exact Heap.le_refl _ | (refine Heap.le_trans ?_ (by assumption))))) (by simp only; omega)
    · obtain rfl : k = r.length := by omega
      have e : longR r = false := by rw [← hL2]; unfold longR; rw [List.drop_length]; rfl
      rw [e] at hL
      repeat' (first | (refine G.atCode ?_; first | refine G.seq ?_ | refine G.region ?_ | refine G.exit rfl ?_ | (refine G.cond rfl ?_ ?_ <;> intro hc <;> (try simp only [tests, reduceCtorEq] at hc) <;> (try (exfalso; first | omega | exact absurd hc (by with_reducible assumption) | exact absurd (by with_reducible assumption) hc | exact Bool.noConfusion hc | exact hc | exact hc trivial | fail)))) | refine G.endOps ?_ | refine G.endBlk ?_ | (refine G.atBin ?_; first | (refine G.atAdd ?_; first | refine G.arith rfl rfl rfl rfl rfl (by simp only [inR]; omega) ?_) | refine G.op rfl rfl ?_) | refine G.op rfl rfl ?_)
      all_goals first | (exfalso; omega) | exact G.again ⟨i + 1, _⟩ ⟨sint (by omega), rfl, rfl, rfl, rfl, trivial⟩ (SubH.nil _) ⟨by simp only; omega, by simpa using hL⟩ (by solve | (repeat (first | assumption | exact Heap.le_refl _ | (refine Heap.le_trans ?_ (by assumption))))) (by simp only; omega)
  · obtain rfl : i = d.length := by omega
    have e : longB d = false := by rw [← hL]; unfold longB; rw [List.drop_length]; rfl
    rw [printM_text hcc e] at hR
    have f1 : 4096 < (txt false d).length → R = ([], 5) := fun e => by rw [if_pos e] at hR; exact hR.symm
    have f2 : ¬ 4096 < (txt false d).length → R = (txt false d, 0) := fun e => by rw [if_neg e] at hR; exact hR.symm
    clear hR
    generalize htt : txt false d = T at *
    repeat' (first | (show G _ (.ops .seq _ (⟨some _, .call { callee := .value (.func 34), args := _, argTypes := _ }, _, _, _, none⟩ :: _) :: _) _ _ _; refine G.call callText rfl rfl (dn_text false d v hd _ (hv0.mono (by solve | (repeat (first | assumption | exact Heap.le_refl _ | (refine Heap.le_trans ?_ (by assumption))))))) (by solve | (repeat (first | apply Takes.nil | apply Take.hd | apply Take.tl | apply Takes.cons))) ?_; rintro _ h5 H5 ⟨rfl, rfl⟩ hle5; rw [htt]) | (refine G.atCode ?_; first | refine G.seq ?_ | refine G.region ?_ | refine G.skip ?_ | refine G.exit rfl ?_ | refine G.ret ?_ | (refine G.cond rfl ?_ ?_ <;> intro hc <;> (try simp only [tests, reduceCtorEq] at hc) <;> (try (exfalso; first | omega | exact absurd hc (by with_reducible assumption) | exact absurd (by with_reducible assumption) hc | exact Bool.noConfusion hc | exact hc | exact hc trivial | fail)))) | refine G.endOps ?_ | (refine G.atBin ?_; first | refine G.op rfl rfl ?_) | refine G.op rfl rfl ?_ | (refine G.atLen ?_; first | refine G.lenStr rfl (tyy rfl) rfl ?_))
    all_goals first
      | (obtain rfl := f1 (by omega); exact G.done2 rfl rfl rfl _ (SubH.nil _) ⟨rfl, rfl⟩)
      | (obtain rfl := f2 (by omega); exact G.done2 rfl rfl rfl _ (SubH.nil _) ⟨rfl, rfl⟩)
theorem dn_Norm (d : Dn) (v : Value) (hd : dnW d ≤ 10000000) (h : Heap) (hv : DnC h d v) : Spec Try.prog 18 [v] h [] (fun u _ H' => u = .tuple #[str (normM d).1, .int .i64 (normM d).2] ∧ H' = []) := by
  unfold normM
  have hpr := dn_Print d v hd
  generalize printM d = R at *
  obtain ⟨t, e⟩ := R
  simp only at hpr ⊢
  by_cases he : e ≠ 0
  · rw [if_pos he]
    refine Spec.enter Try.func18 rfl rfl ?_; intro w0
    repeat' (first | (show G _ (.ops .seq _ (⟨some _, .call { callee := .value (.func 16), args := _, argTypes := _ }, _, _, _, none⟩ :: _) :: _) _ _ _; refine G.call callPrint rfl rfl (hpr _ (hv.mono (by solve | (repeat (first | assumption | exact Heap.le_refl _ | (refine Heap.le_trans ?_ (by assumption))))))) (by solve | (repeat (first | apply Takes.nil | apply Take.hd | apply Take.tl | apply Takes.cons))) ?_; rintro _ h4 H4 ⟨rfl, rfl⟩ hle4) | (refine G.atCode ?_; first | refine G.seq ?_ | refine G.region ?_ | refine G.ret ?_ | (refine G.cond rfl ?_ ?_ <;> intro hc <;> (try simp only [tests, reduceCtorEq] at hc) <;> (try (exfalso; first | omega | exact absurd hc (by with_reducible assumption) | exact absurd (by with_reducible assumption) hc | exact Bool.noConfusion hc | exact hc | exact hc trivial | fail)))) | refine G.endOps ?_ | (refine G.atBin ?_; first | (refine G.atNeq ?_; first | refine G.op rfl rfl ?_)) | refine G.op rfl rfl ?_)
    all_goals first | (exfalso; omega) | exact G.done2 rfl rfl rfl _ (SubH.nil _) ⟨rfl, rfl⟩
  · rw [if_neg he]
    refine Spec.enter Try.func18 rfl rfl ?_; intro w0
    repeat' (first | (show G _ (.ops .seq _ (⟨some _, .call { callee := .value (.func 16), args := _, argTypes := _ }, _, _, _, none⟩ :: _) :: _) _ _ _; refine G.call callPrint rfl rfl (hpr _ (hv.mono (by solve | (repeat (first | assumption | exact Heap.le_refl _ | (refine Heap.le_trans ?_ (by assumption))))))) (by solve | (repeat (first | apply Takes.nil | apply Take.hd | apply Take.tl | apply Takes.cons))) ?_; rintro _ h4 H4 ⟨rfl, rfl⟩ hle4) | (show G _ (.ops .seq _ (⟨some _, .call { callee := .value (.func 34), args := _, argTypes := _ }, _, _, _, none⟩ :: _) :: _) _ _ _; refine G.call callText rfl rfl (dn_text true d v hd _ (hv.mono (by solve | (repeat (first | assumption | exact Heap.le_refl _ | (refine Heap.le_trans ?_ (by assumption))))))) (by solve | (repeat (first | apply Takes.nil | apply Take.hd | apply Take.tl | apply Takes.cons))) ?_; rintro _ h5 H5 ⟨rfl, rfl⟩ hle5) | (refine G.atCode ?_; first | refine G.seq ?_ | refine G.region ?_ | refine G.skip ?_ | refine G.ret ?_ | (refine G.cond rfl ?_ ?_ <;> intro hc <;> (try simp only [tests, reduceCtorEq] at hc) <;> (try (exfalso; first | omega | exact absurd hc (by with_reducible assumption) | exact absurd (by with_reducible assumption) hc | exact Bool.noConfusion hc | exact hc | exact hc trivial | fail)))) | refine G.endOps ?_ | (refine G.atBin ?_; first | (refine G.atNeq ?_; first | refine G.op rfl rfl ?_)) | refine G.op rfl rfl ?_)
    all_goals first | (exfalso; omega) | exact G.done2 rfl rfl rfl _ (SubH.nil _) ⟨rfl, rfl⟩
end Go.Proofs.Ytahpemfnhepgoaa
