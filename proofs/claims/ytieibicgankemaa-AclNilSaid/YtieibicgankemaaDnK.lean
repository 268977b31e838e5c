/- Names: what is wrong with one; dn.check. -/
import Derived.Test.YtieibicgankemaaDnH
import Derived.Test.YtieibicgankemaaOcB
namespace Go.Proofs.Ytieibicgankemaa
set_option linter.all false
set_option maxRecDepth 4000
open Go.RowKit

def avaC (pre : Rdn) (a : List UInt8 × List UInt8) : Int := if pre.length = 8 then 9 else if typeM a.1 = false then 20 else if hasM pre a.1 = true then 21 else 0
def rdnGo : Rdn → Rdn → Int
  | _, [] => 0
  | pre, a :: r => if avaC pre a ≠ 0 then avaC pre a else rdnGo (pre ++ [a]) r
def rdnCk (r : Rdn) : Int := if r.length = 0 then 2 else rdnGo [] r
def chkGo : Nat → Dn → Int
  | _, [] => 0
  | i, r :: d => if i = 32 then 9 else if rdnCk r ≠ 0 then rdnCk r else chkGo (i + 1) d
def chkM (d : Dn) : Int := chkGo 0 d
theorem drop_of_get {α : Type} {l : List α} {i : Nat} {x : α} (h : l[i]? = some x) : l.drop i = x :: l.drop (i + 1) := by
  have hi := (List.getElem?_eq_some_iff.1 h).1
  have e := (List.getElem?_eq_some_iff.1 h).2
  rw [List.drop_eq_getElem_cons hi, e]
theorem take_of_get {α : Type} {l : List α} {i : Nat} {x : α} (h : l[i]? = some x) : l.take (i + 1) = l.take i ++ [x] := by
  have hi := (List.getElem?_eq_some_iff.1 h).1
  have e := (List.getElem?_eq_some_iff.1 h).2
  rw [List.take_succ_eq_append_getElem hi, e]
theorem chkGo_step {d : Dn} {i : Nat} {r : Rdn} (h : d[i]? = some r) : chkGo i (d.drop i) = if i = 32 then 9 else if rdnCk r ≠ 0 then rdnCk r else chkGo (i + 1) (d.drop (i + 1)) := by
  rw [drop_of_get h, chkGo]
theorem rdnGo_step {r : Rdn} {k : Nat} {a : List UInt8 × List UInt8} (h : r[k]? = some a) : rdnGo (r.take k) (r.drop k) = if avaC (r.take k) a ≠ 0 then avaC (r.take k) a else rdnGo (r.take (k + 1)) (r.drop (k + 1)) := by
  rw [drop_of_get h, rdnGo, take_of_get h]
theorem avaR_take (r : Rdn) (k : Nat) : avaR (r.take k) = (avaR r).take k := by simp [avaR, List.map_take]
theorem tysOk_of (r : Rdn) (h : rdnW r ≤ 10000000) : TysOk r := fun a ha => by
  have := avaW_le ha
  unfold avaW at this
  omega
theorem tysOk_take {r : Rdn} (h : TysOk r) (k : Nat) : TysOk (r.take k) := fun a ha => h a (List.mem_of_mem_take ha)
theorem callCheck : Callable Try.prog 33 := ⟨_, Try.func33, by kernel_rfl, rfl⟩
set_option maxRecDepth 8000 in
set_option maxHeartbeats 2000000 in
theorem dn_check (d : Dn) (v : Value) (hd : dnW d ≤ 10000000) (h : Heap) (hv : DnC h d v) : Spec Try.prog 33 [v] h [] (fun u _ H' => u = .int .i64 (chkM d) ∧ H' = []) := by
  obtain ⟨rows, hs, hrows⟩ := hv
  have hrl := hrows.len
  have hdl := dn_len_le d
  generalize hR : chkM d = R
  unfold chkM at hR
  refine Spec.enter Try.func33 rfl rfl ?_; intro w0
  repeat' (first | (refine G.atCode ?_; refine G.stopLoop ?_) | (refine G.atCode ?_; first | refine G.seq ?_ | refine G.region ?_ | refine G.block ?_) | refine G.endOps ?_ | refine G.op rfl rfl ?_ | (refine G.atLen ?_; first | refine G.lenImm rfl (tyy rfl) (by solve | (repeat (first | assumption | (apply HSl.mono; rotate_left; assumption)))) rfl ?_))
  refine G.go ?_
  rw [hrl]
  refine G.loop (σ := Nat) (fun i => [(9, .int .i64 i), (8, .int .i64 d.length), (7, v)])
    (fun _ => []) (fun i _ => i ≤ d.length ∧ chkGo i (d.drop i) = R) (fun i => d.length - i) 0 ⟨rfl, rfl, rfl, trivial⟩ (SubH.nil _) ⟨Nat.zero_le _, hR⟩ ?_
  clear hR
  rintro i h1 hle1 ⟨hi, hR⟩
  by_cases hlt : i < d.length
  · obtain ⟨r, hr⟩ : ∃ r, d[i]? = some r := ⟨d[i], List.getElem?_eq_getElem hlt⟩
    obtain ⟨rv, hget, hrv⟩ := hrows.get hr
    have hrw := rdnW_le (List.mem_of_getElem? hr)
    have hrlen := rdn_len_le r
    have hal := avaR_length r
    have hty := tysOk_of r (by omega)
    rw [chkGo_step hr] at hR
    by_cases h32 : i = 32
    · rw [if_pos h32] at hR
      subst hR
      repeat' (first | (refine G.atIdx ?_; refine G.idxImm rfl rfl (tyy rfl) (tyy rfl) (hs.mono hle1) (by first | (simp only [Int.reduceToNat]; rfl) | with_reducible apply Int.toNat_natCast | exact Eq.refl _) rfl (by omega) ?_; intro p1 r1 hr1 hp1; (rw [hget] at hr1); (obtain rfl := Option.some.inj hr1)) | (refine G.atCode ?_; first | refine G.seq ?_ | refine G.region ?_ | refine G.block ?_ | refine G.skip ?_ | refine G.ret ?_ | (refine G.cond rfl ?_ ?_ <;> intro hc <;> (try simp only [tests, reduceCtorEq] at hc) <;> (try (exfalso; first | omega | exact absurd hc (by with_reducible assumption) | exact absurd (by with_reducible assumption) hc | exact Bool.noConfusion hc | exact hc | exact hc trivial | fail)))) | refine G.endOps ?_ | (refine G.atBin ?_; first | (refine G.atEql ?_; first | refine G.op rfl rfl ?_) | refine G.op rfl rfl ?_) | refine G.op rfl rfl ?_ | (refine G.atLoad ?_; first | refine G.loadImm1 rfl (tyy rfl) rfl rfl (by assumption) rfl ?_))
      all_goals first | (exfalso; omega) | exact G.done1 rfl rfl _ (SubH.nil _) ⟨rfl, rfl⟩
    rw [if_neg h32] at hR
    by_cases hr0 : r.length = 0
    · have e2 : rdnCk r = 2 := by unfold rdnCk; rw [if_pos hr0]
      rw [e2, if_pos (by decide)] at hR
      subst hR
      repeat' (first | (refine G.atIdx ?_; refine G.idxImm rfl rfl (tyy rfl) (tyy rfl) (hs.mono hle1) (by first | (simp only [Int.reduceToNat]; rfl) | with_reducible apply Int.toNat_natCast | exact Eq.refl _) rfl (by omega) ?_; intro p1 r1 hr1 hp1; (rw [hget] at hr1); (obtain rfl := Option.some.inj hr1)) | (refine G.atCode ?_; first | refine G.seq ?_ | refine G.region ?_ | refine G.block ?_ | refine G.skip ?_ | refine G.ret ?_ | (refine G.cond rfl ?_ ?_ <;> intro hc <;> (try simp only [tests, reduceCtorEq] at hc) <;> (try (exfalso; first | omega | exact absurd hc (by with_reducible assumption) | exact absurd (by with_reducible assumption) hc | exact Bool.noConfusion hc | exact hc | exact hc trivial | fail)))) | refine G.endOps ?_ | (refine G.atBin ?_; first | (refine G.atEql ?_; first | refine G.op rfl rfl ?_) | refine G.op rfl rfl ?_) | refine G.op rfl rfl ?_ | (refine G.atLen ?_; first | refine G.lenImm rfl (tyy rfl) (by solve | (repeat (first | assumption | (apply HSl.mono; rotate_left; assumption)))) rfl ?_) | (refine G.atLoad ?_; first | refine G.loadImm1 rfl (tyy rfl) rfl rfl (by assumption) rfl ?_))
      all_goals first | (exfalso; omega) | exact G.done1 rfl rfl _ (SubH.nil _) ⟨rfl, rfl⟩
    have e2 : rdnCk r = rdnGo (r.take 0) (r.drop 0) := by unfold rdnCk; rw [if_neg hr0]; rfl
    repeat' (first | (refine G.atIdx ?_; refine G.idxImm rfl rfl (tyy rfl) (tyy rfl) (hs.mono hle1) (by first | (simp only [Int.reduceToNat]; rfl) | with_reducible apply Int.toNat_natCast | exact Eq.refl _) rfl (by omega) ?_; intro p1 r1 hr1 hp1; (rw [hget] at hr1); (obtain rfl := Option.some.inj hr1)) | (refine G.atCode ?_; refine G.stopLoop ?_) | (refine G.atCode ?_; first | refine G.seq ?_ | refine G.region ?_ | refine G.block ?_ | refine G.skip ?_ | (refine G.cond rfl ?_ ?_ <;> intro hc <;> (try simp only [tests, reduceCtorEq] at hc) <;> (try (exfalso; first | omega | exact absurd hc (by with_reducible assumption) | exact absurd (by with_reducible assumption) hc | exact Bool.noConfusion hc | exact hc | exact hc trivial | fail)))) | refine G.endOps ?_ | refine G.endBlk ?_ | (refine G.atBin ?_; first | (refine G.atEql ?_; first | refine G.op rfl rfl ?_) | refine G.op rfl rfl ?_) | refine G.op rfl rfl ?_ | (refine G.atLen ?_; first | refine G.lenImm rfl (tyy rfl) (by solve | (repeat (first | assumption | (apply HSl.mono; rotate_left; assumption)))) rfl ?_) | (refine G.atLoad ?_; first | refine G.loadImm1 rfl (tyy rfl) rfl rfl (by assumption) rfl ?_))
    obtain ⟨A, cap, rfl, hcap, _, _⟩ := hrv.form
    refine G.go ?_
    rw [hal] at *
    have hal := avaR_length r
    refine G.loop (σ := Nat) (fun k => [(23, .int .i64 k), (22, .int .i64 r.length), (21, .slice A r.length cap), (4, .slice A r.length cap), (9, .int .i64 i), (8, .int .i64 d.length), (7, v)])
      (fun _ => []) (fun k _ => k ≤ r.length ∧ rdnGo (r.take k) (r.drop k) = rdnCk r) (fun k => r.length - k) 0 ⟨rfl, rfl, rfl, rfl, rfl, rfl, rfl, trivial⟩ (SubH.nil _) ⟨Nat.zero_le _, e2.symm⟩ ?_
    clear e2
    rintro k h3 hle3 ⟨hk, hR2⟩
    by_cases hkl : k < r.length
    · obtain ⟨⟨ty, vl⟩, ha⟩ : ∃ a, r[k]? = some a := ⟨r[k], List.getElem?_eq_getElem hkl⟩
      have hget2 := avaR_get ha
      have haw := avaW_le (List.mem_of_getElem? ha)
      have hpre := HSl.cut hrv k (by omega)
      rw [← avaR_take] at hpre
      have htk : (r.take k).length = k := by rw [List.length_take]; omega
      rw [rdnGo_step ha] at hR2
      simp only [avaW] at haw hget2
      unfold avaC at hR2
      rw [htk] at hR2
      simp only at hR2
      have f1 : k = 8 → R = 9 := fun e => by simp [e] at hR2; rw [← hR2] at hR; simpa using hR.symm
      have f2 : ¬ k = 8 → typeM ty = false → R = 20 := fun e e2 => by simp [e, e2] at hR2; rw [← hR2] at hR; simpa using hR.symm
      have f3 : ¬ k = 8 → typeM ty = true → hasM (r.take k) ty = true → R = 21 := fun e e2 e3 => by simp [e, e2, e3] at hR2; rw [← hR2] at hR; simpa using hR.symm
      have f4 : ¬ k = 8 → typeM ty = true → hasM (r.take k) ty = false → rdnGo (r.take (k + 1)) (r.drop (k + 1)) = rdnCk r := fun e e2 e3 => by simpa [e, e2, e3] using hR2
      clear hR2
      generalize htt : typeM ty = tt at *
      generalize hhh : hasM (r.take k) ty = hh at *
      repeat' (first | (refine G.atIdx ?_; refine G.idxImm rfl rfl (tyy rfl) (tyy rfl) (hrv.mono (Heap.le_trans hle1 hle3)) (by first | (simp only [Int.reduceToNat]; rfl) | with_reducible apply Int.toNat_natCast | exact Eq.refl _) rfl (by omega) ?_; intro p1 r1 hr1 hp1; (rw [hget2] at hr1); (obtain rfl := Option.some.inj hr1); have hl1 : ([str ty, str vl] : List Value).length = 2 := rfl) | (show G _ (.ops .seq _ (⟨some _, .call { callee := .value (.func 37), args := _, argTypes := _ }, _, _, _, none⟩ :: _) :: _) _ _ _; refine G.call callType9 rfl rfl (dn_Type ty _) (by solve | (repeat (first | apply Takes.nil | apply Take.hd | apply Take.tl | apply Takes.cons))) ?_; rintro _ h4 H4 ⟨rfl, rfl⟩ hle4; rw [htt]) | (refine G.slicePre (b' := k) rfl rfl (tyy rfl) (tyy rfl) rfl (by first | (simp only [Int.reduceToNat]; rfl) | with_reducible apply Int.toNat_natCast | exact Eq.refl _) (by omega) ?_) | (show G _ (.ops .seq _ (⟨some _, .call { callee := .value (.func 38), args := _, argTypes := _ }, _, _, _, none⟩ :: _) :: _) _ _ _; refine G.call callHas rfl rfl (dn_has (r.take k) (tysOk_take hty k) (.slice A k cap) ty (by omega) [] _ (.inl ⟨rfl, hpre.mono (by solve | (repeat (first | assumption | exact Heap.le_refl _ | (refine Heap.le_trans ?_ (by assumption)))))⟩)) (by solve | (repeat (first | apply Takes.nil | apply Take.hd | apply Take.tl | apply Takes.cons))) ?_; rintro _ h5 H5 ⟨rfl, rfl⟩ hle5; rw [hhh]) | (refine G.atCode ?_; first | refine G.seq ?_ | refine G.region ?_ | refine G.block ?_ | refine G.skip ?_ | refine G.drawAuto mixedOk rfl (by decide +kernel) ?_ | refine G.ret ?_ | (refine G.cond rfl ?_ ?_ <;> intro hc <;> (try simp only [tests, reduceCtorEq] at hc) <;> (try (exfalso; first | omega | exact absurd hc (by with_reducible assumption) | exact absurd (by with_reducible assumption) hc | exact Bool.noConfusion hc | exact hc | exact hc trivial | fail)))) | refine G.endOps ?_ | refine G.endStill ?_ | refine G.endBlk ?_ | (refine G.atBin ?_; first | (refine G.atAdd ?_; first | refine G.arith rfl rfl rfl rfl rfl (by simp only [inR]; omega) ?_) | (refine G.atEql ?_; first | refine G.op rfl rfl ?_) | refine G.op rfl rfl ?_) | refine G.op rfl rfl ?_ | (refine G.atLoad ?_; first | refine G.loadOwn1 rfl (tyy rfl) rfl rfl (by solve | (repeat (first | apply Take.hd | apply Take.tl))) rfl rfl ?_ | refine G.loadImmA rfl (tyy rfl) rfl rfl (by assumption) (by assumption) rfl ?_) | (refine G.atFld ?_; first | refine G.fieldAddr rfl (tyy rfl) rfl rfl ?_) | (refine G.atSto ?_; refine G.storeOwn rfl rfl (tyy rfl) (by solve | (repeat (first | apply Take.hd | apply Take.tl))) rfl rfl rfl rfl ?_) | (refine G.atAlc ?_; refine G.alloc (tyy rfl) rfl rfl ?_; intro _))
      all_goals first
        | (obtain rfl := f1 (by omega); exact G.done1 rfl rfl _ (SubH.nil _) ⟨rfl, rfl⟩)
        | (obtain rfl := f2 (by omega) (by assumption); exact G.done1 rfl rfl _ (SubH.nil _) ⟨rfl, rfl⟩)
        | (obtain rfl := f3 (by omega) (by assumption) (by assumption); exact G.done1 rfl rfl _ (SubH.nil _) ⟨rfl, rfl⟩)
        | exact G.again (k + 1) ⟨sint (by omega), rfl, rfl, rfl, rfl, rfl, rfl, trivial⟩ (SubH.nil _) ⟨by omega, f4 (by omega) (by assumption) (by assumption)⟩ (by solve | (repeat (first | assumption | exact Heap.le_refl _ | (refine Heap.le_trans ?_ (by assumption))))) (by omega)
    · obtain rfl : k = r.length := by omega
      rw [List.drop_length, rdnGo] at hR2
      rw [← hR2, if_neg (by simp)] at hR
      repeat' (first | (refine G.atCode ?_; first | refine G.seq ?_ | refine G.region ?_ | refine G.exit rfl ?_ | (refine G.cond rfl ?_ ?_ <;> intro hc <;> (try simp only [tests, reduceCtorEq] at hc) <;> (try (exfalso; first | omega | exact absurd hc (by with_reducible assumption) | exact absurd (by with_reducible assumption) hc | exact Bool.noConfusion hc | exact hc | exact hc trivial | fail)))) | refine G.endOps ?_ | refine G.endBlk ?_ | (refine G.atBin ?_; first | (refine G.atAdd ?_; first | refine G.arith rfl rfl rfl rfl rfl (by simp only [inR]; omega) ?_) | refine G.op rfl rfl ?_) | refine G.op rfl rfl ?_)
      all_goals first | (exfalso; omega) | exact G.again (i + 1) ⟨sint (by omega), rfl, rfl, trivial⟩ (SubH.nil _) ⟨by omega, hR⟩ (by solve | (repeat (first | assumption | exact Heap.le_refl _ | (refine Heap.le_trans ?_ (by assumption))))) (by omega)
  · obtain rfl : i = d.length := by omega
    rw [List.drop_length, chkGo] at hR
    subst hR
    repeat' (first | (refine G.atCode ?_; first | refine G.seq ?_ | refine G.region ?_ | refine G.exit rfl ?_ | refine G.ret ?_ | (refine G.cond rfl ?_ ?_ <;> intro hc <;> (try simp only [tests, reduceCtorEq] at hc) <;> (try (exfalso; first | omega | exact absurd hc (by with_reducible assumption) | exact absurd (by with_reducible assumption) hc | exact Bool.noConfusion hc | exact hc | exact hc trivial | fail)))) | refine G.endOps ?_ | (refine G.atBin ?_; first | refine G.op rfl rfl ?_) | refine G.op rfl rfl ?_)
    all_goals first | (exfalso; omega) | exact G.done1 rfl rfl _ (SubH.nil _) ⟨rfl, rfl⟩
end Go.Proofs.Ytieibicgankemaa
namespace Go.Proofs.Ytieibicgankemaa
set_option linter.all false
set_option maxRecDepth 4000
open Go.RowKit

def longR (r : Rdn) : Bool := r.any fun a => decide (4096 < a.2.length)
def longB (d : Dn) : Bool := d.any longR
/-- A name's text, and what is wrong with it. -/
def printM (d : Dn) : List UInt8 × Int := if chkM d ≠ 0 then ([], chkM d) else if longB d = true then ([], 5) else if 4096 < (txt false d).length then ([], 5) else (txt false d, 0)
def normM (d : Dn) : List UInt8 × Int := if (printM d).2 ≠ 0 then ([], (printM d).2) else (txt true d, 0)
theorem longB_step {d : Dn} {i : Nat} {r : Rdn} (h : d[i]? = some r) : longB (d.drop i) = (longR r || longB (d.drop (i + 1))) := by
  unfold longB; rw [drop_of_get h, List.any_cons]
theorem longR_step {r : Rdn} {i : Nat} {a : List UInt8 × List UInt8} (h : r[i]? = some a) : longR (r.drop i) = (decide (4096 < a.2.length) || longR (r.drop (i + 1))) := by
  unfold longR; rw [drop_of_get h, List.any_cons]
theorem callPrint : Callable Try.prog 18 := ⟨_, Try.func18, by kernel_rfl, rfl⟩
theorem callNorm : Callable Try.prog 46 := ⟨_, Try.func46, by kernel_rfl, rfl⟩
theorem printM_text {d : Dn} (hc : chkM d = 0) (hl : longB d = false) : printM d = if 4096 < (txt false d).length then ([], 5) else (txt false d, 0) := by
  unfold printM; rw [if_neg (by rw [hc]; simp), if_neg (by rw [hl]; simp)]
set_option maxRecDepth 8000 in
set_option maxHeartbeats 2000000 in
theorem dn_Print (d : Dn) (v : Value) (hd : dnW d ≤ 10000000) (h : Heap) (hv : DnC h d v) : Spec Try.prog 18 [v] h [] (fun u _ H' => u = .tuple #[str (printM d).1, .int .i64 (printM d).2] ∧ H' = []) := by
  have hv0 := hv
  obtain ⟨rows, hs, hrows⟩ := hv
  have hrl := hrows.len
  have hdl := dn_len_le d
  have htl := txt_len false d
  generalize hR : printM d = R
  by_cases hc0 : chkM d ≠ 0
  · have e : printM d = ([], chkM d) := by unfold printM; rw [if_pos hc0]
    rw [e] at hR
    subst hR
    generalize hcc : chkM d = c at *
    refine Spec.enter Try.func18 rfl rfl ?_; intro w0
    repeat' (first | (show G _ (.ops .seq _ (⟨some _, .call { callee := .value (.func 33), args := _, argTypes := _ }, _, _, _, none⟩ :: _) :: _) _ _ _; refine G.call callCheck rfl rfl (dn_check d v hd _ (hv0.mono (by solve | (repeat (first | assumption | exact Heap.le_refl _ | (refine Heap.le_trans ?_ (by assumption))))))) (by solve | (repeat (first | apply Takes.nil | apply Take.hd | apply Take.tl | apply Takes.cons))) ?_; rintro _ h4 H4 ⟨rfl, rfl⟩ hle4; rw [hcc]) | (refine G.atCode ?_; first | refine G.seq ?_ | refine G.region ?_ | refine G.ret ?_ | (refine G.cond rfl ?_ ?_ <;> intro hc <;> (try simp only [tests, reduceCtorEq] at hc) <;> (try (exfalso; first | omega | exact absurd hc (by with_reducible assumption) | exact absurd (by with_reducible assumption) hc | exact Bool.noConfusion hc | exact hc | exact hc trivial | fail)))) | refine G.endOps ?_ | (refine G.atBin ?_; first | (refine G.atNeq ?_; first | refine G.op rfl rfl ?_)) | refine G.op rfl rfl ?_)
    all_goals first | (exfalso; omega) | exact G.done2 rfl rfl rfl _ (SubH.nil _) ⟨rfl, rfl⟩
  have hcc : chkM d = 0 := by omega
  refine Spec.enter Try.func18 rfl rfl ?_; intro w0
  repeat' (first | (show G _ (.ops .seq _ (⟨some _, .call { callee := .value (.func 33), args := _, argTypes := _ }, _, _, _, none⟩ :: _) :: _) _ _ _; refine G.call callCheck rfl rfl (dn_check d v hd _ (hv0.mono (by solve | (repeat (first | assumption | exact Heap.le_refl _ | (refine Heap.le_trans ?_ (by assumption))))))) (by solve | (repeat (first | apply Takes.nil | apply Take.hd | apply Take.tl | apply Takes.cons))) ?_; rintro _ h4 H4 ⟨rfl, rfl⟩ hle4; rw [hcc]) | (refine G.atCode ?_; refine G.stopLoop ?_) | (refine G.atCode ?_; first | refine G.seq ?_ | refine G.region ?_ | refine G.block ?_ | refine G.skip ?_ | (refine G.cond rfl ?_ ?_ <;> intro hc <;> (try simp only [tests, reduceCtorEq] at hc) <;> (try (exfalso; first | omega | exact absurd hc (by with_reducible assumption) | exact absurd (by with_reducible assumption) hc | exact Bool.noConfusion hc | exact hc | exact hc trivial | fail)))) | refine G.endOps ?_ | (refine G.atBin ?_; first | (refine G.atNeq ?_; first | refine G.op rfl rfl ?_)) | refine G.op rfl rfl ?_ | (refine G.atLen ?_; first | refine G.lenImm rfl (tyy rfl) (by solve | (repeat (first | assumption | (apply HSl.mono; rotate_left; assumption)))) rfl ?_))
  refine G.go ?_
  rw [hrl]
  refine G.loop (σ := Nat × Int) (fun x => [(18, .int .i64 x.1), (17, .int .i64 d.length), (16, v), (5, .int .i64 x.2), (0, v)])
    (fun _ => []) (fun x _ => x.1 ≤ d.length ∧ longB (d.drop x.1) = longB d) (fun x => d.length - x.1) ⟨0, 0⟩ ⟨rfl, rfl, rfl, rfl, rfl, trivial⟩ (SubH.nil _) ⟨Nat.zero_le _, rfl⟩ ?_
  rintro ⟨i, n⟩ h1 hle1 ⟨hi, hL⟩
  simp only at hi hL
  refine G.norm (by (try dsimp only) <;> exact rfl) (by (try dsimp only) <;> exact rfl) ?_
  have hle01 : Heap.le h h1 := Heap.le_trans hle4 hle1
  by_cases hlt : i < d.length
  · obtain ⟨r, hr⟩ : ∃ r, d[i]? = some r := ⟨d[i], List.getElem?_eq_getElem hlt⟩
    obtain ⟨rv, hget, hrv⟩ := hrows.get hr
    have hrw := rdnW_le (List.mem_of_getElem? hr)
    have hrlen := rdn_len_le r
    have hal := avaR_length r
    rw [longB_step hr] at hL
    repeat' (first | (refine G.atIdx ?_; refine G.idxImm rfl rfl (tyy rfl) (tyy rfl) (hs.mono hle01) (by first | (simp only [Int.reduceToNat]; rfl) | with_reducible apply Int.toNat_natCast | exact Eq.refl _) rfl (by omega) ?_; intro p1 r1 hr1 hp1; (rw [hget] at hr1); (obtain rfl := Option.some.inj hr1)) | (refine G.atCode ?_; refine G.stopLoop ?_) | (refine G.atCode ?_; first | refine G.seq ?_ | refine G.region ?_ | refine G.block ?_ | refine G.skip ?_ | (refine G.cond rfl ?_ ?_ <;> intro hc <;> (try simp only [tests, reduceCtorEq] at hc) <;> (try (exfalso; first | omega | exact absurd hc (by with_reducible assumption) | exact absurd (by with_reducible assumption) hc | exact Bool.noConfusion hc | exact hc | exact hc trivial | fail)))) | refine G.endOps ?_ | (refine G.atBin ?_; first | refine G.op rfl rfl ?_) | refine G.op rfl rfl ?_ | (refine G.atLen ?_; first | refine G.lenImm rfl (tyy rfl) (by solve | (repeat (first | assumption | (apply HSl.mono; rotate_left; assumption)))) rfl ?_) | (refine G.atLoad ?_; first | refine G.loadImm1 rfl (tyy rfl) rfl rfl (by assumption) rfl ?_))
    refine G.go ?_
    rw [hal]
    refine G.loop (σ := Nat × Int) (fun x => [(24, .int .i64 x.1), (23, .int .i64 r.length), (22, rv), (18, .int .i64 i), (17, .int .i64 d.length), (16, v), (5, .int .i64 x.2), (0, v)])
      (fun _ => []) (fun x _ => x.1 ≤ r.length ∧ longR (r.drop x.1) = longR r) (fun x => r.length - x.1) ⟨0, n⟩ ⟨rfl, rfl, rfl, rfl, rfl, rfl, rfl, rfl, trivial⟩ (SubH.nil _) ⟨Nat.zero_le _, rfl⟩ ?_
    rintro ⟨k, n2⟩ h3 hle3 ⟨hk, hL2⟩
    simp only at hk hL2
    refine G.norm (by (try dsimp only) <;> exact rfl) (by (try dsimp only) <;> exact rfl) ?_
    by_cases hkl : k < r.length
    · obtain ⟨⟨ty, vl⟩, ha⟩ : ∃ a, r[k]? = some a := ⟨r[k], List.getElem?_eq_getElem hkl⟩
      have hget2 := avaR_get ha
      rw [longR_step ha] at hL2
      simp only at hget2 hL2
      have f1 : 4096 < vl.length → R = ([], 5) := fun e => by
        rw [decide_eq_true e] at hL2
        rw [← hL2] at hL
        rw [← hR]; unfold printM; rw [if_neg (by rw [hcc]; simp), if_pos (by rw [← hL]; rfl)]
      have f2 : ¬ 4096 < vl.length → longR (r.drop (k + 1)) = longR r := fun e => by
        rw [decide_eq_false e] at hL2; simpa using hL2
      clear hL2
      repeat' (first | (refine G.atIdx ?_; refine G.idxImm rfl rfl (tyy rfl) (tyy rfl) (hrv.mono (Heap.le_trans hle01 hle3)) (by first | (simp only [Int.reduceToNat]; rfl) | with_reducible apply Int.toNat_natCast | exact Eq.refl _) rfl (by omega) ?_; intro p1 r1 hr1 hp1; (rw [hget2] at hr1); (obtain rfl := Option.some.inj hr1); have hl1 : ([str ty, str vl] : List Value).length = 2 := rfl) | (refine G.atCode ?_; first | refine G.seq ?_ | refine G.region ?_ | refine G.block ?_ | refine G.skip ?_ | refine G.ret ?_ | (refine G.cond rfl ?_ ?_ <;> intro hc <;> (try simp only [tests, reduceCtorEq] at hc) <;> (try (exfalso; first | omega | exact absurd hc (by with_reducible assumption) | exact absurd (by with_reducible assumption) hc | exact Bool.noConfusion hc | exact hc | exact hc trivial | fail)))) | refine G.endOps ?_ | refine G.endBlk ?_ | (refine G.atBin ?_; first | (refine G.atAdd ?_; first | refine G.arith rfl rfl rfl rfl rfl (by simp only [inR]; omega) ?_ | refine G.op rfl rfl ?_) | refine G.op rfl rfl ?_) | refine G.op rfl rfl ?_ | (refine G.atLen ?_; first | refine G.lenStr rfl (tyy rfl) rfl ?_) | (refine G.atLoad ?_; first | refine G.loadOwn1 rfl (tyy rfl) rfl rfl (by solve | (repeat (first | apply Take.hd | apply Take.tl))) rfl rfl ?_ | refine G.loadImmA rfl (tyy rfl) rfl rfl (by assumption) (by assumption) rfl ?_) | (refine G.atFld ?_; first | refine G.fieldAddr rfl (tyy rfl) rfl rfl ?_) | (refine G.atSto ?_; refine G.storeOwn rfl rfl (tyy rfl) (by solve | (repeat (first | apply Take.hd | apply Take.tl))) rfl rfl rfl rfl ?_) | (refine G.atAlc ?_; refine G.alloc (tyy rfl) rfl rfl ?_; intro _))
      all_goals first
        | (obtain rfl := f1 (by omega); exact G.done2 rfl rfl rfl _ (SubH.nil _) ⟨rfl, rfl⟩)
        | exact G.again ⟨k + 1, _⟩ ⟨sint (by omega), rfl, rfl, rfl, rfl, rfl, rfl, rfl, trivial⟩ (SubH.nil _) ⟨by simp only; omega, f2 (by omega)⟩ (by solve | (repeat (first | assumption | exact Heap.le_refl _ | (refine Heap.le_trans ?_ (by assumption))))) (by simp only; omega)
    · obtain rfl : k = r.length := by omega
      have e : longR r = false := by rw [← hL2]; unfold longR; rw [List.drop_length]; rfl
      rw [e] at hL
      repeat' (first | (refine G.atCode ?_; first | refine G.seq ?_ | refine G.region ?_ | refine G.exit rfl ?_ | (refine G.cond rfl ?_ ?_ <;> intro hc <;> (try simp only [tests, reduceCtorEq] at hc) <;> (try (exfalso; first | omega | exact absurd hc (by with_reducible assumption) | exact absurd (by with_reducible assumption) hc | exact Bool.noConfusion hc | exact hc | exact hc trivial | fail)))) | refine G.endOps ?_ | refine G.endBlk ?_ | (refine G.atBin ?_; first | (refine G.atAdd ?_; first | refine G.arith rfl rfl rfl rfl rfl (by simp only [inR]; omega) ?_) | refine G.op rfl rfl ?_) | refine G.op rfl rfl ?_)
      all_goals first | (exfalso; omega) | exact G.again ⟨i + 1, _⟩ ⟨sint (by omega), rfl, rfl, rfl, rfl, trivial⟩ (SubH.nil _) ⟨by simp only; omega, by simpa using hL⟩ (by solve | (repeat (first | assumption | exact Heap.le_refl _ | (refine Heap.le_trans ?_ (by assumption))))) (by simp only; omega)
  · obtain rfl : i = d.length := by omega
    have e : longB d = false := by rw [← hL]; unfold longB; rw [List.drop_length]; rfl
    rw [printM_text hcc e] at hR
    have f1 : 4096 < (txt false d).length → R = ([], 5) := fun e => by rw [if_pos e] at hR; exact hR.symm
    have f2 : ¬ 4096 < (txt false d).length → R = (txt false d, 0) := fun e => by rw [if_neg e] at hR; exact hR.symm
    clear hR
    generalize htt : txt false d = T at *
    repeat' (first | (show G _ (.ops .seq _ (⟨some _, .call { callee := .value (.func 34), args := _, argTypes := _ }, _, _, _, none⟩ :: _) :: _) _ _ _; refine G.call callText rfl rfl (dn_text false d v hd _ (hv0.mono (by solve | (repeat (first | assumption | exact Heap.le_refl _ | (refine Heap.le_trans ?_ (by assumption))))))) (by solve | (repeat (first | apply Takes.nil | apply Take.hd | apply Take.tl | apply Takes.cons))) ?_; rintro _ h5 H5 ⟨rfl, rfl⟩ hle5; rw [htt]) | (refine G.atCode ?_; first | refine G.seq ?_ | refine G.region ?_ | refine G.skip ?_ | refine G.exit rfl ?_ | refine G.ret ?_ | (refine G.cond rfl ?_ ?_ <;> intro hc <;> (try simp only [tests, reduceCtorEq] at hc) <;> (try (exfalso; first | omega | exact absurd hc (by with_reducible assumption) | exact absurd (by with_reducible assumption) hc | exact Bool.noConfusion hc | exact hc | exact hc trivial | fail)))) | refine G.endOps ?_ | (refine G.atBin ?_; first | refine G.op rfl rfl ?_) | refine G.op rfl rfl ?_ | (refine G.atLen ?_; first | refine G.lenStr rfl (tyy rfl) rfl ?_))
    all_goals first
      | (obtain rfl := f1 (by omega); exact G.done2 rfl rfl rfl _ (SubH.nil _) ⟨rfl, rfl⟩)
      | (obtain rfl := f2 (by omega); exact G.done2 rfl rfl rfl _ (SubH.nil _) ⟨rfl, rfl⟩)
theorem dn_Norm (d : Dn) (v : Value) (hd : dnW d ≤ 10000000) (h : Heap) (hv : DnC h d v) : Spec Try.prog 46 [v] h [] (fun u _ H' => u = .tuple #[str (normM d).1, .int .i64 (normM d).2] ∧ H' = []) := by
  unfold normM
  have hpr := dn_Print d v hd
  generalize printM d = R at *
  obtain ⟨t, e⟩ := R
  simp only at hpr ⊢
  by_cases he : e ≠ 0
  · rw [if_pos he]
    refine Spec.enter Try.func46 rfl rfl ?_; intro w0
    repeat' (first | (show G _ (.ops .seq _ (⟨some _, .call { callee := .value (.func 18), args := _, argTypes := _ }, _, _, _, none⟩ :: _) :: _) _ _ _; refine G.call callPrint rfl rfl (hpr _ (hv.mono (by solve | (repeat (first | assumption | exact Heap.le_refl _ | (refine Heap.le_trans ?_ (by assumption))))))) (by solve | (repeat (first | apply Takes.nil | apply Take.hd | apply Take.tl | apply Takes.cons))) ?_; rintro _ h4 H4 ⟨rfl, rfl⟩ hle4) | (refine G.atCode ?_; first | refine G.seq ?_ | refine G.region ?_ | refine G.ret ?_ | (refine G.cond rfl ?_ ?_ <;> intro hc <;> (try simp only [tests, reduceCtorEq] at hc) <;> (try (exfalso; first | omega | exact absurd hc (by with_reducible assumption) | exact absurd (by with_reducible assumption) hc | exact Bool.noConfusion hc | exact hc | exact hc trivial | fail)))) | refine G.endOps ?_ | (refine G.atBin ?_; first | (refine G.atNeq ?_; first | refine G.op rfl rfl ?_)) | refine G.op rfl rfl ?_)
    all_goals first | (exfalso; omega) | exact G.done2 rfl rfl rfl _ (SubH.nil _) ⟨rfl, rfl⟩
  · rw [if_neg he]
    refine Spec.enter Try.func46 rfl rfl ?_; intro w0
    repeat' (first | (show G _ (.ops .seq _ (⟨some _, .call { callee := .value (.func 18), args := _, argTypes := _ }, _, _, _, none⟩ :: _) :: _) _ _ _; refine G.call callPrint rfl rfl (hpr _ (hv.mono (by solve | (repeat (first | assumption | exact Heap.le_refl _ | (refine Heap.le_trans ?_ (by assumption))))))) (by solve | (repeat (first | apply Takes.nil | apply Take.hd | apply Take.tl | apply Takes.cons))) ?_; rintro _ h4 H4 ⟨rfl, rfl⟩ hle4) | (show G _ (.ops .seq _ (⟨some _, .call { callee := .value (.func 34), args := _, argTypes := _ }, _, _, _, none⟩ :: _) :: _) _ _ _; refine G.call callText rfl rfl (dn_text true d v hd _ (hv.mono (by solve | (repeat (first | assumption | exact Heap.le_refl _ | (refine Heap.le_trans ?_ (by assumption))))))) (by solve | (repeat (first | apply Takes.nil | apply Take.hd | apply Take.tl | apply Takes.cons))) ?_; rintro _ h5 H5 ⟨rfl, rfl⟩ hle5) | (refine G.atCode ?_; first | refine G.seq ?_ | refine G.region ?_ | refine G.skip ?_ | refine G.ret ?_ | (refine G.cond rfl ?_ ?_ <;> intro hc <;> (try simp only [tests, reduceCtorEq] at hc) <;> (try (exfalso; first | omega | exact absurd hc (by with_reducible assumption) | exact absurd (by with_reducible assumption) hc | exact Bool.noConfusion hc | exact hc | exact hc trivial | fail)))) | refine G.endOps ?_ | (refine G.atBin ?_; first | (refine G.atNeq ?_; first | refine G.op rfl rfl ?_)) | refine G.op rfl rfl ?_)
    all_goals first | (exfalso; omega) | exact G.done2 rfl rfl rfl _ (SubH.nil _) ⟨rfl, rfl⟩
end Go.Proofs.Ytieibicgankemaa
namespace Go.Proofs.Ytieibicgankemaa
set_option linter.all false
set_option maxRecDepth 4000
open Go.RowKit

theorem join_snoc (sep : List UInt8) (x : List UInt8) : ∀ (L : List (List UInt8)), L ≠ [] → Lib.join (L ++ [x]) sep = Lib.join L sep ++ sep ++ x := by
  intro L hL
  cases L with
  | nil => exact absurd rfl hL
  | cons y r => rw [List.cons_append, Lib.join_cons, Lib.join_cons]; simp [Lib.joinTail]
theorem join_one' (sep x : List UInt8) : Lib.join ([] ++ [x]) sep = x := Lib.join_one x sep
theorem sum_take {α : Type} (f : α → Nat) : ∀ (l : List α) (i : Nat) (x : α), l[i]? = some x → ((l.take i).map f).sum + f x ≤ (l.map f).sum
  | [], i, x, h => by simp at h
  | y :: l, 0, x, h => by simp at h; subst h; simp
  | y :: l, i + 1, x, h => by
    have := sum_take f l i x (by simpa using h)
    simp only [List.take_succ_cons, List.map_cons, List.sum_cons]; omega
theorem callRText : Callable Try.prog 43 := ⟨_, Try.func43, by kernel_rfl, rfl⟩
/-- The text so far, ahead of an RDN. -/
def pre9 (d : Dn) (i : Nat) : List UInt8 := if i = 0 then [] else Lib.join ((d.take i).map (fR false)) [44] ++ [44]
set_option maxRecDepth 8000 in
set_option maxHeartbeats 2000000 in
theorem ref09_text (d : Dn) (v : Value) (hd : dnW d ≤ 10000000) (h : Heap) (hv : DnC h d v) : Spec Try.prog 43 [v] h [] (fun u _ H' => u = str (txt false d) ∧ H' = []) := by
  obtain ⟨rows, hs, hrows⟩ := hv
  have hrl := hrows.len
  have hdl := dn_len_le d
  refine Spec.enter Try.func43 rfl rfl ?_; intro w0
  repeat' (first | (refine G.atCode ?_; refine G.stopLoop ?_) | (refine G.atCode ?_; first | refine G.seq ?_ | refine G.region ?_ | refine G.block ?_) | refine G.endOps ?_ | refine G.op rfl rfl ?_ | (refine G.atLen ?_; first | refine G.lenImm rfl (tyy rfl) (by solve | (repeat (first | assumption | (apply HSl.mono; rotate_left; assumption)))) rfl ?_))
  refine G.go ?_
  rw [hrl]
  refine G.loop (σ := Nat) (fun i => [(10, .int .i64 i), (9, .int .i64 d.length), (8, v), (3, str (Lib.join ((d.take i).map (fR false)) [44]))])
    (fun _ => []) (fun i _ => i ≤ d.length) (fun i => d.length - i) 0 ⟨rfl, rfl, rfl, rfl, trivial⟩ (SubH.nil _) (Nat.zero_le _) ?_
  rintro i h1 hle1 hi
  by_cases hlt : i < d.length
  · obtain ⟨r, hr⟩ : ∃ r, d[i]? = some r := ⟨d[i], List.getElem?_eq_getElem hlt⟩
    obtain ⟨rv, hget, hrv⟩ := hrows.get hr
    have hrlen := rdn_len_le r
    have hal := avaR_length r
    have hst : dnW (d.take i) + (rdnW r + 1) ≤ dnW d := sum_take (fun r => rdnW r + 1) d i r hr
    have hjl := txt_len false (d.take i)
    have hnext : Lib.join ((d.take (i + 1)).map (fR false)) [44] = pre9 d i ++ fR false r := by
      rw [map_take_succ (fR false) hr]
      unfold pre9
      by_cases h0 : i = 0
      · subst h0; rw [if_pos rfl]; exact join_one' _ _
      · rw [if_neg h0, join_snoc]
        intro e
        have h9 : ((d.take i).map (fR false)).length = i := by rw [List.length_map, List.length_take]; omega
        rw [e] at h9
        exact h0 h9.symm
    have hpl : (pre9 d i).length ≤ dnW (d.take i) + 1 := by
      unfold pre9; split
      · simp
      · simp only [List.length_append, List.length_cons, List.length_nil]; unfold txt at hjl; omega
    have hb0 : i = 0 → Lib.join ((d.take i).map (fR false)) [44] = pre9 d i := fun e => by subst e; rfl
    have hb1 : ¬ i = 0 → Lib.join ((d.take i).map (fR false)) [44] ++ [44] = pre9 d i := fun e => by unfold pre9; rw [if_neg e]
    have hjl' : (Lib.join ((d.take i).map (fR false)) [44]).length ≤ dnW (d.take i) := hjl
    clear hjl
    generalize Lib.join ((d.take i).map (fR false)) [44] = J at *
    generalize hPP : pre9 d i = PP at *
    repeat' (first | (refine G.atIdx ?_; refine G.idxImm rfl rfl (tyy rfl) (tyy rfl) (hs.mono hle1) (by first | (simp only [Int.reduceToNat]; rfl) | with_reducible apply Int.toNat_natCast | exact Eq.refl _) rfl (by omega) ?_; intro p1 r1 hr1 hp1; (rw [hget] at hr1); (obtain rfl := Option.some.inj hr1)) | (refine G.atCode ?_; refine G.stopLoop ?_) | (refine G.atCode ?_; first | refine G.seq ?_ | refine G.region ?_ | refine G.block ?_ | refine G.skip ?_ | (refine G.cond rfl ?_ ?_ <;> intro hc <;> (try simp only [tests, reduceCtorEq] at hc) <;> (try (exfalso; first | omega | exact absurd hc (by with_reducible assumption) | exact absurd (by with_reducible assumption) hc | exact Bool.noConfusion hc | exact hc | exact hc trivial | fail)))) | refine G.endOps ?_ | (refine G.atBin ?_; first | (refine G.atAdd ?_; first | refine G.catStr rfl rfl rfl (by first | omega | (simp only [lens] at *; omega)) ?_) | refine G.op rfl rfl ?_) | refine G.op rfl rfl ?_ | (refine G.atLen ?_; first | refine G.lenImm rfl (tyy rfl) (by solve | (repeat (first | assumption | (apply HSl.mono; rotate_left; assumption)))) rfl ?_) | (refine G.atLoad ?_; first | refine G.loadImm1 rfl (tyy rfl) rfl rfl (by assumption) rfl ?_))
    all_goals (first | rw [hb0 (by omega)] | rw [hb1 (by omega)])
    all_goals (
      refine G.go ?_
      rw [hal]
      refine G.loop (σ := Nat) (fun k => [(21, .int .i64 k), (20, .int .i64 r.length), (19, rv), (10, .int .i64 i), (9, .int .i64 d.length), (8, v), (3, str (PP ++ Lib.join ((r.take k).map (fA false)) [43]))])
        (fun _ => []) (fun k _ => k ≤ r.length) (fun k => r.length - k) 0 ⟨rfl, rfl, rfl, rfl, rfl, rfl, sstr (by simp [Lib.join_nil]), trivial⟩ (SubH.nil _) (Nat.zero_le _) ?_
      rintro k h3 hle3 hk
      by_cases hkl : k < r.length
      · obtain ⟨⟨ty, vl⟩, ha⟩ : ∃ a, r[k]? = some a := ⟨r[k], List.getElem?_eq_getElem hkl⟩
        have hget2 := avaR_get ha
        have hst2 := sum_take avaW r k (ty, vl) ha
        have hjl2 := fRl_len false (r.take k)
        have hjj := join_len [43] ((r.take k).map (fA false))
        have hwl := wrM_len vl
        have hnext2 : Lib.join ((r.take (k + 1)).map (fA false)) [43] = (if k = 0 then [] else Lib.join ((r.take k).map (fA false)) [43] ++ [43]) ++ (ty ++ [61] ++ wrM vl) := by
          rw [map_take_succ (fA false) ha]
          by_cases h0 : k = 0
          · subst h0; rw [if_pos rfl]; exact join_one' _ _
          · rw [if_neg h0, join_snoc]
            · rfl
            · intro e
              have h9 : ((r.take k).map (fA false)).length = k := by rw [List.length_map, List.length_take]; omega
              rw [e] at h9
              exact h0 h9.symm
        have hbase : k = 0 → Lib.join ((r.take k).map (fA false)) [43] = [] := fun e => by subst e; rfl
        have hst3 : rdnW (r.take k) + (ty.length + 3 * vl.length + 2) ≤ rdnW r := hst2
        have hjl3 : (Lib.join ((r.take k).map (fA false)) [43]).length ≤ rdnW (r.take k) := Nat.le_trans hjj hjl2
        simp only at hget2
        clear hst2 hjl2 hjj
        generalize Lib.join ((r.take k).map (fA false)) [43] = Q at *
        repeat' (first | (refine G.atIdx ?_; refine G.idxImm rfl rfl (tyy rfl) (tyy rfl) (hrv.mono (Heap.le_trans hle1 hle3)) (by first | (simp only [Int.reduceToNat]; rfl) | with_reducible apply Int.toNat_natCast | exact Eq.refl _) rfl (by omega) ?_; intro p1 r1 hr1 hp1; (rw [hget2] at hr1); (obtain rfl := Option.some.inj hr1); have hl1 : ([str ty, str vl] : List Value).length = 2 := rfl) | (show G _ (.ops .seq _ (⟨some _, .call { callee := .value (.func 64), args := _, argTypes := _ }, _, _, _, none⟩ :: _) :: _) _ _ _; refine G.call callRWritten rfl rfl (ref09_written vl (by omega) _) (by solve | (repeat (first | apply Takes.nil | apply Take.hd | apply Take.tl | apply Takes.cons))) ?_; rintro _ h4 H4 ⟨rfl, rfl⟩ hle4) | (refine G.atCode ?_; first | refine G.seq ?_ | refine G.region ?_ | refine G.block ?_ | refine G.skip ?_ | refine G.anyIn mixedOk ?_ | (refine G.cond rfl ?_ ?_ <;> intro hc <;> (try simp only [tests, reduceCtorEq] at hc) <;> (try (exfalso; first | omega | exact absurd hc (by with_reducible assumption) | exact absurd (by with_reducible assumption) hc | exact Bool.noConfusion hc | exact hc | exact hc trivial | fail)))) | refine G.endOps ?_ | refine G.endHeld ?_ | refine G.back ?_ | refine G.endBlk ?_ | (refine G.atAny ?_; first | refine G.anyAutoX slB rfl rfl (by decide +kernel) (by first | apply Heap.none_le | apply Heap.le_refl | assumption | (refine Heap.le_trans ?_ (by assumption); assumption)) (by solve | (repeat (first | apply DropS.nil | (apply DropS.cons; rfl; solve | repeat (first | apply Take.hd | apply Take.tl)) | (apply DropS.rows; repeat (first | apply DropRows.nil | apply DropRows.drop | apply DropRows.keep)) | apply DropS.skip))) ?_ | refine G.anyOne rfl (by decide +kernel) (by first | apply Heap.none_le | apply Heap.le_refl | assumption | (refine Heap.le_trans ?_ (by assumption); assumption)) (by solve | (apply Takes.sub; (repeat (first | apply Takes.nil | apply Take.hd | apply Take.tl | apply Takes.cons)))) ?_ | refine G.anyEndX (by decide +kernel) ?_) | (refine G.atBin ?_; first | (refine G.atAdd ?_; first | refine G.arith rfl rfl rfl rfl rfl (by simp only [inR]; omega) ?_ | refine G.catStr rfl rfl rfl (by first | omega | (simp only [lens] at *; omega)) ?_) | refine G.op rfl rfl ?_) | refine G.op rfl rfl ?_ | (refine G.atLoad ?_; first | refine G.loadOwn1 rfl (tyy rfl) rfl rfl (by solve | (repeat (first | apply Take.hd | apply Take.tl))) rfl rfl ?_ | refine G.loadImmA rfl (tyy rfl) rfl rfl (by assumption) (by assumption) rfl ?_) | (refine G.atFld ?_; first | refine G.fieldAddr rfl (tyy rfl) rfl rfl ?_) | (refine G.atSto ?_; refine G.storeOwn rfl rfl (tyy rfl) (by solve | (repeat (first | apply Take.hd | apply Take.tl))) rfl rfl rfl rfl ?_) | (refine G.atAlc ?_; refine G.alloc (tyy rfl) rfl rfl ?_; intro _))
        all_goals first
          | exact G.again (k + 1) ⟨sint (by omega), rfl, rfl, rfl, rfl, rfl, sstr (by rw [hnext2, if_neg (by omega)]; simp only [List.append_assoc]), trivial⟩ (SubH.nil _) (by omega) (by solve | (repeat (first | assumption | exact Heap.le_refl _ | (refine Heap.le_trans ?_ (by assumption))))) (by omega)
          | exact G.again (k + 1) ⟨sint (by omega), rfl, rfl, rfl, rfl, rfl, sstr (by rw [hnext2, if_pos (by omega), hbase (by omega)]; simp only [List.append_assoc, List.nil_append, List.append_nil]), trivial⟩ (SubH.nil _) (by omega) (by solve | (repeat (first | assumption | exact Heap.le_refl _ | (refine Heap.le_trans ?_ (by assumption))))) (by omega)
      · obtain rfl : k = r.length := by omega
        rw [List.take_length, show Lib.join (r.map (fA false)) [43] = fR false r from rfl, ← hnext]
        repeat' (first | (refine G.atCode ?_; first | refine G.seq ?_ | refine G.region ?_ | refine G.exit rfl ?_ | (refine G.cond rfl ?_ ?_ <;> intro hc <;> (try simp only [tests, reduceCtorEq] at hc) <;> (try (exfalso; first | omega | exact absurd hc (by with_reducible assumption) | exact absurd (by with_reducible assumption) hc | exact Bool.noConfusion hc | exact hc | exact hc trivial | fail)))) | refine G.endOps ?_ | refine G.endBlk ?_ | (refine G.atBin ?_; first | (refine G.atAdd ?_; first | refine G.arith rfl rfl rfl rfl rfl (by simp only [inR]; omega) ?_) | refine G.op rfl rfl ?_) | refine G.op rfl rfl ?_)
        all_goals first | (exfalso; omega) | exact G.again (i + 1) ⟨sint (by omega), rfl, rfl, rfl, trivial⟩ (SubH.nil _) (by omega) (by solve | (repeat (first | assumption | exact Heap.le_refl _ | (refine Heap.le_trans ?_ (by assumption))))) (by omega))
  · obtain rfl : i = d.length := by omega
    rw [List.take_length]
    repeat' (first | (refine G.atCode ?_; first | refine G.seq ?_ | refine G.region ?_ | refine G.exit rfl ?_ | refine G.ret ?_ | (refine G.cond rfl ?_ ?_ <;> intro hc <;> (try simp only [tests, reduceCtorEq] at hc) <;> (try (exfalso; first | omega | exact absurd hc (by with_reducible assumption) | exact absurd (by with_reducible assumption) hc | exact Bool.noConfusion hc | exact hc | exact hc trivial | fail)))) | refine G.endOps ?_ | (refine G.atBin ?_; first | refine G.op rfl rfl ?_) | refine G.op rfl rfl ?_)
    all_goals first | (exfalso; omega) | exact G.done1 rfl rfl _ (SubH.nil _) ⟨rfl, rfl⟩
end Go.Proofs.Ytieibicgankemaa
