/- Names: what is wrong with one; dn.check. -/
import Derived.Test.YtahpemfnhepgoaaDnH
import Derived.Test.YtahpemfnhepgoaaOcB
namespace Go.Proofs.Ytahpemfnhepgoaa
set_option linter.all false
open Go.RowKit

def avaC (pre : Rdn) (a : List UInt8 × List UInt8) : Int := if pre.length = 8 then 9 else if typeM a.1 = false then 20 else if hasM pre a.1 = true then 21 else 0
def rdnGo : Rdn → Rdn → Int
  | _, [] => 0
  | pre, a :: r => if avaC pre a ≠ 0 then avaC pre a else rdnGo (pre ++ [a]) r
def rdnCk (r : Rdn) : Int := if r.length = 0 then 2 else rdnGo [] r
def chkGo : Nat → Dn → Int
  | _, [] => 0
  | i, r :: d => if i = 32 then 9 else if rdnCk r ≠ 0 then rdnCk r else chkGo (i + 1) d
def chkM (d : Dn) : Int := chkGo 0 d
theorem drop_of_get {α : Type} {l : List α} {i : Nat} {x : α} (h : l[i]? = some x) : l.drop i = x :: l.drop (i + 1) := by
  have hi := (List.getElem?_eq_some_iff.1 h).1
  have e := (List.getElem?_eq_some_iff.1 h).2
  rw [List.drop_eq_getElem_cons hi, e]
theorem take_of_get {α : Type} {l : List α} {i : Nat} {x : α} (h : l[i]? = some x) : l.take (i + 1) = l.take i ++ [x] := by
  have hi := (List.getElem?_eq_some_iff.1 h).1
  have e := (List.getElem?_eq_some_iff.1 h).2
  rw [List.take_succ_eq_append_getElem hi, e]
theorem chkGo_step {d : Dn} {i : Nat} {r : Rdn} (h : d[i]? = some r) : chkGo i (d.drop i) = if i = 32 then 9 else if rdnCk r ≠ 0 then rdnCk r else chkGo (i + 1) (d.drop (i + 1)) := by
  rw [drop_of_get h, chkGo]
theorem rdnGo_step {r : Rdn} {k : Nat} {a : List UInt8 × List UInt8} (h : r[k]? = some a) : rdnGo (r.take k) (r.drop k) = if avaC (r.take k) a ≠ 0 then avaC (r.take k) a else rdnGo (r.take (k + 1)) (r.drop (k + 1)) := by
  rw [drop_of_get h, rdnGo, take_of_get h]
theorem avaR_take (r : Rdn) (k : Nat) : avaR (r.take k) = (avaR r).take k := by simp [avaR, List.map_take]
theorem tysOk_of (r : Rdn) (h : rdnW r ≤ 10000000) : TysOk r := fun a ha => by
  have := avaW_le ha
  unfold avaW at this
  omega
theorem tysOk_take {r : Rdn} (h : TysOk r) (k : Nat) : TysOk (r.take k) := fun a ha => h a (List.mem_of_mem_take ha)
theorem callCheck : Callable Try.prog 33 := ⟨_, Try.func33, by kernel_rfl, rfl⟩
set_option maxRecDepth 8000 in
set_option maxHeartbeats 2000000 in
theorem dn_check (d : Dn) (v : Value) (hd : dnW d ≤ 10000000) (h : Heap) (hv : DnC h d v) : Spec Try.prog 33 [v] h [] (fun u _ H' => u = .int .i64 (chkM d) ∧ H' = []) := by
  obtain ⟨rows, hs, hrows⟩ := hv
  have hrl := hrows.len
  have hdl := dn_len_le d
  generalize hR : chkM d = R
  unfold chkM at hR
  refine Spec.enter Try.func33 rfl rfl ?_; intro w0
  repeat' (first | (refine G.atCode ?_; refine G.stopLoop ?_) | (refine G.atCode ?_; first | refine G.seq ?_ | refine G.region ?_ | refine G.block ?_) | refine G.endOps ?_ | refine G.op rfl rfl ?_ | (refine G.atLen ?_; first | refine G.lenImm rfl (tyy rfl) (by solve | (repeat (first | assumption | (apply HSl.mono; rotate_left; assumption)))) rfl ?_))
  refine G.go ?_
  rw [hrl]
  refine G.loop (σ := Nat) (fun i => [(9, .int .i64 i), (8, .int .i64 d.length), (7, v)])
    (fun _ => []) (fun i _ => i ≤ d.length ∧ chkGo i (d.drop i) = R) (fun i => d.length - i) 0 ⟨rfl, rfl, rfl, trivial⟩ (SubH.nil _) ⟨Nat.zero_le _, hR⟩ ?_
  clear hR
  rintro i h1 hle1 ⟨hi, hR⟩
  by_cases hlt : i < d.length
  · obtain ⟨r, hr⟩ : ∃ r, d[i]? = some r := ⟨d[i], List.getElem?_eq_getElem hlt⟩
    obtain ⟨rv, hget, hrv⟩ := hrows.get hr
    have hrw := rdnW_le (List.mem_of_getElem? hr)
    have hrlen := rdn_len_le r
    have hal := avaR_length r
    have hty := tysOk_of r (by omega)
    rw [chkGo_step hr] at hR
    by_cases h32 : i = 32
    · rw [if_pos h32] at hR
      subst hR
      repeat' (first | (refine G.atIdx ?_; refine G.idxImm rfl rfl (tyy rfl) (tyy rfl) (hs.mono hle1) (by first | (simp only [Int.reduceToNat]; rfl) | with_reducible apply Int.toNat_natCast | exact Eq.refl _) rfl (by omega) ?_; intro p1 r1 hr1 hp1; (rw [hget] at hr1); (obtain rfl := Option.some.inj hr1)) | (refine G.atCode ?_; first | refine G.seq ?_ | refine G.region ?_ | refine G.block ?_ | refine G.skip ?_ | refine G.ret ?_ | (refine G.cond rfl ?_ ?_ <;> intro hc <;> (try simp only [tests, reduceCtorEq] at hc) <;> (try (exfalso; first | omega | exact absurd hc (by with_reducible assumption) | exact absurd (by with_reducible assumption) hc | exact Bool.noConfusion hc | exact hc | exact hc trivial | fail)))) | refine G.endOps ?_ | (refine G.atBin ?_; first | (refine G.atEql ?_; first | refine G.op rfl rfl ?_) | refine G.op rfl rfl ?_) | refine G.op rfl rfl ?_ | (refine G.atLoad ?_; first | refine G.loadImm1 rfl (tyy rfl) rfl rfl (by assumption) rfl ?_))
      all_goals first | (exfalso; omega) | exact G.done1 rfl rfl _ (SubH.nil _) ⟨rfl, rfl⟩
    rw [if_neg h32] at hR
    by_cases hr0 : r.length = 0
    · have e2 : rdnCk r = 2 := by unfold rdnCk; rw [if_pos hr0]
      rw [e2, if_pos (by decide)] at hR
      subst hR
      repeat' (first | (refine G.atIdx ?_; refine G.idxImm rfl rfl (tyy rfl) (tyy rfl) (hs.mono hle1) (by first | (simp only [Int.reduceToNat]; rfl) | with_reducible apply Int.toNat_natCast | exact Eq.refl _) rfl (by omega) ?_; intro p1 r1 hr1 hp1; (rw [hget] at hr1); (obtain rfl := Option.some.inj hr1)) | (refine G.atCode ?_; first | refine G.seq ?_ | refine G.region ?_ | refine G.block ?_ | refine G.skip ?_ | refine G.ret ?_ | (refine G.cond rfl ?_ ?_ <;> intro hc <;> (try simp only [tests, reduceCtorEq] at hc) <;> (try (exfalso; first | omega | exact absurd hc (by with_reducible assumption) | exact absurd (by with_reducible assumption) hc | exact Bool.noConfusion hc | exact hc | exact hc trivial | fail)))) | refine G.endOps ?_ | (refine G.atBin ?_; first | (refine G.atEql ?_; first | refine G.op rfl rfl ?_) | refine G.op rfl rfl ?_) | refine G.op rfl rfl ?_ | (refine G.atLen ?_; first | refine G.lenImm rfl (tyy rfl) (by solve | (repeat (first | assumption | (apply HSl.mono; rotate_left; assumption)))) rfl ?_) | (refine G.atLoad ?_; first | refine G.loadImm1 rfl (tyy rfl) rfl rfl (by assumption) rfl ?_))
      all_goals first | (exfalso; omega) | exact G.done1 rfl rfl _ (SubH.nil _) ⟨rfl, rfl⟩
    have e2 : rdnCk r = rdnGo (r.take 0) (r.drop 0) := by unfold rdnCk; rw [if_neg hr0]; rfl
    repeat' (first | (refine G.atIdx ?_; refine G.idxImm rfl rfl (tyy rfl) (tyy rfl) (hs.mono hle1) (by first | (simp only [Int.reduceToNat]; rfl) | with_reducible apply Int.toNat_natCast | exact Eq.refl _) rfl (by omega) ?_; intro p1 r1 hr1 hp1; (rw [hget] at hr1); (obtain rfl := Option.some.inj hr1)) | (refine G.atCode ?_; refine G.stopLoop ?_) | (refine G.atCode ?_; first | refine G.seq ?_ | refine G.region ?_ | refine G.block ?_ | refine G.skip ?_ | (refine G.cond rfl ?_ ?_ <;> intro hc <;> (try simp only [tests, reduceCtorEq] at hc) <;> (try (exfalso; first | omega | exact absurd hc (by with_reducible assumption) | exact absurd (by with_reducible assumption) hc | exact Bool.noConfusion hc | exact hc | exact hc trivial | fail)))) | refine G.endOps ?_ | refine G.endBlk ?_ | (refine G.atBin ?_; first | (refine G.atEql ?_; first | refine G.op rfl rfl ?_) | refine G.op rfl rfl ?_) | refine G.op rfl rfl ?_ | (refine G.atLen ?_; first | refine G.lenImm rfl (tyy rfl) (by solve | (repeat (first | assumption | (apply HSl.mono; rotate_left; assumption)))) rfl ?_) | (refine G.atLoad ?_; first | refine G.loadImm1 rfl (tyy rfl) rfl rfl (by assumption) rfl ?_))
    obtain ⟨A, cap, rfl, hcap, _, _⟩ := hrv.form
    refine G.go ?_
    rw [hal] at *
    have hal := avaR_length r
    refine G.loop (σ := Nat) (fun k => [(23, .int .i64 k), (22, .int .i64 r.length), (21, .slice A r.length cap), (4, .slice A r.length cap), (9, .int .i64 i), (8, .int .i64 d.length), (7, v)])
      (fun _ => []) (fun k _ => k ≤ r.length ∧ rdnGo (r.take k) (r.drop k) = rdnCk r) (fun k => r.length - k) 0 ⟨rfl, rfl, rfl, rfl, rfl, rfl, rfl, trivial⟩ (SubH.nil _) ⟨Nat.zero_le _, e2.symm⟩ ?_
    clear e2
    rintro k h3 hle3 ⟨hk, hR2⟩
    by_cases hkl : k < r.length
    · obtain ⟨⟨ty, vl⟩, ha⟩ : ∃ a, r[k]? = some a := ⟨r[k], List.getElem?_eq_getElem hkl⟩
      have hget2 := avaR_get ha
      have haw := avaW_le (List.mem_of_getElem? ha)
      have hpre := HSl.cut hrv k (by omega)
      rw [← avaR_take] at hpre
      have htk : (r.take k).length = k := by rw [List.length_take]; omega
      rw [rdnGo_step ha] at hR2
      simp only [avaW] at haw hget2
      unfold avaC at hR2
      rw [htk] at hR2
      simp only at hR2
      have f1 : k = 8 → R = 9 := fun e => by simp [e] at hR2; rw [← hR2] at hR; simpa using hR.symm
      have f2 : ¬ k = 8 → typeM ty = false → R = 20 := fun e e2 => by simp [e, e2] at hR2; rw [← hR2] at hR; simpa using hR.symm
      have f3 : ¬ k = 8 → typeM ty = true → hasM (r.take k) ty = true → R = 21 := fun e e2 e3 => by simp [e, e2, e3] at hR2; rw [← hR2] at hR; simpa using hR.symm
      have f4 : ¬ k = 8 → typeM ty = true → hasM (r.take k) ty = false → rdnGo (r.take (k + 1)) (r.drop (k + 1)) = rdnCk r := fun e e2 e3 => by simpa [e, e2, e3] using hR2
      clear hR2
      generalize htt : typeM ty = tt at *
      generalize hhh : hasM (r.take k) ty = hh at *
      repeat' (first | (refine G.atIdx ?_; refine G.idxImm rfl rfl (tyy rfl) (tyy rfl) (hrv.mono (Heap.le_trans hle1 hle3)) (by first | (simp only [Int.reduceToNat]; rfl) | with_reducible apply Int.toNat_natCast | exact Eq.refl _) rfl (by omega) ?_; intro p1 r1 hr1 hp1; (rw [hget2] at hr1); (obtain rfl := Option.some.inj hr1); have hl1 : ([str ty, str vl] : List Value).length = 2 := rfl) | (show G _ (.ops .seq _ (⟨some _, .call { callee := .value (.func 13), args := _, argTypes := _ }, _, _, _, none⟩ :: _) :: _) _ _ _; refine G.call callType9 rfl rfl (dn_Type ty _) (by solve | (repeat (first | apply Takes.nil | apply Take.hd | apply Take.tl | apply Takes.cons))) ?_; rintro _ h4 H4 ⟨rfl, rfl⟩ hle4; rw [htt]) | (refine G.slicePre (b' := k) rfl rfl (tyy rfl) (tyy rfl) rfl (by first | (simp only [Int.reduceToNat]; rfl) | with_reducible apply Int.toNat_natCast | exact Eq.refl _) (by omega) ?_) | (show G _ (.ops .seq _ (⟨some _, .call { callee := .value (.func 26), args := _, argTypes := _ }, _, _, _, none⟩ :: _) :: _) _ _ _; refine G.call callHas rfl rfl (dn_has (r.take k) (tysOk_take hty k) (.slice A k cap) ty (by omega) [] _ (.inl ⟨rfl, hpre.mono (by solve | (repeat (first | assumption | exact Heap.le_refl _ | (refine Heap.le_trans ?_ (by assumption)))))⟩)) (by solve | (repeat (first | apply Takes.nil | apply Take.hd | apply Take.tl | apply Takes.cons))) ?_; rintro _ h5 H5 ⟨rfl, rfl⟩ hle5; rw [hhh]) | (refine G.atCode ?_; first | refine G.seq ?_ | refine G.region ?_ | refine G.block ?_ | refine G.skip ?_ | refine G.drawAuto mixedOk rfl (by decide +kernel) ?_ | refine G.ret ?_ | (refine G.cond rfl ?_ ?_ <;> intro hc <;> (try simp only [tests, reduceCtorEq] at hc) <;> (try (exfalso; first | omega | exact absurd hc (by with_reducible assumption) | exact absurd (by with_reducible assumption) hc | exact Bool.noConfusion hc | exact hc | exact hc trivial | fail)))) | refine G.endOps ?_ | refine G.endStill ?_ | refine G.endBlk ?_ | (refine G.atBin ?_; first | (refine G.atAdd ?_; first | refine G.arith rfl rfl rfl rfl rfl (by simp only [inR]; omega) ?_) | (refine G.atEql ?_; first | refine G.op rfl rfl ?_) | refine G.op rfl rfl ?_) | refine G.op rfl rfl ?_ | (refine G.atLoad ?_; first | refine G.loadOwn1 rfl (tyy rfl) rfl rfl (by solve | (repeat (first | apply Take.hd | apply Take.tl))) rfl rfl ?_ | refine G.loadImmA rfl (tyy rfl) rfl rfl (by assumption) (by assumption) rfl ?_) | (refine G.atFld ?_; first | refine G.fieldAddr rfl (tyy rfl) rfl rfl ?_) | (refine G.atSto ?_; refine G.storeOwn rfl rfl (tyy rfl) (by solve | (repeat (first | apply Take.hd | apply Take.tl))) rfl rfl rfl rfl ?_) | (refine G.atAlc ?_; refine G.alloc (tyy rfl) rfl rfl ?_; intro _))
      all_goals first
        | (obtain rfl := f1 (by omega); exact G.done1 rfl rfl _ (SubH.nil _) ⟨rfl, rfl⟩)
        | (obtain rfl := f2 (by omega) (by assumption); exact G.done1 rfl rfl _ (SubH.nil _) ⟨rfl, rfl⟩)
        | (obtain rfl := f3 (by omega) (by assumption) (by assumption); exact G.done1 rfl rfl _ (SubH.nil _) ⟨rfl, rfl⟩)
        | exact G.again (k + 1) ⟨sint (by omega), rfl, rfl, rfl, rfl, rfl, rfl, trivial⟩ (SubH.nil _) ⟨by omega, f4 (by omega) (by assumption) (by assumption)⟩ (by solve | (repeat (first | assumption | exact Heap.le_refl _ | (refine Heap.le_trans ?_ (by assumption))))) (by omega)
    · obtain rfl : k = r.length := by omega
      rw [List.drop_length, rdnGo] at hR2
      rw [← hR2, if_neg (by simp)] at hR
      repeat' (first | (refine G.atCode ?_; first | refine G.seq ?_ | refine G.region ?_ | refine G.exit rfl ?_ | (refine G.cond rfl ?_ ?_ <;> intro hc <;> (try simp only [tests, reduceCtorEq] at hc) <;> (try (exfalso; first | omega | exact absurd hc (by with_reducible assumption) | exact absurd (by with_reducible assumption) hc | exact Bool.noConfusion hc | exact hc | exact hc trivial | fail)))) | refine G.endOps ?_ | refine G.endBlk ?_ | (refine G.atBin ?_; first | (refine G.atAdd ?_; first | refine G.arith rfl rfl rfl rfl rfl (by simp only [inR]; omega) ?_) | refine G.op rfl rfl ?_) | refine G.op rfl rfl ?_)
      all_goals first | (exfalso; omega) | exact G.again (i + 1) ⟨sint (by omega), rfl, rfl, trivial⟩ (SubH.nil _) ⟨by omega, hR⟩ (by solve | (repeat (first | assumption | exact Heap.le_refl _ | (refine Heap.le_trans ?_ (by assumption))))) (by omega)
  · obtain rfl : i = d.length := by omega
    rw [List.drop_length, chkGo] at hR
    subst hR
    repeat' (first | (refine G.atCode ?_; first | refine G.seq ?_ | refine G.region ?_ | refine G.exit rfl ?_ | refine G.ret ?_ | (refine G.cond rfl ?_ ?_ <;> intro hc <;> (try simp only [tests, reduceCtorEq] at hc) <;> (try (exfalso; first | omega | exact absurd hc (by with_reducible assumption) | exact absurd (by with_reducible assumption) hc | exact Bool.noConfusion hc | exact hc | exact hc trivial | fail)))) | refine G.endOps ?_ | (refine G.atBin ?_; first | refine G.op rfl rfl ?_) | refine G.op rfl rfl ?_)
    all_goals first | (exfalso; omega) | exact G.done1 rfl rfl _ (SubH.nil _) ⟨rfl, rfl⟩
end Go.Proofs.Ytahpemfnhepgoaa
