/- Names: castellanref09.Same; the chapter's examples; DnParses. -/
import Derived.Test.YtibkffoeioidlaaDoorWrZ
import Derived.Test.YtibkffoeioidlaaDoorFlO
import Derived.Test.YtibkffoeioidlaaDoorDnA
import Derived.Test.YtibkffoeioidlaaDoorLtP
import Derived.KernelRfl
namespace Go.Proofs.YtibkffoeioidlaaDoor
set_option linter.all false
set_option maxRecDepth 4000
open Go.RowKit

theorem callSame9 : Callable Tryd.prog 21 := ⟨_, Tryd.func21, by kernel_rfl, rfl⟩
theorem avaOk : FlatOk Tryd.prog 40 [9, 9] := ⟨by kernel_rfl, by kernel_rfl, by kernel_rfl, by kernel_rfl⟩
set_option maxRecDepth 8000 in
set_option maxHeartbeats 2000000 in
theorem ref09_Same (d : Dn) (v1 v2 : Value) (h : Heap) (hv1 : DnC h d v1) (hv2 : DnC h d v2) : Spec Tryd.prog 21 [v1, v2] h [] (fun u _ H' => u = .bool true /\ H' = []) := by
  obtain ⟨rows1, hs1, hr1⟩ := hv1
  obtain ⟨rows2, hs2, hr2⟩ := hv2
  have hrl1 := hr1.len
  have hrl2 := hr2.len
  have hm1 := hs1.len
  refine Spec.enter Tryd.func21 rfl rfl ?_; intro w0
  repeat' (first | (refine G.atCode ?_; refine G.stopLoop ?_) | (refine G.atCode ?_; first | refine G.seq ?_ | refine G.region ?_ | refine G.block ?_ | refine G.skip ?_ | (refine G.cond rfl ?_ ?_ <;> intro hc <;> (try simp only [tests, reduceCtorEq] at hc) <;> (try (exfalso; first | omega | exact Zx hc | exact Zy hc | exact Zb hc | exact hc | exact hc trivial)))) | refine G.endOps ?_ | (refine G.atBin ?_; first | (refine G.atNeq ?_; first | refine G.op rfl rfl ?_)) | refine G.op rfl rfl ?_ | (refine G.atLen ?_; first | refine G.lenImm rfl (tyy rfl) (by solve | (repeat (first | assumption | (apply HSl.mono; rotate_left; assumption)))) rfl ?_))
  all_goals (try (exfalso; omega))
  refine G.go ?_
  rw [hrl1] at *
  refine G.loop (σ := Nat) (fun i => [(14, .int .i64 i), (13, .int .i64 d.length), (0, v1), (1, v2)])
    (fun _ => []) (fun i _ => i <= d.length) (fun i => d.length - i) 0 ⟨rfl, rfl, rfl, rfl, trivial⟩ (SubH.nil _) (Nat.zero_le _) ?_
  rintro i h1 hle1 hi
  have hrl1 := hr1.len
  by_cases hlt : i < d.length
  . obtain ⟨r, hr⟩ : ∃ r, d[i]? = some r := ⟨d[i], List.getElem?_eq_getElem hlt⟩
    obtain ⟨rv1, hget1, hrv1⟩ := hr1.get hr
    obtain ⟨rv2, hget2, hrv2⟩ := hr2.get hr
    have hal := avaR_length r
    have hrm := hrv1.len
    have s1 : HSl h1 v1 1 rows1 := hs1.mono hle1
    have s2 : HSl h1 v2 1 rows2 := hs2.mono hle1
    repeat' (first | (refine G.atIdx ?_; refine G.idxImm rfl rfl (tyy rfl) (tyy rfl) s1 (by first | (simp only [Int.reduceToNat]; rfl) | with_reducible apply Int.toNat_natCast | exact Eq.refl _) rfl (by omega) ?_; intro p1 r1 hx1 hp1; (rw [hget1] at hx1); (obtain rfl := Option.some.inj hx1)) | (refine G.atIdx ?_; refine G.idxImm rfl rfl (tyy rfl) (tyy rfl) s2 (by first | (simp only [Int.reduceToNat]; rfl) | with_reducible apply Int.toNat_natCast | exact Eq.refl _) rfl (by omega) ?_; intro p2 r2 hx2 hp2; (rw [hget2] at hx2); (obtain rfl := Option.some.inj hx2)) | (refine G.atCode ?_; refine G.stopLoop ?_) | (refine G.atCode ?_; first | refine G.seq ?_ | refine G.region ?_ | refine G.block ?_ | refine G.skip ?_ | refine G.drawAll slB (by decide +kernel) mixedOk (by decide +kernel) ?_ | (refine G.cond rfl ?_ ?_ <;> intro hc <;> (try simp only [tests, reduceCtorEq] at hc) <;> (try (exfalso; first | omega | exact Zx hc | exact Zy hc | exact Zb hc | exact hc | exact hc trivial)))) | refine G.endOps ?_ | refine G.endStill ?_ | (refine G.atBin ?_; first | (refine G.atNeq ?_; first | refine G.op rfl rfl ?_) | refine G.op rfl rfl ?_) | refine G.op rfl rfl ?_ | (refine G.atLen ?_; first | refine G.lenImm rfl (tyy rfl) (by solve | (repeat (first | assumption | (apply HSl.mono; rotate_left; assumption)))) rfl ?_) | (refine G.atLoad ?_; first | refine G.loadImm1 rfl (tyy rfl) rfl rfl (by assumption) rfl ?_))
    all_goals (try (exfalso; omega))
    refine G.go ?_
    rw [hal] at *
    have hal := avaR_length r
    refine G.loop (σ := Nat) (fun k => [(33, .int .i64 k), (32, .int .i64 r.length), (5, .int .i64 i), (14, .int .i64 i), (13, .int .i64 d.length), (0, v1), (1, v2)])
      (fun _ => []) (fun k _ => k <= r.length) (fun k => r.length - k) 0 ⟨rfl, rfl, rfl, rfl, rfl, rfl, rfl, trivial⟩ (SubH.nil _) (Nat.zero_le _) ?_
    rintro k h3 hle3 hk
    by_cases hkl : k < r.length
    . obtain ⟨⟨ty, vl⟩, ha⟩ : ∃ a, r[k]? = some a := ⟨r[k], List.getElem?_eq_getElem hkl⟩
      have hget3 := avaR_get ha
      simp only at hget3
      have t1 : HSl h3 v1 1 rows1 := s1.mono hle3
      have t2 : HSl h3 v2 1 rows2 := s2.mono hle3
      have t3 : HSl h3 rv1 2 (avaR r) := hrv1.mono (Heap.le_trans hle1 hle3)
      have t4 : HSl h3 rv2 2 (avaR r) := hrv2.mono (Heap.le_trans hle1 hle3)
      repeat' (first | (refine G.atIdx ?_; refine G.idxImm rfl rfl (tyy rfl) (tyy rfl) t1 (by first | (simp only [Int.reduceToNat]; rfl) | with_reducible apply Int.toNat_natCast | exact Eq.refl _) rfl (by omega) ?_; intro p1 r1 hx1 hp1; (rw [hget1] at hx1); (obtain rfl := Option.some.inj hx1)) | (refine G.atIdx ?_; refine G.idxImm rfl rfl (tyy rfl) (tyy rfl) t2 (by first | (simp only [Int.reduceToNat]; rfl) | with_reducible apply Int.toNat_natCast | exact Eq.refl _) rfl (by omega) ?_; intro p2 r2 hx2 hp2; (rw [hget2] at hx2); (obtain rfl := Option.some.inj hx2)) | (refine G.atIdx ?_; refine G.idxImm rfl rfl (tyy rfl) (tyy rfl) t3 (by first | (simp only [Int.reduceToNat]; rfl) | with_reducible apply Int.toNat_natCast | exact Eq.refl _) rfl (by omega) ?_; intro p3 r3 hx3 hp3; (rw [hget3] at hx3); (obtain rfl := Option.some.inj hx3); have hl3 : ([str ty, str vl] : List Value).length = 2 := rfl) | (refine G.atIdx ?_; refine G.idxImm rfl rfl (tyy rfl) (tyy rfl) t4 (by first | (simp only [Int.reduceToNat]; rfl) | with_reducible apply Int.toNat_natCast | exact Eq.refl _) rfl (by omega) ?_; intro p4 r4 hx4 hp4; (rw [hget3] at hx4); (obtain rfl := Option.some.inj hx4); have hl4 : ([str ty, str vl] : List Value).length = 2 := rfl) | (refine G.neAgg rfl rfl avaOk (.cons (tyy rfl) .str (.cons (tyy rfl) .str .nil)) rfl ?_) | (refine G.atCode ?_; first | refine G.seq ?_ | refine G.region ?_ | refine G.block ?_ | refine G.skip ?_ | refine G.drawAll slB (by decide +kernel) mixedOk (by decide +kernel) ?_ | refine G.ret ?_ | (refine G.cond rfl ?_ ?_ <;> intro hc <;> (try simp only [tests, reduceCtorEq] at hc) <;> (try (exfalso; first | omega | exact Zx hc | exact Zy hc | exact Zb hc | exact hc | exact hc trivial)))) | refine G.endOps ?_ | refine G.endStill ?_ | refine G.endBlk ?_ | (refine G.atBin ?_; first | (refine G.atAdd ?_; first | refine G.arith rfl rfl rfl rfl rfl (by simp only [inR]; omega) ?_) | refine G.op rfl rfl ?_) | refine G.op rfl rfl ?_ | (refine G.atLoad ?_; first | refine G.loadImm1 rfl (tyy rfl) rfl rfl (by assumption) rfl ?_ | refine G.loadImmA rfl (tyy rfl) rfl rfl (by assumption) (by assumption) rfl ?_))
      all_goals first
        | exact G.again (k + 1) ⟨sint (by omega), rfl, rfl, rfl, rfl, rfl, rfl, trivial⟩ (SubH.nil _) (by omega) (by solve | repeat first | assumption | exact Zr _ | refine Zq ?_ (by assumption)) (by omega)
        | (exfalso; simp_all)
    . obtain rfl : k = r.length := by omega
      repeat' (first | (refine G.atCode ?_; first | refine G.seq ?_ | refine G.region ?_ | refine G.exit rfl ?_ | (refine G.cond rfl ?_ ?_ <;> intro hc <;> (try simp only [tests, reduceCtorEq] at hc) <;> (try (exfalso; first | omega | exact Zx hc | exact Zy hc | exact Zb hc | exact hc | exact hc trivial)))) | refine G.endOps ?_ | refine G.endBlk ?_ | (refine G.atBin ?_; first | (refine G.atAdd ?_; first | refine G.arith rfl rfl rfl rfl rfl (by simp only [inR]; omega) ?_) | refine G.op rfl rfl ?_) | refine G.op rfl rfl ?_)
      all_goals first | (exfalso; omega) | exact G.again (i + 1) ⟨sint (by omega), rfl, rfl, rfl, trivial⟩ (SubH.nil _) (by omega) (by solve | repeat first | assumption | exact Zr _ | refine Zq ?_ (by assumption)) (by omega)
  . obtain rfl : i = d.length := by omega
    repeat' (first | (refine G.atCode ?_; first | refine G.seq ?_ | refine G.region ?_ | refine G.exit rfl ?_ | refine G.ret ?_ | (refine G.cond rfl ?_ ?_ <;> intro hc <;> (try simp only [tests, reduceCtorEq] at hc) <;> (try (exfalso; first | omega | exact Zx hc | exact Zy hc | exact Zb hc | exact hc | exact hc trivial)))) | refine G.endOps ?_ | (refine G.atBin ?_; first | refine G.op rfl rfl ?_) | refine G.op rfl rfl ?_)
    all_goals first | (exfalso; omega) | exact G.done1 rfl rfl _ (SubH.nil _) ⟨rfl, rfl⟩
end Go.Proofs.YtibkffoeioidlaaDoor
namespace Go.Proofs.YtibkffoeioidlaaDoor
set_option linter.all false
set_option maxRecDepth 4000
open Go.RowKit

structure RdnOk (r : Rdn) : Prop where
  ne : r ≠ []
  len : r.length <= 8
  go : rdnGo [] r = 0
  v : ∀ a ∈ r, typeM a.1 = true /\ a.2.length <= 4096
structure DnOk (d : Dn) : Prop where
  len : d.length <= 32
  all : ∀ r ∈ d, RdnOk r
theorem typeD_len {s : List UInt8} (h : typeM s = true) : 1 <= s.length /\ s.length <= 32 := by
  unfold typeM at h
  simp only [Bool.and_eq_true, decide_eq_true_eq] at h
  exact h.1.1
theorem sum_bound {α : Type} (f : α -> Nat) (c : Nat) : ∀ l : List α, (∀ x ∈ l, f x <= c) -> (l.map f).sum <= l.length * c
  | [], _ => by simp
  | x :: l, h => by
    have h1 := h x (by simp)
    have h2 := sum_bound f c l fun y hy => h y (by simp [hy])
    simp only [List.map_cons, List.sum_cons, List.length_cons, Nat.succ_mul]; omega
theorem DnOk.w {d : Dn} (h : DnOk d) : dnW d <= 10000000 := by
  have h1 : ∀ r ∈ d, rdnW r + 1 <= 98577 := fun r hr => by
    have ho := h.all r hr
    have h2 := sum_bound avaW 12322 r fun a ha => by
      have h3 := ho.v a ha
      have h4 := typeD_len h3.1
      unfold avaW; omega
    have h5 := ho.len
    have h6 : rdnW r <= r.length * 12322 := h2
    have h7 : r.length * 12322 <= 8 * 12322 := Nat.mul_le_mul_right _ h5
    omega
  have h2 : dnW d <= d.length * 98577 := sum_bound (fun r => rdnW r + 1) 98577 d h1
  have h3 : d.length * 98577 <= 32 * 98577 := Nat.mul_le_mul_right _ h.len
  omega
end Go.Proofs.YtibkffoeioidlaaDoor
