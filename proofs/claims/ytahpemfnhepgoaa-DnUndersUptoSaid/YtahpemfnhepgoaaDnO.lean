/- Names: what parsing gives is in order; castellanref09.Norm, Key; dn.Key; DnKeys. -/
import Derived.Test.YtahpemfnhepgoaaDnM
import Derived.Test.YtahpemfnhepgoaaDnN
namespace Go.Proofs.Ytahpemfnhepgoaa
set_option linter.all false
open Go.RowKit

structure RdnOk (r : Rdn) : Prop where
  ne : r ≠ []
  len : r.length ≤ 8
  go : rdnGo [] r = 0
  v : ∀ a ∈ r, typeM a.1 = true ∧ a.2.length ≤ 4096
structure DnOk (d : Dn) : Prop where
  len : d.length ≤ 32
  all : ∀ r ∈ d, RdnOk r
theorem typeM_len {s : List UInt8} (h : typeM s = true) : 1 ≤ s.length ∧ s.length ≤ 32 := by
  unfold typeM at h
  simp only [Bool.and_eq_true, decide_eq_true_eq] at h
  exact h.1.1
theorem sum_bound {α : Type} (f : α → Nat) (c : Nat) : ∀ l : List α, (∀ x ∈ l, f x ≤ c) → (l.map f).sum ≤ l.length * c
  | [], _ => by simp
  | x :: l, h => by
    have h1 := h x (by simp)
    have h2 := sum_bound f c l fun y hy => h y (by simp [hy])
    simp only [List.map_cons, List.sum_cons, List.length_cons, Nat.succ_mul]; omega
theorem DnOk.w {d : Dn} (h : DnOk d) : dnW d ≤ 10000000 := by
  have h1 : ∀ r ∈ d, rdnW r + 1 ≤ 98577 := fun r hr => by
    have ho := h.all r hr
    have h2 := sum_bound avaW 12322 r fun a ha => by
      have h3 := ho.v a ha
      have h4 := typeM_len h3.1
      unfold avaW; omega
    have h5 := ho.len
    have h6 : rdnW r ≤ r.length * 12322 := h2
    have h7 : r.length * 12322 ≤ 8 * 12322 := Nat.mul_le_mul_right _ h5
    omega
  have h2 : dnW d ≤ d.length * 98577 := sum_bound (fun r => rdnW r + 1) 98577 d h1
  have h3 : d.length * 98577 ≤ 32 * 98577 := Nat.mul_le_mul_right _ h.len
  omega
theorem callRNorm : Callable Try.prog 19 := ⟨_, Try.func19, by kernel_rfl, rfl⟩
theorem ref09_Norm (d : Dn) (v : Value) (hd : dnW d ≤ 10000000) (h : Heap) (hv : DnC h d v) : Spec Try.prog 19 [v] h [] (fun u _ H' => u = .tuple #[str (normM d).1, .int .i64 (normM d).2] ∧ H' = []) := by
  unfold normM
  have hpr := ref09_Print d v hd
  generalize printM d = R at *
  obtain ⟨t, e⟩ := R
  simp only at hpr ⊢
  by_cases he : e ≠ 0
  · rw [if_pos he]
    refine Spec.enter Try.func19 rfl rfl ?_; intro w0
    repeat' (first | (show G _ (.ops .seq _ (⟨some _, .call { callee := .value (.func 17), args := _, argTypes := _ }, _, _, _, none⟩ :: _) :: _) _ _ _; refine G.call callRPrint rfl rfl (hpr _ (hv.mono (by solve | (repeat (first | assumption | exact Heap.le_refl _ | (refine Heap.le_trans ?_ (by assumption))))))) (by solve | (repeat (first | apply Takes.nil | apply Take.hd | apply Take.tl | apply Takes.cons))) ?_; rintro _ h4 H4 ⟨rfl, rfl⟩ hle4) | (refine G.atCode ?_; first | refine G.seq ?_ | refine G.region ?_ | refine G.ret ?_ | (refine G.cond rfl ?_ ?_ <;> intro hc <;> (try simp only [tests, reduceCtorEq] at hc) <;> (try (exfalso; first | omega | exact absurd hc (by with_reducible assumption) | exact absurd (by with_reducible assumption) hc | exact Bool.noConfusion hc | exact hc | exact hc trivial | fail)))) | refine G.endOps ?_ | (refine G.atBin ?_; first | (refine G.atNeq ?_; first | refine G.op rfl rfl ?_)) | refine G.op rfl rfl ?_)
    all_goals first | (exfalso; omega) | exact G.done2 rfl rfl rfl _ (SubH.nil _) ⟨rfl, rfl⟩
  · rw [if_neg he]
    refine Spec.enter Try.func19 rfl rfl ?_; intro w0
    repeat' (first | (show G _ (.ops .seq _ (⟨some _, .call { callee := .value (.func 17), args := _, argTypes := _ }, _, _, _, none⟩ :: _) :: _) _ _ _; refine G.call callRPrint rfl rfl (hpr _ (hv.mono (by solve | (repeat (first | assumption | exact Heap.le_refl _ | (refine Heap.le_trans ?_ (by assumption))))))) (by solve | (repeat (first | apply Takes.nil | apply Take.hd | apply Take.tl | apply Takes.cons))) ?_; rintro _ h4 H4 ⟨rfl, rfl⟩ hle4) | (show G _ (.ops .seq _ (⟨some _, .call { callee := .value (.func 36), args := _, argTypes := _ }, _, _, _, none⟩ :: _) :: _) _ _ _; refine G.call callPlain rfl rfl (ref09_plain d v hd _ (hv.mono (by solve | (repeat (first | assumption | exact Heap.le_refl _ | (refine Heap.le_trans ?_ (by assumption))))))) (by solve | (repeat (first | apply Takes.nil | apply Take.hd | apply Take.tl | apply Takes.cons))) ?_; rintro pv h5 H5 ⟨⟨p, hpc, hP⟩, rfl⟩ hle5; have hPw := hP.w) | (show G _ (.ops .seq _ (⟨some _, .call { callee := .value (.func 35), args := _, argTypes := _ }, _, _, _, none⟩ :: _) :: _) _ _ _; refine G.call callRText rfl rfl (ref09_text p pv (by omega) _ hpc) (by solve | (repeat (first | apply Takes.nil | apply Take.hd | apply Take.tl | apply Takes.cons))) ?_; rintro _ h6 H6 ⟨rfl, rfl⟩ hle6; rw [hP.text]) | (refine G.atCode ?_; first | refine G.seq ?_ | refine G.region ?_ | refine G.skip ?_ | refine G.ret ?_ | (refine G.cond rfl ?_ ?_ <;> intro hc <;> (try simp only [tests, reduceCtorEq] at hc) <;> (try (exfalso; first | omega | exact absurd hc (by with_reducible assumption) | exact absurd (by with_reducible assumption) hc | exact Bool.noConfusion hc | exact hc | exact hc trivial | fail)))) | refine G.endOps ?_ | (refine G.atBin ?_; first | (refine G.atNeq ?_; first | refine G.op rfl rfl ?_)) | refine G.op rfl rfl ?_)
    all_goals first | (exfalso; omega) | exact G.done2 rfl rfl rfl _ (SubH.nil _) ⟨rfl, rfl⟩
end Go.Proofs.Ytahpemfnhepgoaa
