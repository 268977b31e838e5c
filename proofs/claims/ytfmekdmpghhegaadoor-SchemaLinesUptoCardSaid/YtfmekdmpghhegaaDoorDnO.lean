/- Names: what parsing gives is in order; castellanref09.Norm, Key; dn.Key; DnKeys. -/
import Derived.Test.YtfmekdmpghhegaaDoorDnM
import Derived.Test.YtfmekdmpghhegaaDoorDnJ
import Derived.Test.YtfmekdmpghhegaaDoorDnB
import Derived.Test.YtfmekdmpghhegaaDoorOcD
import Derived.Test.YtfmekdmpghhegaaDoorLib
import Derived.Test.YtfmekdmpghhegaaDoorLtP
import Derived.KernelRfl
namespace Go.Proofs.YtfmekdmpghhegaaDoor
set_option linter.all false
set_option maxRecDepth 4000
open Go.RowKit

structure RdnOk (r : Rdn) : Prop where
  ne : r ≠ []
  len : r.length ≤ 8
  go : rdnGo [] r = 0
  v : ∀ a ∈ r, typeM a.1 = true ∧ a.2.length ≤ 4096
structure DnOk (d : Dn) : Prop where
  len : d.length ≤ 32
  all : ∀ r ∈ d, RdnOk r
theorem typeM_len {s : List UInt8} (h : typeM s = true) : 1 ≤ s.length ∧ s.length ≤ 32 := by
  unfold typeM at h
  simp only [Bool.and_eq_true, decide_eq_true_eq] at h
  exact h.1.1
theorem sum_bound {α : Type} (f : α → Nat) (c : Nat) : ∀ l : List α, (∀ x ∈ l, f x ≤ c) → (l.map f).sum ≤ l.length * c
  | [], _ => by simp
  | x :: l, h => by
    have h1 := h x (by simp)
    have h2 := sum_bound f c l fun y hy => h y (by simp [hy])
    simp only [List.map_cons, List.sum_cons, List.length_cons, Nat.succ_mul]; omega
theorem DnOk.w {d : Dn} (h : DnOk d) : dnW d ≤ 10000000 := by
  have h1 : ∀ r ∈ d, rdnW r + 1 ≤ 98577 := fun r hr => by
    have ho := h.all r hr
    have h2 := sum_bound avaW 12322 r fun a ha => by
      have h3 := ho.v a ha
      have h4 := typeM_len h3.1
      unfold avaW; omega
    have h5 := ho.len
    have h6 : rdnW r ≤ r.length * 12322 := h2
    have h7 : r.length * 12322 ≤ 8 * 12322 := Nat.mul_le_mul_right _ h5
    omega
  have h2 : dnW d ≤ d.length * 98577 := sum_bound (fun r => rdnW r + 1) 98577 d h1
  have h3 : d.length * 98577 ≤ 32 * 98577 := Nat.mul_le_mul_right _ h.len
  omega
end Go.Proofs.YtfmekdmpghhegaaDoor
