/- Names: what parsing gives is in order; castellanref09.Norm, Key; dn.Key; DnKeys. -/
import Derived.Test.YtfmekdmpghhegaaDoorDnM
import Derived.Test.YtfmekdmpghhegaaDoorDnG
import Derived.Test.YtfmekdmpghhegaaDoorOcB
import Derived.Test.YtfmekdmpghhegaaDoorLtP
import Derived.KernelRfl
import Derived.Test.YtfmekdmpghhegaaDoorLtA
import Derived.Test.YtfmekdmpghhegaaDoorProg
import Derived.Ground.NamesProg
import Derived.Ground.Names8Prog
import Derived.Shelf.SlGeneric
import Derived.Shelf.Spec.SlicesGrow
namespace Go.Proofs.YtfmekdmpghhegaaDoor
set_option linter.all false
set_option maxRecDepth 4000
open Go.RowKit

structure RdnOk (r : Rdn) : Prop where
  ne : r ≠ []
  len : r.length <= 8
  go : rdnGo [] r = 0
  v : ∀ a ∈ r, typeM a.1 = true /\ a.2.length <= 4096
structure DnOk (d : Dn) : Prop where
  len : d.length <= 32
  all : ∀ r ∈ d, RdnOk r
theorem typeD_len {s : List UInt8} (h : typeM s = true) : 1 <= s.length /\ s.length <= 32 := by
  unfold typeM at h
  simp only [Bool.and_eq_true, decide_eq_true_eq] at h
  exact h.1.1
theorem sum_bound {α : Type} (f : α -> Nat) (c : Nat) : ∀ l : List α, (∀ x ∈ l, f x <= c) -> (l.map f).sum <= l.length * c
  | [], _ => by simp
  | x :: l, h => by
    have h1 := h x (by simp)
    have h2 := sum_bound f c l fun y hy => h y (by simp [hy])
    simp only [List.map_cons, List.sum_cons, List.length_cons, Nat.succ_mul]; omega
theorem DnOk.w {d : Dn} (h : DnOk d) : dnW d <= 10000000 := by
  have h1 : ∀ r ∈ d, rdnW r + 1 <= 98577 := fun r hr => by
    have ho := h.all r hr
    have h2 := sum_bound avaW 12322 r fun a ha => by
      have h3 := ho.v a ha
      have h4 := typeD_len h3.1
      unfold avaW; omega
    have h5 := ho.len
    have h6 : rdnW r <= r.length * 12322 := h2
    have h7 : r.length * 12322 <= 8 * 12322 := Nat.mul_le_mul_right _ h5
    omega
  have h2 : dnW d <= d.length * 98577 := sum_bound (fun r => rdnW r + 1) 98577 d h1
  have h3 : d.length * 98577 <= 32 * 98577 := Nat.mul_le_mul_right _ h.len
  omega
end Go.Proofs.YtfmekdmpghhegaaDoor
namespace Go.Proofs.YtfmekdmpghhegaaDoor
set_option linter.all false
set_option maxRecDepth 4000
open Go.RowKit

def cst (f : Bool) (c : UInt8) : Nat := if c.toNat = 0 then 3 else if inN c.toNat esB = true \/ (f = true /\ (c.toNat = 32 \/ c.toNat = 35)) then 2 else 1
end Go.Proofs.YtfmekdmpghhegaaDoor
namespace Go.Proofs.YtfmekdmpghhegaaDoor
set_option linter.all false
set_option maxRecDepth 4000
open Go.RowKit

def cN : Bool -> List UInt8 -> Nat
  | _, [] => 0
  | f, c :: r => cst f c + cN false r
end Go.Proofs.YtfmekdmpghhegaaDoor
namespace Go.Proofs.YtfmekdmpghhegaaDoor
set_option linter.all false
set_option maxRecDepth 4000
open Go.RowKit

theorem RdnsC.rowed {h : Heap} : ∀ {d : Dn} {rows : List (List Value)}, RdnsC h d rows -> Rowed 1 rows
  | [], _, e, r, hr => by simp only [RdnsC] at e; subst e; simp at hr
  | _ :: _, _, ⟨v, rest, e, h1, h2⟩, r, hr => by
    subst e
    rcases List.mem_cons.1 hr with rfl | hr
    . rfl
    . exact h2.rowed r hr
end Go.Proofs.YtfmekdmpghhegaaDoor
namespace Go.Proofs.YtfmekdmpghhegaaDoor
set_option linter.all false
set_option maxRecDepth 4000
open Go.RowKit

theorem DnC.tail {h : Heap} {d : Dn} {A : Option Addr} {n c : Nat} (hv : DnC h d (.slice A n c)) (k : Nat) (hk : k <= d.length) : n = d.length /\ d.length <= c /\ DnC h (d.drop k) (.slice (if c = k then A else A.map (·.add (k * 1))) (n - k) (c - k)) := by
  obtain ⟨rows, hs, hr⟩ := hv
  have hl := hr.len
  obtain ⟨A', c', e, h2, _⟩ := hs.form
  simp only [Value.slice.injEq] at e
  obtain ⟨rfl, rfl, rfl⟩ := e
  exact ⟨hl, by omega, rows.drop k, hs.tail k (by omega), hr.drop k⟩
theorem DnC.cut {h : Heap} {d : Dn} {A : Option Addr} {n c : Nat} (hv : DnC h d (.slice A n c)) (k : Nat) (hk : k <= d.length) : DnC h (d.take k) (.slice A k c) := by
  obtain ⟨rows, hs, hr⟩ := hv
  have hl := hr.len
  exact ⟨rows.take k, hs.cut k (by omega), hr.take k⟩
theorem DnC.form {h : Heap} {d : Dn} {v : Value} (hv : DnC h d v) : ∃ A c, v = .slice A d.length c /\ d.length <= c /\ d.length <= 9223372036854775807 := by
  obtain ⟨rows, hs, hr⟩ := hv
  have hl := hr.len
  have hm := hs.len
  obtain ⟨A, c, e, h2, _⟩ := hs.form
  rw [hl] at e h2
  exact ⟨A, c, e, h2, by omega⟩
section
variable {E : Env} {k : List It} {f : Fr} {h : Heap} {H Hr : List Chunk} {st : Md} [hmd : OkMd st h H] {all : Array Oper} {rest : List Oper} {d : Nat} {ty : TypeId} {pos : String} {aft : Array Edge}
end
end Go.Proofs.YtfmekdmpghhegaaDoor
namespace Go.Proofs.YtfmekdmpghhegaaDoor
set_option linter.all false
set_option maxRecDepth 4000
open Go.RowKit

structure Rl where
  who : Int
  dn : List UInt8
  wh : List UInt8
  attr : List UInt8
  rights : Int
  allow : Bool
def okRight (right : Int) : Prop := right = 1 \/ right = 2 \/ right = 4 \/ right = 8
instance (right : Int) : Decidable (okRight right) := by unfold okRight; infer_instance
def askM (who entry : Dn) (right : Int) : Prop := (printM who).2 = 0 /\ (printM entry).2 = 0 /\ okRight right
instance (who entry : Dn) (right : Int) : Decidable (askM who entry right) := by unfold askM; infer_instance
end Go.Proofs.YtfmekdmpghhegaaDoor
