/- Names: whether one lies under another; DnUnders. -/
import Derived.Test.YtfmekdmpghhegaaDoorDnU
import Derived.Test.YtfmekdmpghhegaaDoorDnR
namespace Go.Proofs.YtfmekdmpghhegaaDoor
set_option linter.all false
set_option maxRecDepth 4000
open Go.RowKit

theorem DnC.tail {h : Heap} {d : Dn} {A : Option Addr} {n c : Nat} (hv : DnC h d (.slice A n c)) (k : Nat) (hk : k ≤ d.length) : n = d.length ∧ d.length ≤ c ∧ DnC h (d.drop k) (.slice (if c = k then A else A.map (·.add (k * 1))) (n - k) (c - k)) := by
  obtain ⟨rows, hs, hr⟩ := hv
  have hl := hr.len
  obtain ⟨A', c', e, h2, _⟩ := hs.form
  simp only [Value.slice.injEq] at e
  obtain ⟨rfl, rfl, rfl⟩ := e
  exact ⟨hl, by omega, rows.drop k, hs.tail k (by omega), hr.drop k⟩
theorem DnC.cut {h : Heap} {d : Dn} {A : Option Addr} {n c : Nat} (hv : DnC h d (.slice A n c)) (k : Nat) (hk : k ≤ d.length) : DnC h (d.take k) (.slice A k c) := by
  obtain ⟨rows, hs, hr⟩ := hv
  have hl := hr.len
  exact ⟨rows.take k, hs.cut k (by omega), hr.take k⟩
theorem DnC.form {h : Heap} {d : Dn} {v : Value} (hv : DnC h d v) : ∃ A c, v = .slice A d.length c ∧ d.length ≤ c ∧ d.length ≤ 9223372036854775807 := by
  obtain ⟨rows, hs, hr⟩ := hv
  have hl := hr.len
  have hm := hs.len
  obtain ⟨A, c, e, h2, _⟩ := hs.form
  rw [hl] at e h2
  exact ⟨A, c, e, h2, by omega⟩
section
variable {E : Env} {k : List It} {f : Fr} {h : Heap} {H Hr : List Chunk} {st : Md} [hmd : OkMd st h H] {all : Array Oper} {rest : List Oper} {d : Nat} {ty : TypeId} {pos : String} {aft : Array Edge}
end
end Go.Proofs.YtfmekdmpghhegaaDoor