/- castellanref13.Wants. -/
import Derived.Test.YtfmekdmpghhegaaDoorScG
import Derived.Test.YtfmekdmpghhegaaDoorScF
import Derived.Test.YtfmekdmpghhegaaDoorScE
namespace Go.Proofs.YtfmekdmpghhegaaDoor
set_option linter.all false
set_option maxRecDepth 4000
open Go.RowKit

theorem setM_len {es : Ens} {c : Nat} {P F : List (List UInt8)} (s : SetM es c P) (h : ∀ x ∈ P, x ∈ F) : es.length ≤ F.length := by
  have := nodup_len s.k (m := F) fun x hx => h x ((s.m x).1 hx)
  simpa using this
def mustU (C : List Cls) (u : List UInt8) : List (List UInt8) := (gtC C u).2.2.2.1.map foldM
def mayV (C : List Cls) (u : List UInt8) : List (List UInt8) := (gtC C u).2.2.2.2.map foldM
theorem flat_snoc {f : List UInt8 → List (List UInt8)} {l : List (List UInt8)} {i : Nat} {w : List UInt8} (h : l[i]? = some w) : (l.take (i + 1)).flatMap f = (l.take i).flatMap f ++ f w := by
  rw [take_get h, List.flatMap_append]; simp
theorem map_snoc {f : List UInt8 → List UInt8} {l : List (List UInt8)} {i : Nat} {w : List UInt8} (h : l[i]? = some w) : (l.take (i + 1)).map f = (l.take i).map f ++ [f w] := by
  rw [take_get h, List.map_append]; rfl
theorem tyF_len (T : List Ty4) : (tyF T).length = T.length := by simp [tyF]
theorem in_snoc {P F : List (List UInt8)} {x : List UInt8} (h : ∀ y ∈ P, y ∈ F) (hx : x ∈ F) : ∀ y ∈ P ++ [x], y ∈ F := fun y hy => by
  rcases List.mem_append.1 hy with hy | hy
  · exact h y hy
  · simp at hy; subst hy; exact hx
theorem chM_ix {C : List Cls} (g : GoodC C) {w u : List UInt8} (h : u ∈ chM C w) : ∃ j c, ixC C u = some j ∧ C[j]? = some c ∧ gtC C u = c := by
  cases hw : ixC C w with
  | none => rw [chM_none hw] at h; simp at h
  | some i =>
    obtain ⟨j, c, _, h2, h3⟩ := chM_mem g i w u hw h
    subst h3
    exact ⟨j, c, g.one j c h2, h2, gtC_of (g.one j c h2) h2⟩
end Go.Proofs.YtfmekdmpghhegaaDoor
