/- What comes in, as the light walk's rows. -/
import Derived.Test.YtklbhkalpajdgaaLaw
import Derived.Test.YtklbhkalpajdgaaLtM
import Derived.ProofKit
import Derived.OpenShut
import Derived.SliceStrings
import Derived.ShutString
namespace Go.Proofs.Ytklbhkalpajdgaa
set_option linter.all false
open Go.RowKit

theorem string_eq (s : ByteArray) : Value.string s = str s.data.toList := by cases s; simp [str]
theorem getD_take {α : Type} {zs : List α} {len j : Nat} {x d : α} (hx : (zs.take len)[j]? = some x) : j < zs.length ∧ zs.getD j d = x := by
  rw [List.getElem?_take] at hx
  split at hx
  · exact ⟨(List.getElem?_eq_some_iff.1 hx).1, by rw [List.getD_eq_getElem?_getD, hx]; rfl⟩
  · cases hx
theorem HSl.ofVals {α : Type} {w : World} {a : Addr} {len cap : Nat} {zs : List α} {d : α} {f : α → Value} (hl : len ≤ cap) (hm : cap ≤ maxLen) (hz : zs.length = cap)
    (hc : ∀ i, i < zs.length → w.cell? (a.add i) = some (f (zs.getD i d))) : HSl (heapOf w) (.slice (some a) len cap) 1 ((zs.take len).map fun x => [f x]) := by
  have hlen : (zs.take len).length = len := by rw [List.length_take]; omega
  refine ⟨fun r hr => ?_, some a, cap, by rw [List.length_map, hlen], by rw [List.length_map, hlen]; exact hl, hm, fun _ => ⟨a, rfl, fun j u hj => ?_⟩⟩
  · simp only [List.mem_map] at hr
    obtain ⟨x, _, rfl⟩ := hr
    rfl
  · have e : ∀ l : List α, (l.map fun x => [f x]).flatten = l.map f := fun l => by
      induction l with
      | nil => rfl
      | cons y l ih => simp only [List.map_cons, List.flatten_cons, ih]; rfl
    rw [e, List.getElem?_map] at hj
    cases hx : (zs.take len)[j]? with
    | none => rw [hx] at hj; cases hj
    | some x =>
      rw [hx] at hj
      have hj' : f x = u := by simpa using hj
      subst hj'
      have := getD_take (d := d) hx
      rw [← this.2]
      exact hc j this.1
theorem inR_of_wf {k : IntKind} {n : Int} (h : (Lit.int k n).wf = true) : inR k n := by
  simp only [Lit.wf, Bool.and_eq_true, decide_eq_true_eq] at h
  cases k <;> exact h
end Go.Proofs.Ytklbhkalpajdgaa
