/- Names, in plain words: a name's text is read as the name. -/
import Derived.Test.YtahpemfnhepgoaaDnO
namespace Go.Proofs.Ytahpemfnhepgoaa
set_option linter.all false
open Go.RowKit

theorem chk_parts : ∀ (l : Dn) (i : Nat), i ≤ 32 → chkGo i l = 0 → i + l.length ≤ 32 ∧ ∀ r ∈ l, rdnCk r = 0
  | [], i, hi, _ => ⟨by simpa using hi, fun r hr => by simp at hr⟩
  | r :: l, i, hi, h => by
    rw [chkGo] at h
    by_cases h1 : i = 32
    · rw [if_pos h1] at h; cases h
    rw [if_neg h1] at h
    by_cases h2 : rdnCk r ≠ 0
    · rw [if_pos h2] at h; exact absurd h h2
    rw [if_neg h2] at h
    obtain ⟨h3, h4⟩ := chk_parts l (i + 1) (by omega) h
    refine ⟨by simp only [List.length_cons]; omega, fun r' hr => ?_⟩
    rcases List.mem_cons.1 hr with rfl | hr
    · simpa using h2
    · exact h4 r' hr
end Go.Proofs.Ytahpemfnhepgoaa
