/- Names, in plain words: a key is its own key. -/
import Derived.Test.YtahpemfnhepgoaaDnQ
namespace Go.Proofs.Ytahpemfnhepgoaa
set_option linter.all false
open Go.RowKit

-- folded twice, prepared twice
theorem chk_iff (d : Dn) : chkM d = 0 ↔ (d.length ≤ 32 ∧ ∀ r ∈ d, rdnCk r = 0) := by
  constructor
  · intro h
    have := chk_parts d 0 (by omega) h
    exact ⟨by omega, this.2⟩
  · rintro ⟨h1, h2⟩
    have : ∀ (l : Dn) (i : Nat), i + l.length ≤ 32 → (∀ r ∈ l, rdnCk r = 0) → chkGo i l = 0 := by
      intro l
      induction l with
      | nil => intro i _ _; rfl
      | cons r l ih =>
        intro i hi hr
        simp only [List.length_cons] at hi
        rw [chkGo, if_neg (by omega), hr r (by simp), if_neg (by simp)]
        exact ih (i + 1) (by omega) fun r hr' => hr r (by simp [hr'])
    exact this d 0 (by omega) h2
theorem print_ok {d : Dn} (h : (printM d).2 = 0) : chkM d = 0 ∧ (txt false d).length ≤ 4096 ∧ printM d = (txt false d, 0) := by
  by_cases hc : chkM d = 0
  · rw [printM_eq hc] at h ⊢
    by_cases hl : 4096 < (txt false d).length
    · rw [if_pos hl] at h; cases h
    · rw [if_neg hl]; exact ⟨hc, by omega, rfl⟩
  · unfold printM at h
    rw [if_pos hc] at h
    exact absurd h hc
theorem print_of {d : Dn} (hc : chkM d = 0) (hl : (txt false d).length ≤ 4096) : printM d = (txt false d, 0) := by
  rw [printM_eq hc, if_neg (by omega)]
theorem norm_of {d : Dn} (hc : chkM d = 0) (hl : (txt false d).length ≤ 4096) : normM d = (txt true d, 0) := by
  unfold normM; rw [print_of hc hl, if_neg (by simp)]
end Go.Proofs.Ytahpemfnhepgoaa
