/- Names, in plain words: a key is its own key. -/
import Derived.Test.YtieibicgankemaaDnO
namespace Go.Proofs.Ytieibicgankemaa
set_option linter.all false
set_option maxRecDepth 4000
open Go.RowKit

-- folded twice, prepared twice
theorem print_ok {d : Dn} (h : (printM d).2 = 0) : chkM d = 0 ∧ (txt false d).length ≤ 4096 ∧ printM d = (txt false d, 0) := by
  by_cases hc : chkM d = 0
  · rw [printM_eq hc] at h ⊢
    by_cases hl : 4096 < (txt false d).length
    · rw [if_pos hl] at h; cases h
    · rw [if_neg hl]; exact ⟨hc, by omega, rfl⟩
  · unfold printM at h
    rw [if_pos hc] at h
    exact absurd h hc
theorem print_of {d : Dn} (hc : chkM d = 0) (hl : (txt false d).length ≤ 4096) : printM d = (txt false d, 0) := by
  rw [printM_eq hc, if_neg (by omega)]
theorem norm_of {d : Dn} (hc : chkM d = 0) (hl : (txt false d).length ≤ 4096) : normM d = (txt true d, 0) := by
  unfold normM; rw [print_of hc hl, if_neg (by simp)]
end Go.Proofs.Ytieibicgankemaa
