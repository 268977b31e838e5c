/- Filters: what Bare leaves; FiltBares. -/
import Derived.Test.YtcghcdnmpjhifaaDoorFlQ
import Derived.Test.YtcghcdnmpjhifaaDoorFlH
namespace Go.Proofs.YtcghcdnmpjhifaaDoor
set_option linter.all false
open Go.RowKit

theorem bareFs_len : ∀ ks : List Fl, (bareFs ks).length = ks.length
  | [] => by simp [bareFs]
  | k :: ks => by simp [bareFs, bareFs_len ks]
theorem bare_chk : ∀ (d n : Nat) (f : Fl), chkM d n (bareF f) = chkM d n f
  | 0, n, f => by cases f; unfold bareF; split <;> (try split) <;> rfl
  | d + 1, n, .mk k a v ps ks => by
    have ih : ∀ (ks : List Fl) (n : Nat), chkKs (chkM d) n (bareFs ks) = chkKs (chkM d) n ks := by
      intro ks
      induction ks with
      | nil => intro n; simp [bareFs]
      | cons f ks ihk =>
        intro n
        rw [bareFs, chkKs, chkKs, bare_chk d n f]
        cases chkM d n f with
        | error e => rfl
        | ok n' => exact ihk n'
    rw [bareF_mk]
    by_cases h1 : k < 0 ∨ 8 < k
    · rw [if_pos h1, chkM, chkM, if_pos h1, if_pos h1]
    · rw [if_neg h1]
      by_cases h2 : k ≤ 2
      · rw [if_pos h2, chkM, chkM, bareFs_len, if_pos h2, if_pos h2, ih]
      · rw [if_neg h2, chkM, chkM, if_neg h1, if_neg h1, if_neg h2, if_neg h2]
        by_cases h3 : k = 4
        · rw [if_pos h3, if_neg (show ¬ (k = 2 ∧ _) from fun e => h2 (by omega)), if_neg (show ¬ (k = 2 ∧ _) from fun e => h2 (by omega))]
        · rw [if_neg h3, if_neg (show ¬ (k = 2 ∧ _) from fun e => h2 (by omega)), if_neg (show ¬ (k = 2 ∧ _) from fun e => h2 (by omega))]
          simp only [h3, false_and]
theorem bare_chkE (f : Fl) : chkE (bareF f) = chkE f := by unfold chkE; rw [bare_chk]
mutual
theorem bare_wt : ∀ f : Fl, (bareF f).wt ≤ f.wt
  | .mk k a v ps ks => by
    rw [bareF_mk]
    by_cases h1 : k < 0 ∨ 8 < k
    · rw [if_pos h1]; simp only [Fl.wt, List.length_nil, pcW, flwt]; omega
    · rw [if_neg h1]
      by_cases h2 : k ≤ 2
      · rw [if_pos h2]; have := bares_wt ks; simp only [Fl.wt, List.length_nil, pcW]; omega
      · rw [if_neg h2]
        by_cases h4 : k = 4
        · simp only [h4, Fl.wt, flwt, true_or, if_true, List.length_nil]; omega
        · by_cases h7 : k = 7
          · simp only [h7, Fl.wt, flwt, or_true, if_true, List.length_nil]; simp [pcW]; omega
          · simp only [h4, h7, Fl.wt, flwt, or_self, if_false, pcW]; omega
theorem bares_wt : ∀ ks : List Fl, flwt (bareFs ks) ≤ flwt ks
  | [] => by simp [bareFs]
  | k :: ks => by have := bare_wt k; have := bares_wt ks; simp only [bareFs, flwt]; omega
end
end Go.Proofs.YtcghcdnmpjhifaaDoor
