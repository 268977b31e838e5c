/- Filters: check, text, bare, in plain Lean; a text is read as the filter. -/
import Derived.Test.YtcghcdnmpjhifaaDoorFlF
import Derived.Test.YtcghcdnmpjhifaaDoorOcD
namespace Go.Proofs.YtcghcdnmpjhifaaDoor
set_option linter.all false
open Go.RowKit

-- AS IT IS WRITTEN
def isEsc (b : UInt8) : Prop := b.toNat = 0 ∨ b.toNat = 40 ∨ b.toNat = 41 ∨ b.toNat = 42 ∨ b.toNat = 92
instance (b : UInt8) : Decidable (isEsc b) := by unfold isEsc; infer_instance
def escB (b : UInt8) : List UInt8 := if isEsc b then [92, UInt8.ofNat (digN (b.toNat / 16)), UInt8.ofNat (digN (b.toNat % 16))] else [b]
def escS (v : List UInt8) : List UInt8 := v.flatMap escB
theorem escS_cons (b : UInt8) (v : List UInt8) : escS (b :: v) = escB b ++ escS v := by simp [escS]
theorem escS_app (a b : List UInt8) : escS (a ++ b) = escS a ++ escS b := by simp [escS]
theorem escB_len (b : UInt8) : 1 ≤ (escB b).length ∧ (escB b).length ≤ 3 := by unfold escB; split <;> simp
theorem escS_len : ∀ v : List UInt8, v.length ≤ (escS v).length ∧ (escS v).length ≤ 3 * v.length
  | [] => by simp [escS]
  | b :: v => by
    have := escS_len v
    have := escB_len b
    rw [escS_cons, List.length_append, List.length_cons]; omega
def pcsOkF : Bool → Pcs → Bool
  | _, [] => true
  | fst, (k, t) :: ps => decide (t ≠ []) && decide (k = 1 ∨ (k = 0 ∧ fst = true) ∨ (k = 2 ∧ ps = [])) && pcsOkF false ps
def pcsOk (ps : Pcs) : Bool := decide (ps ≠ []) && pcsOkF true ps
/-- Behind the first one: a star ahead of each. -/
def pcTA : Pcs → List UInt8
  | [] => [42]
  | (k, t) :: r => if k = 2 then 42 :: escS t else 42 :: (escS t ++ pcTA r)
def pcT : Pcs → List UInt8
  | [] => pcTA []
  | (k, t) :: r => if k = 0 then escS t ++ pcTA r else pcTA ((k, t) :: r)
theorem pcsOkF_cons {f : Bool} {k : Int} {t : List UInt8} {ps : Pcs} (h : pcsOkF f ((k, t) :: ps) = true) : t ≠ [] ∧ (k = 1 ∨ (k = 0 ∧ f = true) ∨ (k = 2 ∧ ps = [])) ∧ pcsOkF false ps = true := by
  simp only [pcsOkF, Bool.and_eq_true, decide_eq_true_eq] at h
  exact ⟨h.1.1, h.1.2, h.2⟩
theorem pcsOkF_mk {f : Bool} {k : Int} {t : List UInt8} {ps : Pcs} (h1 : t ≠ []) (h2 : k = 1 ∨ (k = 0 ∧ f = true) ∨ (k = 2 ∧ ps = [])) (h3 : pcsOkF false ps = true) : pcsOkF f ((k, t) :: ps) = true := by
  simp only [pcsOkF, Bool.and_eq_true, decide_eq_true_eq]
  exact ⟨⟨h1, h2⟩, h3⟩
def sgT (k : Int) : List UInt8 := if k = 5 then [62, 61] else if k = 6 then [60, 61] else if k = 8 then [126, 61] else [61]
def txB (k : Int) (a v : List UInt8) (ps : Pcs) : List UInt8 := if k = 7 then a ++ [61, 42] else if k = 4 then a ++ 61 :: pcT ps else a ++ (sgT k ++ escS v)
def opT (k : Int) : List UInt8 := if k = 0 then [38] else if k = 1 then [124] else [33]
mutual
/-- A filter's text. -/
def txF : Fl → List UInt8
  | .mk k a v ps ks => 40 :: ((if k ≤ 2 then opT k ++ txFs ks else txB k a v ps) ++ [41])
def txFs : List Fl → List UInt8
  | [] => []
  | k :: ks => txF k ++ txFs ks
end
mutual
def bareF : Fl → Fl
  | .mk k a v ps ks => if k < 0 ∨ 8 < k then .mk k [] [] [] [] else if k ≤ 2 then .mk k [] [] [] (bareFs ks) else .mk k a (if k = 4 ∨ k = 7 then [] else v) (if k = 4 then ps else []) []
def bareFs : List Fl → List Fl
  | [] => []
  | k :: ks => bareF k :: bareFs ks
end
mutual
/-- Each part may be, but for how many there are. -/
def okF : Fl → Prop
  | .mk k a _ ps ks => 0 ≤ k ∧ k ≤ 8 ∧ (k ≤ 2 → (k = 2 → ks.length = 1) ∧ okFs ks) ∧ (2 < k → typeM a = true ∧ (k = 4 → pcsOk ps = true))
def okFs : List Fl → Prop
  | [] => True
  | k :: ks => okF k ∧ okFs ks
end
def chkKs (f : Nat → Fl → Except Int Nat) : Nat → List Fl → Except Int Nat
  | n, [] => .ok n
  | n, k :: ks => match f n k with
    | .error e => .error e
    | .ok n' => chkKs f n' ks
/-- So many may be within one another still; so many came. -/
def chkM : Nat → Nat → Fl → Except Int Nat
  | 0, _, _ => .error 6
  | d + 1, n, .mk k a _ ps ks => if 1000 < n + 1 then .error 9 else if k < 0 ∨ 8 < k then .error 24 else if k = 2 ∧ ks.length ≠ 1 then .error 2
    else if k ≤ 2 then chkKs (chkM d) (n + 1) ks else if typeM a = false then .error 20 else if k = 4 ∧ pcsOk ps = false then .error 4 else .ok (n + 1)
theorem chkKs_ok {f : Nat → Fl → Except Int Nat} (hf : ∀ n k n', f n k = .ok n' → okF k) : ∀ (ks : List Fl) (n n' : Nat), chkKs f n ks = .ok n' → okFs ks
  | [], _, _, _ => trivial
  | k :: ks, n, n', h => by
    rw [chkKs] at h
    split at h
    · cases h
    · rename_i n1 h1
      exact ⟨hf _ _ _ h1, chkKs_ok hf ks _ _ h⟩
theorem chkM_ok : ∀ (d n : Nat) (f : Fl) (n' : Nat), chkM d n f = .ok n' → okF f
  | 0, n, f, n', h => by simp [chkM] at h
  | d + 1, n, .mk k a v ps ks, n', h => by
    rw [chkM] at h
    split at h
    · cases h
    · split at h
      · cases h
      · split at h
        · cases h
        · rename_i h1 h2 h3
          split at h
          · rename_i h4
            exact ⟨by omega, by omega, fun _ => ⟨fun h9 => by by_cases h8 : ks.length = 1; exact h8; exact absurd ⟨h9, h8⟩ h3, chkKs_ok (chkM_ok d) _ _ _ h⟩, fun h9 => absurd h4 (by omega)⟩
          · rename_i h4
            split at h
            · cases h
            · split at h
              · cases h
              · rename_i h5 h6
                refine ⟨by omega, by omega, fun h9 => absurd h9 h4, fun _ => ⟨by simpa using h5, fun h9 => ?_⟩⟩
                cases h8 : pcsOk ps with
                | true => rfl
                | false => exact absurd ⟨h9, h8⟩ h6
end Go.Proofs.YtcghcdnmpjhifaaDoor
