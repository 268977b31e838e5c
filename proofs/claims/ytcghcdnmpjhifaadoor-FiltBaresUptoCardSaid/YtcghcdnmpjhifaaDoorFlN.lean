/- Filters: check, text, bare, in plain Lean; a text is read as the filter. -/
import Derived.Test.YtcghcdnmpjhifaaDoorFlF
import Derived.Test.YtcghcdnmpjhifaaDoorOcB
namespace Go.Proofs.YtcghcdnmpjhifaaDoor
set_option linter.all false
open Go.RowKit

-- AS IT IS WRITTEN
def isEsc (b : UInt8) : Prop := b.toNat = 0 ∨ b.toNat = 40 ∨ b.toNat = 41 ∨ b.toNat = 42 ∨ b.toNat = 92
instance (b : UInt8) : Decidable (isEsc b) := by unfold isEsc; infer_instance
def pcsOkF : Bool → Pcs → Bool
  | _, [] => true
  | fst, (k, t) :: ps => decide (t ≠ []) && decide (k = 1 ∨ (k = 0 ∧ fst = true) ∨ (k = 2 ∧ ps = [])) && pcsOkF false ps
def pcsOk (ps : Pcs) : Bool := decide (ps ≠ []) && pcsOkF true ps
mutual
def bareF : Fl → Fl
  | .mk k a v ps ks => if k < 0 ∨ 8 < k then .mk k [] [] [] [] else if k ≤ 2 then .mk k [] [] [] (bareFs ks) else .mk k a (if k = 4 ∨ k = 7 then [] else v) (if k = 4 then ps else []) []
def bareFs : List Fl → List Fl
  | [] => []
  | k :: ks => bareF k :: bareFs ks
end
def chkKs (f : Nat → Fl → Except Int Nat) : Nat → List Fl → Except Int Nat
  | n, [] => .ok n
  | n, k :: ks => match f n k with
    | .error e => .error e
    | .ok n' => chkKs f n' ks
/-- So many may be within one another still; so many came. -/
def chkM : Nat → Nat → Fl → Except Int Nat
  | 0, _, _ => .error 6
  | d + 1, n, .mk k a _ ps ks => if 1000 < n + 1 then .error 9 else if k < 0 ∨ 8 < k then .error 24 else if k = 2 ∧ ks.length ≠ 1 then .error 2
    else if k ≤ 2 then chkKs (chkM d) (n + 1) ks else if typeM a = false then .error 20 else if k = 4 ∧ pcsOk ps = false then .error 4 else .ok (n + 1)
end Go.Proofs.YtcghcdnmpjhifaaDoor
