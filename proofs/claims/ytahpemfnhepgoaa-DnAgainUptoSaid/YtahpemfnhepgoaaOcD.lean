/- castellanref09.in, Type. -/
import Derived.Test.YtahpemfnhepgoaaOcB
namespace Go.Proofs.Ytahpemfnhepgoaa
set_option linter.all false
open Go.RowKit

def inN (c : Nat) (l : List UInt8) : Bool := l.any fun b => decide (b.toNat = c)
def lowN (n : Nat) : Nat := if 65 ≤ n ∧ n ≤ 90 then n + 32 else n
theorem byteAt_fold {s : List UInt8} {i : Nat} (h : i < s.length) : byteAt (foldM s) i = lowN (byteAt s i) := by
  rw [byteAt_eq (by rw [foldM_len]; exact h), byteAt_eq h]
  simp only [foldM, List.getElem_map, lowB, lowN]
  split
  · have := (s[i]).toNat_lt; simp [UInt8.toNat_ofNat']; omega
  · rfl
end Go.Proofs.Ytahpemfnhepgoaa
