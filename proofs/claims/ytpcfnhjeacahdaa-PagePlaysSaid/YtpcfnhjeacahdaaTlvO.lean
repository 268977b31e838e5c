/- The reference's numbers: signed, Int, Number; TlvNumbers. -/
import Derived.Test.YtpcfnhjeacahdaaTlvM
import Derived.Test.YtpcfnhjeacahdaaTlvG
namespace Go.Proofs.Ytpcfnhjeacahdaa
set_option linter.all false
open Go.RowKit

theorem ref01_PutI (n : Int) (hn : 0 ≤ n ∧ n ≤ 18446744073709551615) (s : Int) (hs : 0 ≤ s ∧ s ≤ 8) (h : Heap) :
    Spec Try.prog 50 [.int .u64 n, .int .i64 s] h [] (fun v _ H' => H' = [] ∧ v = str (putB n.toNat s.toNat)) := by
  obtain ⟨m, rfl⟩ := Int.eq_ofNat_of_zero_le hn.1
  obtain ⟨k, rfl⟩ := Int.eq_ofNat_of_zero_le hs.1
  exact ref01_Put m (by omega) k (by omega) h

end Go.Proofs.Ytpcfnhjeacahdaa
