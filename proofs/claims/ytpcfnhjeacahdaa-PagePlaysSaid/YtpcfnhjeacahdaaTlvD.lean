/- TlvDeep: nodes within nodes. -/
import Derived.Test.YtpcfnhjeacahdaaTlvS
import Derived.Test.YtpcfnhjeacahdaaTlvG
import Derived.Test.YtpcfnhjeacahdaaTlvM
namespace Go.Proofs.Ytpcfnhjeacahdaa
set_option linter.all false
open Go.RowKit

/-- With how many bytes the length is said. -/
def ds (longer : Bool) : Nat → List UInt8
  | 0 => [48, 0]
  | k + 1 => if (ds longer k).length < 128 ∧ longer = false then [48] ++ [UInt8.ofNat (ds longer k).length] ++ ds longer k else [48, 131, 0] ++ [UInt8.ofNat ((ds longer k).length / 256), UInt8.ofNat ((ds longer k).length % 256)] ++ ds longer k
end Go.Proofs.Ytpcfnhjeacahdaa
