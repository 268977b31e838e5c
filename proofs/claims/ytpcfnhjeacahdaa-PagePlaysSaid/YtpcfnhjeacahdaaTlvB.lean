/- Walk of tlv.Bool. -/
import Derived.Test.YtpcfnhjeacahdaaTlvN
namespace Go.Proofs.Ytpcfnhjeacahdaa
set_option linter.all false
open Go.RowKit

theorem callPut1 : Callable Try.prog 50 := ⟨_, Try.func50, by kernel_rfl, rfl⟩
end Go.Proofs.Ytpcfnhjeacahdaa
