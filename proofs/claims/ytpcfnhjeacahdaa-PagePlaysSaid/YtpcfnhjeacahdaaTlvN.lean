/- Walk of tlv.Number. -/
import Derived.Test.YtpcfnhjeacahdaaTlvI
namespace Go.Proofs.Ytpcfnhjeacahdaa
set_option linter.all false
open Go.RowKit

theorem callInt : Callable Try.prog 75 := ⟨_, Try.func75, by kernel_rfl, rfl⟩

end Go.Proofs.Ytpcfnhjeacahdaa
