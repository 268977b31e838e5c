/- The chapter's examples, and TlvParses. -/
import Derived.Test.YtpcfnhjeacahdaaTlvF
import Derived.Test.YtpcfnhjeacahdaaTlvI
import Derived.KernelRfl
namespace Go.Proofs.Ytpcfnhjeacahdaa
set_option linter.all false
open Go.RowKit

theorem NodeC.mono' {h h' : Heap} {n : Nd} {r : List Value} (hn : NodeC h n r) (hl : Heap.le h h') : NodeC h' n r := NodeC.mono hl n r hn

end Go.Proofs.Ytpcfnhjeacahdaa
