/- Attributes: a name and its values; law14.Few, castellanref14's Twin and Same. -/
import Derived.Test.YtieibicgankemaaLtV
import Derived.Test.YtieibicgankemaaLtT
import Derived.Test.YtieibicgankemaaTy
namespace Go.Proofs.Ytieibicgankemaa
set_option linter.all false
set_option maxRecDepth 4000
open Go.RowKit

abbrev Atr := List UInt8 × List (List UInt8)
def AtrC (h : Heap) (a : Atr) (r : List Value) : Prop := ∃ v, r = [str a.1, v] ∧ HSl h v 1 (strsR a.2)
theorem AtrC.mono {h h' : Heap} (hl : Heap.le h h') {a : Atr} {r : List Value} : AtrC h a r → AtrC h' a r
  | ⟨v, e, h1⟩ => ⟨v, e, h1.mono hl⟩
abbrev AtrsC (h : Heap) (l : List Atr) (v : Value) : Prop := SC AtrC 2 h l v
theorem AtrsC.mono {h h' : Heap} (hl : Heap.le h h') {l : List Atr} {v : Value} (s : AtrsC h l v) : AtrsC h' l v := SC.mono (fun x => x.mono hl) hl s
end Go.Proofs.Ytieibicgankemaa
