/- Schemas: the listed table, out of what the rows list. -/
import Derived.Test.YtfmekdmpghhegaaDoorRows
import Derived.Test.YtfmekdmpghhegaaDoorScIt
import Derived.Test.YtfmekdmpghhegaaDoorOpen
import Derived.ProofKit
import Derived.OpenShut
import Derived.LaidMore
import Derived.Stop.Joined
namespace Go.Proofs.YtfmekdmpghhegaaDoor
set_option linter.all false
set_option maxRecDepth 4000
open Go.ChangeShapes Go.WideShapes Go.ChangeAt Go.RowKit

/-- What the rows list. -/
abbrev laidL : List (String × DataW Unit) := [("math/bits.deBruijn32tab", Rows.laid_math_bits_deBruijn32tab), ("math/bits.deBruijn64tab", Rows.laid_math_bits_deBruijn64tab), ("internal/strconv.uint64pow10", Rows.laid_internal_strconv_uint64pow10)]
theorem gPow : Tryd.prog.globalNamed "internal/strconv.uint64pow10" = some 0 := by kernel_rfl
theorem tPow : (Tryd.prog.globals[0]?).map (·.type) = some 105 := by kernel_rfl
theorem cU64 : Tryd.prog.cellsOf 87 = 1 := by kernel_rfl
theorem cPow : Tryd.prog.cellsOf 105 = 20 := by kernel_rfl
theorem powData : (Rows.laid_internal_strconv_uint64pow10 : DataW Unit) = Lib.tabData .u64 Lib.pow10Tab := by kernel_rfl
theorem tabs_of {W : World} (h : laidMetH Tryd.prog laidL W) : TabI (heapOf W) := by
  rw [MakeChecks.laidMetH_plain _ _ _ (by kernel_rfl)] at h
  obtain ⟨ps, ⟨_, _, _, _, _, _, _, _, _, _, ⟨_, _, _, _, _, _, _, _, _, _, ⟨g3, t3, cs3, f3, p3, q3, hg3, ht3, hv3, hd3, _, _⟩, _⟩, _⟩, _⟩ := h
  obtain rfl := Option.some.inj (gPow.symm.trans hg3)
  obtain rfl := Option.some.inj (tPow.symm.trans ht3)
  rw [powData] at hd3
  refine tabI_of ?_
  unfold Lib.TabIs
  rw [hv3, ← Lib.cells_of_tab Tryd.underlying105 Tryd.underlying87 cU64 cPow hd3]
end Go.Proofs.YtfmekdmpghhegaaDoor
