/- strings.IndexByte, strings.Cut at one byte, strings.Join, as contracts of the light walk. -/
import Derived.Test.YtfmekdmpghhegaaDoorLtS
import Derived.Test.YtfmekdmpghhegaaDoorTy
import Derived.Test.YtfmekdmpghhegaaDoorLtA
import Derived.Test.YtfmekdmpghhegaaDoorProg
import Derived.Ground.NamesProg
import Derived.Shelf.Small.Strs
import Derived.Shelf.Strings.Cut
import Derived.Shelf.Strings.Search2
namespace Go.Proofs.YtfmekdmpghhegaaDoor
set_option linter.all false
set_option maxRecDepth 4000
open Go.RowKit

theorem St.keep {h : Heap} {H : List Chunk} {w : World} (s : StI h H w) : St ⟨w, keys H, h⟩ h H w := s.start
end Go.Proofs.YtfmekdmpghhegaaDoor
