/- strings.Builder: copyCheck, WriteByte, WriteString (lines of the kit's contracts, turned to this program: its copyCheck has another body behind the check). -/
import Derived.Test.YtemigcdieghkfaaDoorProg
import Derived.Test.YtemigcdieghkfaaDoorPkBase0
import Derived.Lib.Strings
import Derived.Lib.Slices
import Derived.Lib.Walk
import Derived.Lib.Builder
import Derived.Lib.AppendStr
import Derived.Lib.UnsafeStr
import Derived.Shelf.RegionOpenPlain
import Derived.WalkKit
import Derived.Laws.Externs
import Derived.Laws.IdiomCopy
import Derived.Laws.BitsLemmas
import Derived.KernelRfl
set_option linter.unusedVariables false
set_option linter.unusedSimpArgs false
set_option linter.unusedSectionVars false
namespace Go.Proofs.YtemigcdieghkfaaDoor
open Go Go.RowKit

end Go.Proofs.YtemigcdieghkfaaDoor
