/- The reference's Plain and Text. -/
import Derived.Test.YtemigcdieghkfaaDoorPkLexP
import Derived.Deep.RegionHeld3
import Derived.Deep.DrawnRows
set_option linter.unusedVariables false
set_option linter.unusedSimpArgs false
set_option linter.unusedSectionVars false
namespace Go.Proofs.YtemigcdieghkfaaDoor
open Go.RowKit

end Go.Proofs.YtemigcdieghkfaaDoor
