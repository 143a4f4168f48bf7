/- The reference's 'number'. -/
import Derived.Test.YtemigcdieghkfaaDoorPkNum
import Derived.RegionTactic
set_option linter.unusedVariables false
set_option linter.unusedSimpArgs false
set_option linter.unusedSectionVars false
namespace Go.Proofs.YtemigcdieghkfaaDoor
open Go.RowKit

end Go.Proofs.YtemigcdieghkfaaDoor
