/- The reference's 'number'. -/
import Derived.Test.YtemigcdieghkfabDoorPkNum
import Derived.RegionTactic
set_option linter.unusedVariables false
set_option linter.unusedSimpArgs false
set_option linter.unusedSectionVars false
namespace Go.Proofs.YtemigcdieghkfabDoor
open Go.RowKit

end Go.Proofs.YtemigcdieghkfabDoor
