/- The reference's 'number'. -/
import Derived.Test.YtgeeklgojjcdmaaDoorPkNum
import Derived.RegionTactic
set_option linter.unusedVariables false
set_option linter.unusedSimpArgs false
set_option linter.unusedSectionVars false
namespace Go.Proofs.YtgeeklgojjcdmaaDoor
open Go.RowKit

end Go.Proofs.YtgeeklgojjcdmaaDoor
