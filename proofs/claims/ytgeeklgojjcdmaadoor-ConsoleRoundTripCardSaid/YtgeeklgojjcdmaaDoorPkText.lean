/- The reference's Plain and Text. -/
import Derived.Test.YtgeeklgojjcdmaaDoorPkLexP
import Derived.Deep.RegionHeld3
import Derived.Deep.DrawnRows
set_option linter.unusedVariables false
set_option linter.unusedSimpArgs false
set_option linter.unusedSectionVars false
namespace Go.Proofs.YtgeeklgojjcdmaaDoor
open Go.RowKit

end Go.Proofs.YtgeeklgojjcdmaaDoor
