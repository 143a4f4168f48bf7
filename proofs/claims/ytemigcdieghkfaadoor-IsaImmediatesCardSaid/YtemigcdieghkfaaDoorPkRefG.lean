/- Merged: RefTab, RefVal. -/
import Derived.Test.YtemigcdieghkfaaDoorPkValidG
import Derived.Test.YtemigcdieghkfaaDoorPkBlockG
import Derived.Deep.QuietTactic
import Derived.BigQuiet
set_option linter.unusedVariables false
set_option linter.unusedSimpArgs false
set_option linter.unusedSectionVars false
namespace Go.Proofs.YtemigcdieghkfaaDoor
section
open Go.RowKit

end
section
open Go.RowKit

end
end Go.Proofs.YtemigcdieghkfaaDoor
