/- include, where what is included is greater than all that is there. -/
import Derived.Test.YtbgdjcoliiinjaaGreatPkExc
set_option linter.unusedVariables false
set_option linter.unusedSimpArgs false
set_option linter.unusedSectionVars false
namespace Go.Proofs.YtbgdjcoliiinjaaGreat
open Go.RowKit Go.BigFrame

end Go.Proofs.YtbgdjcoliiinjaaGreat
