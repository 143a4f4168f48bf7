/- slices.Clone, slices.DeleteFunc at exclude's function value; exclude. -/
import Derived.Test.YtbgdjcoliiinjaaGreatPkClo
import Derived.Test.YtbgdjcoliiinjaaGreatPkClear
import Derived.Test.YtbgdjcoliiinjaaGreatPkMkView
set_option linter.unusedVariables false
set_option linter.unusedSimpArgs false
set_option linter.unusedSectionVars false
namespace Go.Proofs.YtbgdjcoliiinjaaGreat
open Go.RowKit Go.BigFrame

end Go.Proofs.YtbgdjcoliiinjaaGreat
