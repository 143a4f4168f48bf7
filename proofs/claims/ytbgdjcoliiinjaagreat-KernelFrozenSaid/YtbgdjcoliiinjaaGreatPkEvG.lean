/- Merged: Wf. -/
import Derived.Test.YtbgdjcoliiinjaaGreatPkArgs
set_option linter.unusedVariables false
set_option linter.unusedSimpArgs false
set_option linter.unusedSectionVars false
namespace Go.Proofs.YtbgdjcoliiinjaaGreat
section
open Go Go.RowKit
end
end Go.Proofs.YtbgdjcoliiinjaaGreat
