/- Merged: Wf. -/
import Derived.Test.YtphocbncjanohaaGreatPkArgs
set_option linter.unusedVariables false
set_option linter.unusedSimpArgs false
set_option linter.unusedSectionVars false
namespace Go.Proofs.YtphocbncjanohaaGreat
section
open Go Go.RowKit
end
end Go.Proofs.YtphocbncjanohaaGreat
