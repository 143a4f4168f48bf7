/- KernelFrozen, computed: behind a call to retype. -/
import Derived.Test.YtbgdjcoliiinjaaGreatPkKfB
set_option linter.unusedVariables false
set_option linter.unusedSimpArgs false
set_option linter.unusedSectionVars false
namespace Go.Proofs.YtbgdjcoliiinjaaGreat
open Go Go.RowKit Go.BigFrame
set_option maxRecDepth 100000
theorem fC2 : frozenB (wC 2) [8] rC2 = true := by kernel_rfl
end Go.Proofs.YtbgdjcoliiinjaaGreat
