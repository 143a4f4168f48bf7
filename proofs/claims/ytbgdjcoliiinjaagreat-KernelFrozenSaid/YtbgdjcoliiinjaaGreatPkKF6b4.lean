/- KernelFrozen, computed: behind a call of kind 5. -/
import Derived.Test.YtbgdjcoliiinjaaGreatPkKfB
set_option linter.unusedVariables false
set_option linter.unusedSimpArgs false
set_option linter.unusedSectionVars false
namespace Go.Proofs.YtbgdjcoliiinjaaGreat
open Go Go.RowKit Go.BigFrame
set_option maxRecDepth 100000
theorem fB4 : frozenB (wB 4) [8] rB4 = true := by kernel_rfl
end Go.Proofs.YtbgdjcoliiinjaaGreat
