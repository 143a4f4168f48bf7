/- KernelFrozen, computed: behind a call of kind 8. -/
import Derived.Test.YtbgdjcoliiinjaaGreatPkKfB
set_option linter.unusedVariables false
set_option linter.unusedSimpArgs false
set_option linter.unusedSectionVars false
namespace Go.Proofs.YtbgdjcoliiinjaaGreat
open Go Go.RowKit Go.BigFrame
set_option maxRecDepth 100000
theorem fB7 : frozenB (wB 7) [8] rB7 = true := by kernel_rfl
end Go.Proofs.YtbgdjcoliiinjaaGreat
