/- KernelFrozen, computed: behind a call of kind 3. -/
import Derived.Test.YtbgdjcoliiinjaaGreatPkKfB
set_option linter.unusedVariables false
set_option linter.unusedSimpArgs false
set_option linter.unusedSectionVars false
namespace Go.Proofs.YtbgdjcoliiinjaaGreat
open Go Go.RowKit Go.BigFrame
set_option maxRecDepth 100000
theorem fB2 : frozenB (wB 2) [8] rB2 = true := by kernel_rfl
end Go.Proofs.YtbgdjcoliiinjaaGreat
