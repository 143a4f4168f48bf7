/- KernelFrozen, computed: behind a claim into slot 1. -/
import Derived.Test.YtbgdjcoliiinjaaGreatPkKfB
set_option linter.unusedVariables false
set_option linter.unusedSimpArgs false
set_option linter.unusedSectionVars false
namespace Go.Proofs.YtbgdjcoliiinjaaGreat
open Go Go.RowKit Go.BigFrame
set_option maxRecDepth 100000
theorem fA1 : frozenB (wA 1) [1, 8] rA1 = true := by kernel_rfl
end Go.Proofs.YtbgdjcoliiinjaaGreat
