/- KernelFrozen, computed: behind a claim into slot 5. -/
import Derived.Test.YtbgdjcoliiinjaaGreatPkKfB
set_option linter.unusedVariables false
set_option linter.unusedSimpArgs false
set_option linter.unusedSectionVars false
namespace Go.Proofs.YtbgdjcoliiinjaaGreat
open Go Go.RowKit Go.BigFrame
set_option maxRecDepth 100000
theorem fA5 : frozenB (wA 5) [5, 8] rA5 = true := by kernel_rfl
end Go.Proofs.YtbgdjcoliiinjaaGreat
