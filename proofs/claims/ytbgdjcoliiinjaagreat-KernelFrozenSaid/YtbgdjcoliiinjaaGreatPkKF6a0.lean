/- KernelFrozen, computed: behind a claim into slot 0. -/
import Derived.Test.YtbgdjcoliiinjaaGreatPkKfB
set_option linter.unusedVariables false
set_option linter.unusedSimpArgs false
set_option linter.unusedSectionVars false
namespace Go.Proofs.YtbgdjcoliiinjaaGreat
open Go Go.RowKit Go.BigFrame
set_option maxRecDepth 100000
theorem fA0 : frozenB (wA 0) [0, 8] rA0 = true := by kernel_rfl
end Go.Proofs.YtbgdjcoliiinjaaGreat
