/- Contracts of data: grow, computed. -/
import Derived.Test.YtbgdjcoliiinjaaGreatPkKD7a
set_option linter.unusedVariables false
set_option linter.unusedSimpArgs false
set_option linter.unusedSectionVars false
namespace Go.Proofs.YtbgdjcoliiinjaaGreat
open Go Go.RowKit Go.BigFrame
set_option maxRecDepth 100000
theorem rGrow0 : growB 0 = true := by kernel_rfl
theorem rGrow1 : growB 1 = true := by kernel_rfl
theorem rGrow2 : growB 2 = true := by kernel_rfl
theorem rGrow3 : growB 3 = true := by kernel_rfl
theorem rGrow4 : growB 4 = true := by kernel_rfl
theorem rGrow5 : growB 5 = true := by kernel_rfl
end Go.Proofs.YtbgdjcoliiinjaaGreat
