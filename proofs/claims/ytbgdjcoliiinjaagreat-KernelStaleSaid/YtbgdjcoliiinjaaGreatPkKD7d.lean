/- Contracts of data: grow, computed. -/
import Derived.Test.YtbgdjcoliiinjaaGreatPkKD7a
set_option linter.unusedVariables false
set_option linter.unusedSimpArgs false
set_option linter.unusedSectionVars false
namespace Go.Proofs.YtbgdjcoliiinjaaGreat
open Go Go.RowKit Go.BigFrame
set_option maxRecDepth 100000
theorem rGrow12 : growB 12 = true := by kernel_rfl
theorem rGrow13 : growB 13 = true := by kernel_rfl
theorem rGrow14 : growB 14 = true := by kernel_rfl
theorem rGrow15 : growB 15 = true := by kernel_rfl
theorem rGrow16 : growB 16 = true := by kernel_rfl
theorem rGrow17 : growB 17 = true := by kernel_rfl
end Go.Proofs.YtbgdjcoliiinjaaGreat
