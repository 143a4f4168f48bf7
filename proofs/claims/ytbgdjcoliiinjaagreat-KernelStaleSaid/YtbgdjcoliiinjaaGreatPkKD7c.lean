/- Contracts of data: grow, computed. -/
import Derived.Test.YtbgdjcoliiinjaaGreatPkKD7a
set_option linter.unusedVariables false
set_option linter.unusedSimpArgs false
set_option linter.unusedSectionVars false
namespace Go.Proofs.YtbgdjcoliiinjaaGreat
open Go Go.RowKit Go.BigFrame
set_option maxRecDepth 100000
theorem rGrow6 : growB 6 = true := by kernel_rfl
theorem rGrow7 : growB 7 = true := by kernel_rfl
theorem rGrow8 : growB 8 = true := by kernel_rfl
theorem rGrow9 : growB 9 = true := by kernel_rfl
theorem rGrow10 : growB 10 = true := by kernel_rfl
theorem rGrow11 : growB 11 = true := by kernel_rfl
end Go.Proofs.YtbgdjcoliiinjaaGreat
