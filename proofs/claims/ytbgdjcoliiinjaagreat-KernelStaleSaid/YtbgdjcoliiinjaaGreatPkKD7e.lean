/- Contracts of data: grow, computed. -/
import Derived.Test.YtbgdjcoliiinjaaGreatPkKD7a
set_option linter.unusedVariables false
set_option linter.unusedSimpArgs false
set_option linter.unusedSectionVars false
namespace Go.Proofs.YtbgdjcoliiinjaaGreat
open Go Go.RowKit Go.BigFrame
set_option maxRecDepth 100000
theorem rGrow18 : growB 18 = true := by kernel_rfl
theorem rGrow19 : growB 19 = true := by kernel_rfl
theorem rGrow20 : growB 20 = true := by kernel_rfl
theorem rGrow21 : growB 21 = true := by kernel_rfl
theorem rGrow22 : growB 22 = true := by kernel_rfl
theorem rGrow23 : growB 23 = true := by kernel_rfl
end Go.Proofs.YtbgdjcoliiinjaaGreat
