/- Merged: KD7b, KD7c. -/
import Derived.Test.YtbgdjcoliiinjaaGreatPkKdF
set_option linter.unusedVariables false
set_option linter.unusedSimpArgs false
set_option linter.unusedSectionVars false
namespace Go.Proofs.YtbgdjcoliiinjaaGreat
section
open Go Go.RowKit Go.BigFrame
set_option maxRecDepth 100000
theorem rGrow0 : growB 0 = true := by kernel_rfl
theorem rGrow1 : growB 1 = true := by kernel_rfl
theorem rGrow2 : growB 2 = true := by kernel_rfl
theorem rGrow3 : growB 3 = true := by kernel_rfl
theorem rGrow4 : growB 4 = true := by kernel_rfl
theorem rGrow5 : growB 5 = true := by kernel_rfl
end
section
open Go Go.RowKit Go.BigFrame
set_option maxRecDepth 100000
theorem rGrow6 : growB 6 = true := by kernel_rfl
theorem rGrow7 : growB 7 = true := by kernel_rfl
theorem rGrow8 : growB 8 = true := by kernel_rfl
theorem rGrow9 : growB 9 = true := by kernel_rfl
theorem rGrow10 : growB 10 = true := by kernel_rfl
theorem rGrow11 : growB 11 = true := by kernel_rfl
end
end Go.Proofs.YtbgdjcoliiinjaaGreat
