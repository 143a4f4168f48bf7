/- Merged: KD7d, KD7e. -/
import Derived.Test.YtbgdjcoliiinjaaGreatPkKdF
set_option linter.unusedVariables false
set_option linter.unusedSimpArgs false
set_option linter.unusedSectionVars false
namespace Go.Proofs.YtbgdjcoliiinjaaGreat
section
open Go Go.RowKit Go.BigFrame
set_option maxRecDepth 100000
theorem rGrow12 : growB 12 = true := by kernel_rfl
theorem rGrow13 : growB 13 = true := by kernel_rfl
theorem rGrow14 : growB 14 = true := by kernel_rfl
theorem rGrow15 : growB 15 = true := by kernel_rfl
theorem rGrow16 : growB 16 = true := by kernel_rfl
theorem rGrow17 : growB 17 = true := by kernel_rfl
end
section
open Go Go.RowKit Go.BigFrame
set_option maxRecDepth 100000
theorem rGrow18 : growB 18 = true := by kernel_rfl
theorem rGrow19 : growB 19 = true := by kernel_rfl
theorem rGrow20 : growB 20 = true := by kernel_rfl
theorem rGrow21 : growB 21 = true := by kernel_rfl
theorem rGrow22 : growB 22 = true := by kernel_rfl
theorem rGrow23 : growB 23 = true := by kernel_rfl
end
end Go.Proofs.YtbgdjcoliiinjaaGreat
