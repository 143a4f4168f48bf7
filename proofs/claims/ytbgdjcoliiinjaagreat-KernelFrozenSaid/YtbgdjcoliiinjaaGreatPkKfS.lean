/- Merged: KF4b6, KF4b7, KF4b8, KF4b9. -/
import Derived.Test.YtbgdjcoliiinjaaGreatPkKfA
set_option linter.unusedVariables false
set_option linter.unusedSimpArgs false
set_option linter.unusedSectionVars false
namespace Go.Proofs.YtbgdjcoliiinjaaGreat
section
open Go Go.RowKit Go.BigFrame
set_option maxRecDepth 100000
theorem rB6 : prepB (wB 6) [8] = true := by kernel_rfl
end
section
open Go Go.RowKit Go.BigFrame
set_option maxRecDepth 100000
theorem rB7 : prepB (wB 7) [8] = true := by kernel_rfl
end
section
open Go Go.RowKit Go.BigFrame
set_option maxRecDepth 100000
theorem rB8 : prepB (wB 8) [8] = true := by kernel_rfl
end
section
open Go Go.RowKit Go.BigFrame
set_option maxRecDepth 100000
theorem rB9 : prepB (wB 9) [8] = true := by kernel_rfl
end
end Go.Proofs.YtbgdjcoliiinjaaGreat
