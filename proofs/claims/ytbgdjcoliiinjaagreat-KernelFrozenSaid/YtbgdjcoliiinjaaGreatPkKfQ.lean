/- Merged: KF4a4, KF4a5, KF4a6, KF4a7. -/
import Derived.Test.YtbgdjcoliiinjaaGreatPkKfA
set_option linter.unusedVariables false
set_option linter.unusedSimpArgs false
set_option linter.unusedSectionVars false
namespace Go.Proofs.YtbgdjcoliiinjaaGreat
section
open Go Go.RowKit Go.BigFrame
set_option maxRecDepth 100000
theorem rA4 : prepB (wA 4) [4, 8] = true := by kernel_rfl
end
section
open Go Go.RowKit Go.BigFrame
set_option maxRecDepth 100000
theorem rA5 : prepB (wA 5) [5, 8] = true := by kernel_rfl
end
section
open Go Go.RowKit Go.BigFrame
set_option maxRecDepth 100000
theorem rA6 : prepB (wA 6) [6, 8] = true := by kernel_rfl
end
section
open Go Go.RowKit Go.BigFrame
set_option maxRecDepth 100000
theorem rA7 : prepB (wA 7) [7, 8] = true := by kernel_rfl
end
end Go.Proofs.YtbgdjcoliiinjaaGreat
