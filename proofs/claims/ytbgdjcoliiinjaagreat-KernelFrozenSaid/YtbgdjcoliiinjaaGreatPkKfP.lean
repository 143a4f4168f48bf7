/- Merged: KF4a0, KF4a1, KF4a2, KF4a3. -/
import Derived.Test.YtbgdjcoliiinjaaGreatPkKfA
set_option linter.unusedVariables false
set_option linter.unusedSimpArgs false
set_option linter.unusedSectionVars false
namespace Go.Proofs.YtbgdjcoliiinjaaGreat
section
open Go Go.RowKit Go.BigFrame
set_option maxRecDepth 100000
theorem rA0 : prepB (wA 0) [0, 8] = true := by kernel_rfl
end
section
open Go Go.RowKit Go.BigFrame
set_option maxRecDepth 100000
theorem rA1 : prepB (wA 1) [1, 8] = true := by kernel_rfl
end
section
open Go Go.RowKit Go.BigFrame
set_option maxRecDepth 100000
theorem rA2 : prepB (wA 2) [2, 8] = true := by kernel_rfl
end
section
open Go Go.RowKit Go.BigFrame
set_option maxRecDepth 100000
theorem rA3 : prepB (wA 3) [3, 8] = true := by kernel_rfl
end
end Go.Proofs.YtbgdjcoliiinjaaGreat
