/- Merged: KF4b2, KF4b3, KF4b4, KF4b5. -/
import Derived.Test.YtbgdjcoliiinjaaGreatPkKfA
set_option linter.unusedVariables false
set_option linter.unusedSimpArgs false
set_option linter.unusedSectionVars false
namespace Go.Proofs.YtbgdjcoliiinjaaGreat
section
open Go Go.RowKit Go.BigFrame
set_option maxRecDepth 100000
theorem rB2 : prepB (wB 2) [8] = true := by kernel_rfl
end
section
open Go Go.RowKit Go.BigFrame
set_option maxRecDepth 100000
theorem rB3 : prepB (wB 3) [8] = true := by kernel_rfl
end
section
open Go Go.RowKit Go.BigFrame
set_option maxRecDepth 100000
theorem rB4 : prepB (wB 4) [8] = true := by kernel_rfl
end
section
open Go Go.RowKit Go.BigFrame
set_option maxRecDepth 100000
theorem rB5 : prepB (wB 5) [8] = true := by kernel_rfl
end
end Go.Proofs.YtbgdjcoliiinjaaGreat
