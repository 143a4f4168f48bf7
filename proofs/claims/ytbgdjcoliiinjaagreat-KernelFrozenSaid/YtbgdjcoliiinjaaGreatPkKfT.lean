/- Merged: KF4c0, KF4c1, KF4c2. -/
import Derived.Test.YtbgdjcoliiinjaaGreatPkKfA
set_option linter.unusedVariables false
set_option linter.unusedSimpArgs false
set_option linter.unusedSectionVars false
namespace Go.Proofs.YtbgdjcoliiinjaaGreat
section
open Go Go.RowKit Go.BigFrame
set_option maxRecDepth 100000
theorem rC0 : prepB (wC 0) [8] = true := by kernel_rfl
end
section
open Go Go.RowKit Go.BigFrame
set_option maxRecDepth 100000
theorem rC1 : prepB (wC 1) [8] = true := by kernel_rfl
end
section
open Go Go.RowKit Go.BigFrame
set_option maxRecDepth 100000
theorem rC2 : prepB (wC 2) [8] = true := by kernel_rfl
end
end Go.Proofs.YtbgdjcoliiinjaaGreat
