/- Merged: JR211, JR212. -/
import Derived.Test.YtgeikngjemlknaaGreatPkJoinB
set_option linter.unusedVariables false
set_option linter.unusedSimpArgs false
set_option linter.unusedSectionVars false
namespace Go.Proofs.YtgeikngjemlknaaGreat
section
open Go
set_option maxRecDepth 100000
theorem join2110 : runJ 4 (joinArgs4 2 1 1 0) st0 isTrue = true := by kernel_rfl
theorem join2111 : runJ 4 (joinArgs4 2 1 1 1) st0 isTrue = true := by kernel_rfl
end
section
open Go
set_option maxRecDepth 100000
theorem join2120 : runJ 4 (joinArgs4 2 1 2 0) st0 isTrue = true := by kernel_rfl
theorem join2121 : runJ 4 (joinArgs4 2 1 2 1) st0 isTrue = true := by kernel_rfl
end
end Go.Proofs.YtgeikngjemlknaaGreat
