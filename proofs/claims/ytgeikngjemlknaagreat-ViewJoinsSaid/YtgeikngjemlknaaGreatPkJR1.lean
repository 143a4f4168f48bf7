/- Merged: JR100, JR101. -/
import Derived.Test.YtgeikngjemlknaaGreatPkJoinB
set_option linter.unusedVariables false
set_option linter.unusedSimpArgs false
set_option linter.unusedSectionVars false
namespace Go.Proofs.YtgeikngjemlknaaGreat
section
open Go
set_option maxRecDepth 100000
theorem join1000 : runJ 4 (joinArgs4 1 0 0 0) st0 isTrue = true := by kernel_rfl
theorem join1001 : runJ 4 (joinArgs4 1 0 0 1) st0 isTrue = true := by kernel_rfl
end
section
open Go
set_option maxRecDepth 100000
theorem join1010 : runJ 4 (joinArgs4 1 0 1 0) st0 isTrue = true := by kernel_rfl
theorem join1011 : runJ 4 (joinArgs4 1 0 1 1) st0 isTrue = true := by kernel_rfl
end
end Go.Proofs.YtgeikngjemlknaaGreat
