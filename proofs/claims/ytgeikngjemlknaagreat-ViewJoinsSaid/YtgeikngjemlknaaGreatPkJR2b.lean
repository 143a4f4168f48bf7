/- Merged: JR202, JR210. -/
import Derived.Test.YtgeikngjemlknaaGreatPkJoinB
set_option linter.unusedVariables false
set_option linter.unusedSimpArgs false
set_option linter.unusedSectionVars false
namespace Go.Proofs.YtgeikngjemlknaaGreat
section
open Go
set_option maxRecDepth 100000
theorem join2020 : runJ 4 (joinArgs4 2 0 2 0) st0 isTrue = true := by kernel_rfl
theorem join2021 : runJ 4 (joinArgs4 2 0 2 1) st0 isTrue = true := by kernel_rfl
end
section
open Go
set_option maxRecDepth 100000
theorem join2100 : runJ 4 (joinArgs4 2 1 0 0) st0 isTrue = true := by kernel_rfl
theorem join2101 : runJ 4 (joinArgs4 2 1 0 1) st0 isTrue = true := by kernel_rfl
end
end Go.Proofs.YtgeikngjemlknaaGreat
