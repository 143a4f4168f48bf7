/- ViewJoins at cores 4, sponsor 0, mover 2: computed. -/
import Derived.Test.YtgeikngjemlknaaGreatPkJoinB
set_option linter.unusedVariables false
set_option linter.unusedSimpArgs false
set_option linter.unusedSectionVars false
namespace Go.Proofs.YtgeikngjemlknaaGreat
open Go
set_option maxRecDepth 100000
theorem join4020 : runJ 4 (joinArgs4 4 0 2 0) st0 isTrue = true := by kernel_rfl
theorem join4021 : runJ 4 (joinArgs4 4 0 2 1) st0 isTrue = true := by kernel_rfl
end Go.Proofs.YtgeikngjemlknaaGreat
