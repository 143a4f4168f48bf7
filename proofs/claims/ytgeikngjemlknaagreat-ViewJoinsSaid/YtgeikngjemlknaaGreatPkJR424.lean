/- ViewJoins at cores 4, sponsor 2, mover 4: computed. -/
import Derived.Test.YtgeikngjemlknaaGreatPkJoinB
set_option linter.unusedVariables false
set_option linter.unusedSimpArgs false
set_option linter.unusedSectionVars false
namespace Go.Proofs.YtgeikngjemlknaaGreat
open Go
set_option maxRecDepth 100000
theorem join4240 : runJ 4 (joinArgs4 4 2 4 0) st0 isTrue = true := by kernel_rfl
theorem join4241 : runJ 4 (joinArgs4 4 2 4 1) st0 isTrue = true := by kernel_rfl
end Go.Proofs.YtgeikngjemlknaaGreat
