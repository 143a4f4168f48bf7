/- ViewJoins at cores 4, sponsor 2, mover 3: computed. -/
import Derived.Test.YtgeikngjemlknaaGreatPkJoinB
set_option linter.unusedVariables false
set_option linter.unusedSimpArgs false
set_option linter.unusedSectionVars false
namespace Go.Proofs.YtgeikngjemlknaaGreat
open Go
set_option maxRecDepth 100000
theorem join4230 : runJ 4 (joinArgs4 4 2 3 0) st0 isTrue = true := by kernel_rfl
theorem join4231 : runJ 4 (joinArgs4 4 2 3 1) st0 isTrue = true := by kernel_rfl
end Go.Proofs.YtgeikngjemlknaaGreat
