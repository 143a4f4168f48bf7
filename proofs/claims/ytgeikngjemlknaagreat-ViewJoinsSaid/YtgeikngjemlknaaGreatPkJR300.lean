/- ViewJoins at cores 3, sponsor 0, mover 0: computed. -/
import Derived.Test.YtgeikngjemlknaaGreatPkJoinB
set_option linter.unusedVariables false
set_option linter.unusedSimpArgs false
set_option linter.unusedSectionVars false
namespace Go.Proofs.YtgeikngjemlknaaGreat
open Go
set_option maxRecDepth 100000
theorem join3000 : runJ 4 (joinArgs4 3 0 0 0) st0 isTrue = true := by kernel_rfl
theorem join3001 : runJ 4 (joinArgs4 3 0 0 1) st0 isTrue = true := by kernel_rfl
end Go.Proofs.YtgeikngjemlknaaGreat
