/- ViewJoins at cores 3, sponsor 1, mover 1: computed. -/
import Derived.Test.YtgeikngjemlknaaGreatPkJoinB
set_option linter.unusedVariables false
set_option linter.unusedSimpArgs false
set_option linter.unusedSectionVars false
namespace Go.Proofs.YtgeikngjemlknaaGreat
open Go
set_option maxRecDepth 100000
theorem join3110 : runJ 4 (joinArgs4 3 1 1 0) st0 isTrue = true := by kernel_rfl
theorem join3111 : runJ 4 (joinArgs4 3 1 1 1) st0 isTrue = true := by kernel_rfl
end Go.Proofs.YtgeikngjemlknaaGreat
