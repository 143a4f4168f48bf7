/- Merged: JR200, JR201. -/
import Derived.Test.YtgeikngjemlknaaGreatPkJoinB
set_option linter.unusedVariables false
set_option linter.unusedSimpArgs false
set_option linter.unusedSectionVars false
namespace Go.Proofs.YtgeikngjemlknaaGreat
section
open Go
set_option maxRecDepth 100000
theorem join2000 : runJ 4 (joinArgs4 2 0 0 0) st0 isTrue = true := by kernel_rfl
theorem join2001 : runJ 4 (joinArgs4 2 0 0 1) st0 isTrue = true := by kernel_rfl
end
section
open Go
set_option maxRecDepth 100000
theorem join2010 : runJ 4 (joinArgs4 2 0 1 0) st0 isTrue = true := by kernel_rfl
theorem join2011 : runJ 4 (joinArgs4 2 0 1 1) st0 isTrue = true := by kernel_rfl
end
end Go.Proofs.YtgeikngjemlknaaGreat
