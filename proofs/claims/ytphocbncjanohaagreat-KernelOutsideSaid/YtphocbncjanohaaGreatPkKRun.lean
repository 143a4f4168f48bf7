/- KernelOutside, computed: the run. -/
import Derived.Test.YtphocbncjanohaaGreatPkKernB
set_option linter.unusedVariables false
set_option linter.unusedSimpArgs false
set_option linter.unusedSectionVars false
namespace Go.Proofs.YtphocbncjanohaaGreat
open Go
set_option maxRecDepth 100000
theorem outside_run : runL 29 [0, 9, 11, 13, 14, 29, 36] [0, 9, 11, 13, 14, 36] 3 outArgs st0 isTrue = true := by kernel_rfl
end Go.Proofs.YtphocbncjanohaaGreat
