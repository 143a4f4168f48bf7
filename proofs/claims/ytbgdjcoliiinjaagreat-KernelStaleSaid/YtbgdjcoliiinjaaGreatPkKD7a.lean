/- Contracts of data: grow. -/
import Derived.Test.YtbgdjcoliiinjaaGreatPkKD6
set_option linter.unusedVariables false
set_option linter.unusedSimpArgs false
set_option linter.unusedSectionVars false
namespace Go.Proofs.YtbgdjcoliiinjaaGreat
open Go Go.RowKit Go.BigFrame
set_option maxRecDepth 100000
noncomputable def growB (L : Nat) : Bool := runD hk7 53 [xL L, xStep, xI] st0 (outD (yGrow L))
theorem growB_dc {L : Nat} (h : growB L = true) : DC Tryz.prog 53 [xL L, xStep, xI] (yGrow L) := dc_run0 hk7 h rfl
end Go.Proofs.YtbgdjcoliiinjaaGreat
