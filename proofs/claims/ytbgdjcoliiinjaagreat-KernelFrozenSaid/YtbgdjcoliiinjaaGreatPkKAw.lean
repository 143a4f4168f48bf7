/- The start-up check of chapter 27 answers true: computed. -/
import Derived.Test.YtbgdjcoliiinjaaGreatPkKdA
set_option linter.unusedVariables false
set_option linter.unusedSimpArgs false
set_option linter.unusedSectionVars false
namespace Go.Proofs.YtbgdjcoliiinjaaGreat
open Go Go.RowKit Go.BigFrame
set_option maxRecDepth 100000
noncomputable def runA : Fns := runF Tryz.prog hN 0 3000 (fun _ => none) 60
theorem awake_run : runA 7 [] st0 isTrue = true := by kernel_rfl
theorem awake27 (w : World) : Calls Tryz.prog 7 #[] w fun e w' => e = .returned (.bool true) ∧ Below w.heap.size w w' :=
  calls_true (runF_ok hN hmix (fun _ _ h => by cases h) 60) awake_run w
end Go.Proofs.YtbgdjcoliiinjaaGreat
