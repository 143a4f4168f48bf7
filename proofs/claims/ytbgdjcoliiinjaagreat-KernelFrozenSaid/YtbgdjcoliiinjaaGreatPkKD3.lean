/- Contracts of data: conflicts. -/
import Derived.Test.YtbgdjcoliiinjaaGreatPkKdB
set_option linter.unusedVariables false
set_option linter.unusedSimpArgs false
set_option linter.unusedSectionVars false
namespace Go.Proofs.YtbgdjcoliiinjaaGreat
open Go Go.RowKit Go.BigFrame
set_option maxRecDepth 100000
theorem rConf0 : allUp 13 (fun i => splitXs [xL (i + 0), xId, xCaps] fun xs' => runD hk3 110 xs' st0 (outD [xB])) = true := by kernel_rfl
theorem rConf1 : allUp 6 (fun i => splitXs [xL (i + 13), xId, xCaps] fun xs' => runD hk3 110 xs' st0 (outD [xB])) = true := by kernel_rfl
theorem rConf2 : allUp 5 (fun i => splitXs [xL (i + 19), xId, xCaps] fun xs' => runD hk3 110 xs' st0 (outD [xB])) = true := by kernel_rfl
theorem dcConf (L : Nat) (h : L < 24) : DC Tryz.prog 110 [xL L, xId, xCaps] [xB] := by
  by_cases h0 : L < 13
  · exact dc_run hk3 (allUp_get rConf0 L h0) rfl
  · by_cases h1 : L < 19
    · have := allUp_get rConf1 (L - 13) (by omega)
      rw [show L - 13 + 13 = L by omega] at this
      exact dc_run hk3 this rfl
    · have := allUp_get rConf2 (L - 19) (by omega)
      rw [show L - 19 + 19 = L by omega] at this
      exact dc_run hk3 this rfl
end Go.Proofs.YtbgdjcoliiinjaaGreat
