/- Contracts of data: insertion. -/
import Derived.Test.YtbgdjcoliiinjaaGreatPkKdB
set_option linter.unusedVariables false
set_option linter.unusedSimpArgs false
set_option linter.unusedSectionVars false
namespace Go.Proofs.YtbgdjcoliiinjaaGreat
open Go Go.RowKit Go.BigFrame
set_option maxRecDepth 100000
def yIns (L : Nat) : List X := [.cons (xL (L + 1)) (.cons (.sc (.bool true)) .nil), .cons (xL 0) (.cons (.sc (.bool false)) .nil)]
theorem rIns0 : allUp 13 (fun i => runD hk3 153 [xL (i + 0), xEnt] st0 (outD (yIns (i + 0)))) = true := by kernel_rfl
theorem rIns1 : allUp 6 (fun i => runD hk3 153 [xL (i + 13), xEnt] st0 (outD (yIns (i + 13)))) = true := by kernel_rfl
theorem rIns2 : allUp 4 (fun i => runD hk3 153 [xL (i + 19), xEnt] st0 (outD (yIns (i + 19)))) = true := by kernel_rfl
theorem rIns3 : allUp 3 (fun i => runD hk3 153 [xL (i + 23), xEnt] st0 (outD (yIns (i + 23)))) = true := by kernel_rfl
theorem dcIns (L : Nat) (h : L < 26) : DC Tryz.prog 153 [xL L, xEnt] (yIns L) := by
  by_cases h0 : L < 13
  · exact dc_run0 hk3 (allUp_get rIns0 L h0) rfl
  · by_cases h1 : L < 19
    · have := allUp_get rIns1 (L - 13) (by omega)
      rw [show L - 13 + 13 = L by omega] at this
      exact dc_run0 hk3 this rfl
    · by_cases h2 : L < 23
      · have := allUp_get rIns2 (L - 19) (by omega)
        rw [show L - 19 + 19 = L by omega] at this
        exact dc_run0 hk3 this rfl
      · have := allUp_get rIns3 (L - 23) (by omega)
        rw [show L - 23 + 23 = L by omega] at this
        exact dc_run0 hk3 this rfl
end Go.Proofs.YtbgdjcoliiinjaaGreat
