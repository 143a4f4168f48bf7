/- Merged: Wf. -/
import Derived.Test.YtgeikngjemlknaaGreatPkArgs
set_option linter.unusedVariables false
set_option linter.unusedSimpArgs false
set_option linter.unusedSectionVars false
namespace Go.Proofs.YtgeikngjemlknaaGreat
section
open Go Go.RowKit
theorem wf_i64 {n : Int} (h : (Lit.int .i64 n).wf = true) : -9223372036854775808 ≤ n ∧ n ≤ 9223372036854775807 := by
  simp [Lit.wf, IntKind.min, IntKind.max, IntKind.signed, IntKind.bits] at h; exact h
end
end Go.Proofs.YtgeikngjemlknaaGreat
