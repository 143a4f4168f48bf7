/- Assembling lines whose labels have any names. Plain. -/
import Derived.Test.YtemigcdieghkfaaDoorPkRoundG
set_option linter.unusedVariables false
set_option linter.unusedSimpArgs false
set_option linter.unusedSectionVars false
namespace Go.Proofs.YtemigcdieghkfaaDoor
open Go

theorem labelAt_noneG {ls : Labels} {s : List UInt8} (h : ∀ x ∈ ls, ¬ x.1 = s) : labelAt ls s = none := by
  unfold labelAt
  rw [List.find?_eq_none.2 (fun x hx => by simpa using h x hx)]; rfl
end Go.Proofs.YtemigcdieghkfaaDoor
