/- Merged: ParR, ParR2. -/
import Derived.Test.YtgeeklgojjcdmaaDoorPkAsmTR
import Derived.Test.YtgeeklgojjcdmaaDoorPkLocalG
set_option linter.unusedVariables false
set_option linter.unusedSimpArgs false
set_option linter.unusedSectionVars false
namespace Go.Proofs.YtgeeklgojjcdmaaDoor
section
open Go.RowKit Go.BigFrame

theorem tk_out {d : List Tok} {i : Nat} (h : d.length ≤ i) : tk d i = ⟨0, [], 0⟩ := by unfold tk; rw [List.getElem?_eq_none h]
end
section
open Go.RowKit Go.BigFrame

end
end Go.Proofs.YtgeeklgojjcdmaaDoor
