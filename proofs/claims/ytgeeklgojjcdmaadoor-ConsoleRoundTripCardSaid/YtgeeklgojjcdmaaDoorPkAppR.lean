/- append(s, xs...) onto a slice of the call's own, the source any slice. Nothing of the program is imported. -/
import Derived.Test.YtgeeklgojjcdmaaDoorPkKnAll
set_option linter.unusedVariables false
set_option linter.unusedSimpArgs false
set_option linter.unusedSectionVars false
namespace Go.Proofs.YtgeeklgojjcdmaaDoor
open Go Go.RowKit Go.BigFrame
section
variable {P : Program} {ops : Array Oper} {rest : List Oper} {op : Oper} {a : Act} {w W : World} {K : Act → World → Prop} {Q : Exit → Act → World → Prop} {M : List Nat} {l : Ents} {f : Ents → Ents} {ol : Ents} {e E : TypeId} {sz : Nat} {v : Value} {L : List (List Value)}
theorem OwnT.form3 (h : OwnT e sz v L ol) : ∃ a n c, v = .slice a n c := by
  obtain ⟨a, c, h⟩ := h.form
  exact ⟨a, _, c, h⟩
theorem OwnT.form4 (h : OwnT e sz v L ol) : ∃ a n c, v = .slice a n c ∧ n = L.length := by
  obtain ⟨a, c, h⟩ := h.form
  exact ⟨a, _, c, h, rfl⟩
end
end Go.Proofs.YtgeeklgojjcdmaaDoor
