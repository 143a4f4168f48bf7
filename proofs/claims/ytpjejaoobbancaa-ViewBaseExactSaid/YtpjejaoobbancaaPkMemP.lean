/- The members of a proposed view: plain. -/
import Derived.Test.YtpjejaoobbancaaPkSrt
import Derived.Test.YtpjejaoobbancaaPkLawAdopts
set_option linter.unusedVariables false
set_option linter.unusedSimpArgs false
set_option linter.unusedSectionVars false
namespace Go.Proofs.Ytpjejaoobbancaa
open Go

theorem keepL_mem {outs l : List Int} {z : Int} : z ∈ keepL outs l ↔ z ∈ l ∧ z ∉ outs := by unfold keepL; rw [List.mem_filter]; simp
theorem sortL_mem {l : List Int} {z : Int} : z ∈ sortL l ↔ z ∈ l := List.mem_mergeSort
end Go.Proofs.Ytpjejaoobbancaa
