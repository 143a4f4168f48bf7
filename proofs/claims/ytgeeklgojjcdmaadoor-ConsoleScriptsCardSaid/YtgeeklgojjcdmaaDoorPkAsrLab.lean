/- The console seat lacks the assembler: what the texts behind this one want of it is imported here. -/
import Derived.Test.YtgeeklgojjcdmaaDoorPkParRG
set_option linter.unusedVariables false
set_option linter.unusedSimpArgs false
set_option linter.unusedSectionVars false
namespace Go.Proofs.YtgeeklgojjcdmaaDoor

end Go.Proofs.YtgeeklgojjcdmaaDoor
