/- ViewMembers: true for every list and numbers. -/
import Derived.Test.YtpjejaoobbancaaPkMemP
import Derived.Test.YtpjejaoobbancaaPkLexP
import Derived.BigQuiet
set_option linter.unusedVariables false
set_option linter.unusedSimpArgs false
set_option linter.unusedSectionVars false
namespace Go.Proofs.Ytpjejaoobbancaa
open Go.RowKit Go.BigFrame

end Go.Proofs.Ytpjejaoobbancaa
