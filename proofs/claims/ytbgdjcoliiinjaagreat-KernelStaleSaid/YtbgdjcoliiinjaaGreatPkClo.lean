/- Function values over lists of ints: what exclude and due hand to the library. -/
import Derived.Test.YtbgdjcoliiinjaaGreatPkSlc
import Derived.Test.YtbgdjcoliiinjaaGreatPkGenJ
import Derived.Lib.SliceRun
set_option linter.unusedVariables false
set_option linter.unusedSimpArgs false
set_option linter.unusedSectionVars false
namespace Go.Proofs.YtbgdjcoliiinjaaGreat
open Go.RowKit Go.BigFrame

end Go.Proofs.YtbgdjcoliiinjaaGreat
