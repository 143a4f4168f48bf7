/- slices.Max, Min, Index, Contains over ints. -/
import Derived.Test.YtbgdjcoliiinjaaGreatPkEngJ
import Derived.Lib.MinMax
set_option linter.unusedVariables false
set_option linter.unusedSimpArgs false
set_option linter.unusedSectionVars false
namespace Go.Proofs.YtbgdjcoliiinjaaGreat
open Go.RowKit Go.BigFrame

end Go.Proofs.YtbgdjcoliiinjaaGreat
