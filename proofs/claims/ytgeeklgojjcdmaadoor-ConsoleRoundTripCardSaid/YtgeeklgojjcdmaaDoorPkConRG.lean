/- Merged: ConRef, ConVerb. -/
import Derived.Test.YtgeeklgojjcdmaaDoorPkParRG
import Derived.Test.YtgeeklgojjcdmaaDoorPkConPlain
import Derived.Test.YtgeeklgojjcdmaaDoorPkKnMv
import Derived.Test.YtgeeklgojjcdmaaDoorPkConP1
set_option linter.unusedVariables false
set_option linter.unusedSimpArgs false
set_option linter.unusedSectionVars false
namespace Go.Proofs.YtgeeklgojjcdmaaDoor
section
open Go.RowKit Go.BigFrame

end
section
open Go.RowKit Go.BigFrame

end
end Go.Proofs.YtgeeklgojjcdmaaDoor
