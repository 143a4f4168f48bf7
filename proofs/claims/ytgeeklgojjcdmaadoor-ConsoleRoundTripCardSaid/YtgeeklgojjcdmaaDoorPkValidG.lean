/- Merged: Fmt. -/
import Derived.Test.YtgeeklgojjcdmaaDoorPkBase0
import Derived.Test.YtgeeklgojjcdmaaDoorPkRead
import Derived.Test.YtgeeklgojjcdmaaDoorPkScanAB
import Derived.Lib.IndexAny
set_option linter.unusedVariables false
set_option linter.unusedSimpArgs false
set_option linter.unusedSectionVars false
namespace Go.Proofs.YtgeeklgojjcdmaaDoor
section

end
end Go.Proofs.YtgeeklgojjcdmaaDoor
