/- Merged: AsmTok. -/
import Derived.Test.YtgeeklgojjcdmaaDoorPkAsmP
import Derived.Test.YtgeeklgojjcdmaaDoorPkKnAll
import Derived.Test.YtgeeklgojjcdmaaDoorPkFormatW
import Derived.BigQuiet
import Derived.StillTailTactics
set_option linter.unusedVariables false
set_option linter.unusedSimpArgs false
set_option linter.unusedSectionVars false
namespace Go.Proofs.YtgeeklgojjcdmaaDoor
section
open Go.RowKit

def posE (el ec : Int) (d : List Tok) (i : Nat) : Int × Int := match d[i]? with
  | some t => (t.line, t.col)
  | none => (el, ec)
abbrev tokC (el ec : Int) (d : List Tok) (i : Nat) : Array Value := #[.int .i64 (tk d i).kind, .string (str (tk d i).text), .int .u64 (tk d i).value, .int .i64 (posE el ec d i).1, .int .i64 (posE el ec d i).2]
end
end Go.Proofs.YtgeeklgojjcdmaaDoor
