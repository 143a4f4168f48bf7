/- Merged: AsmPlain. -/
import Derived.Test.YtgeeklgojjcdmaaDoorPkValidG
import Derived.Test.YtgeeklgojjcdmaaDoorPkLexP
set_option linter.unusedVariables false
set_option linter.unusedSimpArgs false
set_option linter.unusedSectionVars false
namespace Go.Proofs.YtgeeklgojjcdmaaDoor
section
open Go

/-- The token with that number; behind the last one, none. -/
def tk (d : List Tok) (i : Nat) : Raw := match d[i]? with
  | some t => t.raw
  | none => ⟨0, [], 0⟩
/-- The position of the token with that number; behind the last one, the end of the text. -/
def tpos (l : List UInt8) (d : List Tok) (i : Nat) : Int × Int := match d[i]? with
  | some t => (t.line, t.col)
  | none => adv l (1, 1)
def isP (d : List Tok) (i : Nat) (m : List UInt8) : Bool := decide ((tk d i).kind = 4) && decide ((tk d i).text = m)
/-- An error: the number of the token at which it stands, and its number. -/
abbrev AErr := Nat × Int
end
end Go.Proofs.YtgeeklgojjcdmaaDoor
