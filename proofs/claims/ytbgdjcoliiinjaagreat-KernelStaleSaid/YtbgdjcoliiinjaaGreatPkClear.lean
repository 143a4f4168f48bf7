/- clear(s) among the known blocks; a slice's own block opened. Nothing of the program is imported. -/
import Derived.Test.YtbgdjcoliiinjaaGreatPkGenJ
import Derived.Lib.SliceRun
set_option linter.unusedVariables false
set_option linter.unusedSimpArgs false
set_option linter.unusedSectionVars false
namespace Go.Proofs.YtbgdjcoliiinjaaGreat
open Go Go.RowKit Go.BigFrame
section
variable {P : Program} {ops : Array Oper} {rest : List Oper} {op : Oper} {a : Act} {w W : World} {Q : Exit → Act → World → Prop} {M : List Nat} {l l' : Ents} {g o n c : Nat} {cs : Array Value} {T : TypeId}
end
end Go.Proofs.YtbgdjcoliiinjaaGreat
