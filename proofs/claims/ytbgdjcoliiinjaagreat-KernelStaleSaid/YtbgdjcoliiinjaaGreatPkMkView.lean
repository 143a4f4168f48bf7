/- The maker of views. -/
import Derived.Test.YtbgdjcoliiinjaaGreatPkEngJ
import Derived.Test.YtbgdjcoliiinjaaGreatPkGenJ
set_option linter.unusedVariables false
set_option linter.unusedSimpArgs false
set_option linter.unusedSectionVars false
namespace Go.Proofs.YtbgdjcoliiinjaaGreat
open Go.RowKit Go.BigFrame

def I64s (zs : List Int) : Prop := ∀ z ∈ zs, -9223372036854775808 ≤ z ∧ z ≤ 9223372036854775807
theorem I64s.drop {zs : List Int} (h : I64s zs) (n : Nat) : I64s (zs.drop n) := fun z hz => h z (List.mem_of_mem_drop hz)
end Go.Proofs.YtbgdjcoliiinjaaGreat
