/- Arguments that are slices of numbers, and what a list of cells' lists is made of. -/
import Derived.Test.YtphocbncjanohaaGreatPkGenJ
set_option linter.unusedVariables false
set_option linter.unusedSimpArgs false
set_option linter.unusedSectionVars false
namespace Go.Proofs.YtphocbncjanohaaGreat
open Go Go.RowKit

/-- A slice of these 64-bit words. -/
def U64s (w : World) (v : Value) (xs : List Int) : Prop := Row w v 1 (xs.map fun x => [Value.int .u64 x]) ∧ ∀ x ∈ xs, 0 ≤ x ∧ x ≤ 18446744073709551615
theorem U64s.below {w w' : World} {v : Value} {xs : List Int} (h : U64s w v xs) (hb : Below w.heap.size w w') : U64s w' v xs := ⟨h.1.below hb, h.2⟩
section
variable {H : Type} {enc : TypeId × Value → H} {P : Program} {w : World} {base : Nat} {held : Bool}
end
end Go.Proofs.YtphocbncjanohaaGreat
