/- Decode: the program of some bytes. -/
import Derived.Test.YtemigcdieghkfabDoorPkEncG
import Derived.Test.YtemigcdieghkfabDoorPkAwakeI
set_option linter.unusedVariables false
set_option linter.unusedSimpArgs false
set_option linter.unusedSectionVars false
namespace Go.Proofs.YtemigcdieghkfabDoor
open Go.RowKit Go.BigFrame

def BytesOk (zs : List Int) : Prop := ∀ x ∈ zs, 0 ≤ x ∧ x ≤ 255
theorem BytesOk.getD {zs : List Int} (h : BytesOk zs) (i : Nat) : 0 ≤ zs.getD i 0 ∧ zs.getD i 0 ≤ 255 := by
  rw [List.getD_eq_getElem?_getD]
  cases hi : zs[i]? with
  | none => exact ⟨by show (0 : Int) ≤ 0; decide, by show (0 : Int) ≤ 255; decide⟩
  | some x => exact h x (List.mem_of_getElem? hi)
end Go.Proofs.YtemigcdieghkfabDoor
