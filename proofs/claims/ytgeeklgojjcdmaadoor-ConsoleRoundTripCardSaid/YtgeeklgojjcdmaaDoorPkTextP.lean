/- The program's own text of a token. -/
import Derived.Test.YtgeeklgojjcdmaaDoorPkNumText
import Derived.Test.YtgeeklgojjcdmaaDoorPkText
set_option linter.unusedVariables false
set_option linter.unusedSimpArgs false
set_option linter.unusedSectionVars false
namespace Go.Proofs.YtgeeklgojjcdmaaDoor
open Go.RowKit

/-- What 'text' hands back. -/
def TextPost (r : Raw) (w : World) (e : Ending) (w' : World) : Prop :=
  ∃ x, e = .returned (.tuple #[.string (str x), .bool (textOf r).2]) ∧ ((textOf r).2 = true → x = (textOf r).1) ∧ Below w.heap.size w w'
theorem TextPost.mk {r : Raw} {w w' : World} {x : List UInt8} {s : ByteArray} {b : Bool} (h : textOf r = (x, b)) (hs : s = str x) (hb : Below w.heap.size w w') : TextPost r w (.returned (.tuple #[.string s, .bool b])) w' := by
  subst hs
  exact ⟨x, by rw [h], fun _ => by rw [h], hb⟩
theorem TextPost.bad {r : Raw} {w w' : World} (h : (textOf r).2 = false) {s : ByteArray} (hb : Below w.heap.size w w') : TextPost r w (.returned (.tuple #[.string s, .bool false])) w' :=
  ⟨s.data.toList, (by rw [h, str_data]), (fun q => by rw [h] at q; cases q), hb⟩

end Go.Proofs.YtgeeklgojjcdmaaDoor
