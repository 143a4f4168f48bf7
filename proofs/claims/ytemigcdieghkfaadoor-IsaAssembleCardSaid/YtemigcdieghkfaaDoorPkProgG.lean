/- Merged: NextK. -/
import Derived.Test.YtemigcdieghkfaaDoorPkRefG
import Derived.Deep.RegionHeld3
import Derived.Deep.DrawnRows
import Derived.Deep.DeepCutAuto
import Derived.Deep.RegionWith
import Derived.Test.YtemigcdieghkfaaDoorPkNext
import Derived.Test.YtemigcdieghkfaaDoorPkKnAll
import Derived.Deep.Cut
set_option linter.unusedVariables false
set_option linter.unusedSimpArgs false
set_option linter.unusedSectionVars false
namespace Go.Proofs.YtemigcdieghkfaaDoor
section
open Go.RowKit

/-! ### Next, over known blocks -/
theorem Ints.slice {w : World} {v : Value} {zs : List Int} (h : Ints w v zs) : ∃ a n c, v = .slice a n c := by
  rcases h.1.2 with ⟨_, a, c, rfl⟩ | ⟨g, off, cap, rfl, _⟩ <;> exact ⟨_, _, _, rfl⟩
theorem Kn.onlyK {M : List Nat} {W w : World} {l : Ents} {g : Nat} {Φ : Obj → Prop} (h : Kn M W w l) (m : Has l g Φ) : Kn M W w [(g, Φ)] :=
  ⟨h.os, h.tape, h.output, h.size, h.frame, fun k Ψ hk => by (cases hk with | here => exact h.own _ _ m | there hk => cases hk), fun k Ψ hk => by (cases hk with | here => exact h.fresh _ _ m | there hk => cases hk), by simp⟩
end
end Go.Proofs.YtemigcdieghkfaaDoor
