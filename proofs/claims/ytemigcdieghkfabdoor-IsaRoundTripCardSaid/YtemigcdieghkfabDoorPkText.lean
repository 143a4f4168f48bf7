/- The reference's Plain and Text. -/
import Derived.Test.YtemigcdieghkfabDoorPkLexP
import Derived.Deep.RegionHeld3
import Derived.Deep.DrawnRows
set_option linter.unusedVariables false
set_option linter.unusedSimpArgs false
set_option linter.unusedSectionVars false
namespace Go.Proofs.YtemigcdieghkfabDoor
open Go.RowKit

theorem startT (w : World) (sm : ByteArray) (a c d e : Value) {T : TypeId} : ((w.alloc (.cells #[a, .string sm, c, d, e] T)).drew).cell? ⟨w.heap.size, 1, none⟩ = some (.string sm) ∧ w.heap.size < ((w.alloc (.cells #[a, .string sm, c, d, e] T)).drew).heap.size ∧ Below w.heap.size w ((w.alloc (.cells #[a, .string sm, c, d, e] T)).drew) :=
  ⟨by simp, by simp, ((Below.refl _ _).alloc (Nat.le_refl _) _).drew⟩
theorem keepT {w W w' : World} {sm : ByteArray} (h : W.cell? ⟨w.heap.size, 1, none⟩ = some (.string sm) ∧ w.heap.size < W.heap.size ∧ Below w.heap.size w W) (hb : Below W.heap.size W w') :
    w'.cell? ⟨w.heap.size, 1, none⟩ = some (.string sm) ∧ w.heap.size < w'.heap.size ∧ Below w.heap.size w w' :=
  ⟨(hb.cell h.2.1).trans h.1, Nat.lt_of_lt_of_le h.2.1 hb.size, h.2.2.trans (hb.mono (Nat.le_of_lt h.2.1))⟩
end Go.Proofs.YtemigcdieghkfabDoor
