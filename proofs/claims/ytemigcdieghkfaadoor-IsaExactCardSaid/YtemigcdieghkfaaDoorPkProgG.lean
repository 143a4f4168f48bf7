/- Merged: NextK, InstrK, ProgK, IntsForm. -/
import Derived.Test.YtemigcdieghkfaaDoorPkRefG
import Derived.Deep.RegionHeld3
import Derived.Deep.DrawnRows
import Derived.Deep.DeepCutAuto
import Derived.Deep.RegionWith
import Derived.Test.YtemigcdieghkfaaDoorPkNext
import Derived.Test.YtemigcdieghkfaaDoorPkKnAll
import Derived.Deep.Cut
set_option linter.unusedVariables false
set_option linter.unusedSimpArgs false
set_option linter.unusedSectionVars false
namespace Go.Proofs.YtemigcdieghkfaaDoor
section
open Go.RowKit

/-! ### Next, over known blocks -/
theorem Ints.slice {w : World} {v : Value} {zs : List Int} (h : Ints w v zs) : ∃ a n c, v = .slice a n c := by
  rcases h.1.2 with ⟨_, a, c, rfl⟩ | ⟨g, off, cap, rfl, _⟩ <;> exact ⟨_, _, _, rfl⟩
theorem Kn.onlyK {M : List Nat} {W w : World} {l : Ents} {g : Nat} {Φ : Obj → Prop} (h : Kn M W w l) (m : Has l g Φ) : Kn M W w [(g, Φ)] :=
  ⟨h.os, h.tape, h.output, h.size, h.frame, fun k Ψ hk => by (cases hk with | here => exact h.own _ _ m | there hk => cases hk), fun k Ψ hk => by (cases hk with | here => exact h.fresh _ _ m | there hk => cases hk), by simp⟩
end
section
open Go.RowKit
/-! ### An instruction that is being built -/
/-- The operands that belong to these letters are there, no others. -/
structure PartOk (l : List UInt8) (n : Int) (x : Ins) : Prop where
  a : 0 ≤ x.a ∧ x.a < 16 ∧ (97 ∉ l → x.a = 0)
  b : 0 ≤ x.b ∧ x.b < 16 ∧ (98 ∉ l → x.b = 0)
  c : 0 ≤ x.c ∧ x.c < 16 ∧ (99 ∉ l → x.c = 0)
  imm : -2147483648 ≤ x.imm ∧ x.imm ≤ 2147483647
  none : 105 ∉ l → 116 ∉ l → x.imm = 0
  tgt : 116 ∈ l → 0 ≤ x.imm ∧ x.imm < n
theorem PartOk.start (o n : Int) : PartOk [] n ⟨o, 0, 0, 0, 0⟩ := ⟨by simp, by simp, by simp, by simp, by simp, by simp⟩
section
variable {l : List UInt8} {n : Int} {x : Ins} {r : Int}
end
theorem letters (op : Int) (h0 : 0 ≤ op) (h1 : op ≤ 27) : (∀ c ∈ operandsOf op, c = 97 ∨ c = 98 ∨ c = 99 ∨ c = 105 ∨ c = 116) ∧ (105 ∈ operandsOf op → 116 ∉ operandsOf op) := by
  unfold operandsOf
  have ho : op = 0 ∨ op = 1 ∨ op = 2 ∨ op = 3 ∨ op = 4 ∨ op = 5 ∨ op = 6 ∨ op = 7 ∨ op = 8 ∨ op = 9 ∨ op = 10 ∨ op = 11 ∨ op = 12 ∨ op = 13 ∨ op = 14 ∨ op = 15 ∨ op = 16 ∨ op = 17 ∨ op = 18 ∨ op = 19 ∨ op = 20 ∨ op = 21 ∨ op = 22 ∨ op = 23 ∨ op = 24 ∨ op = 25 ∨ op = 26 ∨ op = 27 := by omega
  rcases ho with rfl | rfl | rfl | rfl | rfl | rfl | rfl | rfl | rfl | rfl | rfl | rfl | rfl | rfl | rfl | rfl | rfl | rfl | rfl | rfl | rfl | rfl | rfl | rfl | rfl | rfl | rfl | rfl <;> decide
end
section
open Go.RowKit
end
section
open Go Go.RowKit
theorem Ints.form {w : World} {v : Value} {zs : List Int} (h : Ints w v zs) : ∃ a c, v = .slice a zs.length c ∧ zs.length ≤ maxLen := by
  have hm := h.1.1
  simp only [List.length_map] at hm
  rcases h.1.2 with ⟨hL, a, c, rfl⟩ | ⟨g, off, cap, rfl, _⟩
  · have : zs = [] := by simpa using hL
    subst this
    exact ⟨a, c, rfl, by simp⟩
  · exact ⟨_, cap, by rw [List.length_map], hm⟩
end
end Go.Proofs.YtemigcdieghkfaaDoor
