/- Arguments that are slices of numbers, and what a list of cells' lists is made of. -/
import Derived.Test.YtbgdjcoliiinjaaGreatPkGenJ
set_option linter.unusedVariables false
set_option linter.unusedSimpArgs false
set_option linter.unusedSectionVars false
namespace Go.Proofs.YtbgdjcoliiinjaaGreat
open Go Go.RowKit

/-- A slice of these 64-bit words. -/
def U64s (w : World) (v : Value) (xs : List Int) : Prop := Row w v 1 (xs.map fun x => [Value.int .u64 x]) ∧ ∀ x ∈ xs, 0 ≤ x ∧ x ≤ 18446744073709551615
theorem U64s.below {w w' : World} {v : Value} {xs : List Int} (h : U64s w v xs) (hb : Below w.heap.size w w') : U64s w' v xs := ⟨h.1.below hb, h.2⟩
theorem U64s.form {w : World} {v : Value} {xs : List Int} (h : U64s w v xs) : ∃ a c, v = .slice a xs.length c ∧ xs.length ≤ maxLen ∧ ∀ (k : Nat) (x : Int), xs[k]? = some x → ∃ g off, a = some ⟨g, off, none⟩ ∧ g < w.heap.size ∧ xs.length ≤ c ∧ c ≤ maxLen ∧ w.cell? ⟨g, off + k, none⟩ = some (.int .u64 x) := by
  have hml := h.1.1
  simp only [List.length_map] at hml
  rcases h.1.2 with ⟨hL, a, c, rfl⟩ | ⟨g, off, cap, rfl, hl0, hlc, hcm, hg, hc⟩
  · have hL : xs = [] := by simpa using hL
    subst hL
    exact ⟨a, c, rfl, by simp, fun k x hk => by simp at hk⟩
  · simp only [List.length_map] at hl0 hlc hc ⊢
    refine ⟨_, cap, rfl, by omega, fun k x hk => ⟨g, off, rfl, hg, hlc, hcm, ?_⟩⟩
    have := hc k [.int .u64 x] 0 (.int .u64 x) (by rw [List.getElem?_map, hk]; rfl) rfl
    simpa using this
section
variable {H : Type} {enc : TypeId × Value → H} {P : Program} {w : World} {base : Nat} {held : Bool}
end
end Go.Proofs.YtbgdjcoliiinjaaGreat
