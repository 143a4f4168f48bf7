/- The law's own 'right': are all tokens well formed and few? And tokens that came in as an argument. -/
import Derived.Test.YtgeeklgojjcdmaaDoorPkText
import Derived.Test.YtgeeklgojjcdmaaDoorPkNext
set_option linter.unusedVariables false
set_option linter.unusedSimpArgs false
set_option linter.unusedSectionVars false
namespace Go.Proofs.YtgeeklgojjcdmaaDoor
open Go.RowKit

def Tok.fits (t : Tok) : Prop := (str t.raw.text).size ≤ 140737488351232 ∧ 0 ≤ t.raw.value ∧ t.raw.value ≤ 18446744073709551615
/-- A slice value that came in and reads as these tokens. -/
def Toks (w : World) (v : Value) (d : List Tok) : Prop := Row w v 5 (d.map fun t => t.cells.toList) ∧ ∀ t ∈ d, t.fits
theorem Toks.below {w w' : World} {v : Value} {d : List Tok} (h : Toks w v d) (hb : Below w.heap.size w w') : Toks w' v d := ⟨h.1.below hb, h.2⟩
theorem Toks.slice {w : World} {v : Value} {d : List Tok} (h : Toks w v d) (hd : d.length ≤ 65536) : (d = [] ∧ ∃ a c, v = .slice a 0 c) ∨ TokSlice w v d.length d := by
  obtain ⟨⟨_, h⟩, _⟩ := h
  rcases h with ⟨h, x⟩ | ⟨b, off, cap, hv, h0, hl, hm, hb, hc⟩
  · exact .inl ⟨by simpa using h, x⟩
  · refine .inr ⟨rfl, .inr ⟨b, off, cap, by simpa using hv, hd, hb, fun i t ht => ?_⟩⟩
    have g := hc i t.cells.toList
    have hi : (d.map fun t => t.cells.toList)[i]? = some t.cells.toList := by rw [List.getElem?_map, ht]; rfl
    exact ⟨g 0 _ hi rfl, g 1 _ hi rfl, g 2 _ hi rfl, g 3 _ hi rfl, g 4 _ hi rfl⟩
end Go.Proofs.YtgeeklgojjcdmaaDoor
