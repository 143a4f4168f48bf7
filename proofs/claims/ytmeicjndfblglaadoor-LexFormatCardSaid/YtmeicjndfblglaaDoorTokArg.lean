/- Tokens that came in as an argument. -/
import Derived.Test.YtmeicjndfblglaaDoorRight
import Derived.Test.YtmeicjndfblglaaDoorArgs
set_option linter.unusedVariables false
set_option linter.unusedSimpArgs false
set_option linter.unusedSectionVars false
namespace Go.Proofs.YtmeicjndfblglaaDoor
open Go Go.RowKit

section
variable {H : Type} {enc : TypeId × Value → H} {w : World} {base : Nat} {held : Bool}
theorem tok_leaves : leaves Tryd.prog 8 28 = some [3, 9, 24, 3, 3] := by kernel_rfl
theorem tok_cells : Tryd.prog.cellsOf 28 = 5 := by kernel_rfl
theorem Rd.tok {sp : Nat → Bool} {c : List Value} (h : Rd enc Tryd.prog w base sp held 28 c) : ∃ t : Tok, c = t.cells.toList ∧ t.fits := by
  obtain ⟨hl, hg⟩ := leaves_open 8 _ _ c tok_leaves h
  match c, hl with
  | [c0, c1, c2, c3, c4], _ =>
    obtain ⟨v0, e0, l0⟩ := hg 0 3 rfl
    obtain ⟨v1, e1, l1⟩ := hg 1 9 rfl
    obtain ⟨v2, e2, l2⟩ := hg 2 24 rfl
    obtain ⟨v3, e3, l3⟩ := hg 3 3 rfl
    obtain ⟨v4, e4, l4⟩ := hg 4 3 rfl
    obtain rfl : c0 = v0 := by simpa using e0
    obtain rfl : c1 = v1 := by simpa using e1
    obtain rfl : c2 = v2 := by simpa using e2
    obtain rfl : c3 = v3 := by simpa using e3
    obtain rfl : c4 = v4 := by simpa using e4
    obtain ⟨n0, rfl, _⟩ := l0.int Tryd.underlying3
    obtain ⟨s, rfl, hs⟩ := l1.string Tryd.underlying9
    obtain ⟨n2, rfl, h2⟩ := l2.int Tryd.underlying24
    obtain ⟨n3, rfl, _⟩ := l3.int Tryd.underlying3
    obtain ⟨n4, rfl, _⟩ := l4.int Tryd.underlying3
    simp [Lit.wf, IntKind.min, IntKind.max, IntKind.signed, IntKind.bits] at h2
    exact ⟨⟨⟨n0, s.data.toList, n2⟩, n3, n4⟩, rfl, hs, h2⟩
theorem toks_arg {v : Value} {d : DataW H} {p : List MemPlace} {r : Reach} {b0 : Nat} (hok : Value.okWide Tryd.prog w r b0 22 v)
    (h : DataW.Trod enc Tryd.prog w base (fun _ => true) held 22 v d p) (hs : ∀ n ∈ d.weights Tryd.prog 22, n ≤ reachBytes) : ∃ l, Toks w v l := by
  obtain ⟨L, hr, hc, _⟩ := open_row Tryd.underlying22 (by rw [tok_cells]; omega) hok h hs
  obtain ⟨l, rfl, hl⟩ := map_of (fun t : Tok => t.cells.toList) Tok.fits (fun c h => (hc c h).tok)
  rw [tok_cells] at hr
  exact ⟨l, hr, hl⟩
end
end Go.Proofs.YtmeicjndfblglaaDoor
