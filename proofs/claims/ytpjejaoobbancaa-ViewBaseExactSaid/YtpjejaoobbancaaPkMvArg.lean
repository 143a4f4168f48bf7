/- An argument that is a slice of moves. -/
import Derived.Test.YtpjejaoobbancaaPkVNextM
import Derived.Test.YtpjejaoobbancaaPkArgs
import Derived.Test.YtpjejaoobbancaaPkEvG
set_option linter.unusedVariables false
set_option linter.unusedSimpArgs false
set_option linter.unusedSectionVars false
namespace Go.Proofs.Ytpjejaoobbancaa
open Go Go.RowKit Go.ChangeShapes Go.WideShapes
section
variable {H : Type} {enc : TypeId × Value → H} {w : World} {base : Nat} {held : Bool}
theorem two_cells {α : Type} {cs : List α} (h : cs.length = 2) : ∃ a b, cs = [a, b] := by
  match cs, h with
  | [a, b], _ => exact ⟨a, b, rfl⟩
theorem mv_leaves : leaves Try.prog 3 84 = some [3, 3] := by kernel_rfl
set_option maxRecDepth 100000 in
theorem moves_arg {v : Value} {d : DataW H} {p : List MemPlace} {r : Reach} {b0 : Nat} (hok : Value.okWide Try.prog w r b0 42 v)
    (h : DataW.Trod enc Try.prog w base (fun _ => true) held 42 v d p) (hs : ∀ n ∈ d.weights Try.prog 42, n ≤ reachBytes) : ∃ q : List (Int × Int), Row w v 2 (mvRows q) := by
  obtain ⟨L, hr, hc, _⟩ := open_row Try.underlying42 (by decide +kernel) hok h hs
  obtain ⟨q, rfl, _⟩ := map_of (fun x : Int × Int => [Value.int .i64 x.1, .int .i64 x.2]) (fun _ => True) (fun c hcm => by
    obtain ⟨hl, g⟩ := leaves_open 3 84 [3, 3] c mv_leaves (hc c hcm)
    obtain ⟨x, y, rfl⟩ := two_cells hl
    obtain ⟨v0, h0, hL0⟩ := g 0 3 rfl
    obtain ⟨v1, h1, hL1⟩ := g 1 3 rfl
    obtain ⟨n0, rfl, _⟩ := hL0.int Try.underlying3
    obtain ⟨n1, rfl, _⟩ := hL1.int Try.underlying3
    have e0 : x = .int .i64 n0 := by simpa using h0
    have e1 : y = .int .i64 n1 := by simpa using h1
    exact ⟨(n0, n1), by rw [e0, e1], trivial⟩)
  have h3 : Try.prog.cellsOf 84 = 2 := by kernel_rfl
  rw [h3] at hr
  exact ⟨q, hr⟩
end
end Go.Proofs.Ytpjejaoobbancaa
