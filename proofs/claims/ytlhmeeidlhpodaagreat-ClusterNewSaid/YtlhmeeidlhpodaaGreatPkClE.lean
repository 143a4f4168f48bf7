/- Merged: Wf, CArg. -/
import Derived.Test.YtlhmeeidlhpodaaGreatPkArgs
import Derived.Test.YtlhmeeidlhpodaaGreatPkClB
set_option linter.unusedVariables false
set_option linter.unusedSimpArgs false
set_option linter.unusedSectionVars false
namespace Go.Proofs.YtlhmeeidlhpodaaGreat
section
open Go Go.RowKit
end
section
open Go Go.RowKit Go.ChangeShapes Go.WideShapes
section
variable {H : Type} {enc : TypeId × Value → H} {w : World} {base : Nat} {held : Bool}
theorem five_cells {α : Type} {cs : List α} (h : cs.length = 5) : ∃ a b c d e, cs = [a, b, c, d, e] := by
  match cs, h with
  | [a, b, c, d, e], _ => exact ⟨a, b, c, d, e, rfl⟩
theorem three_cells {α : Type} {cs : List α} (h : cs.length = 3) : ∃ a b c, cs = [a, b, c] := by
  match cs, h with
  | [a, b, c], _ => exact ⟨a, b, c, rfl⟩
theorem cfg_leaves : leaves Tryz.prog 3 25 = some [22, 3, 3, 23, 22] := by kernel_rfl
theorem reg_leaves : leaves Tryz.prog 3 57 = some [3, 3, 4] := by kernel_rfl
theorem i64_of_wf {n : Int} (h : (Lit.int .i64 n).wf = true) : I64 n := by
  simp [Lit.wf, IntKind.min, IntKind.max, IntKind.signed, IntKind.bits] at h
  exact h
theorem ints_leaf {v : Value} (h : Leaf enc Tryz.prog w base (fun _ => true) held 22 v) : ∃ zs : List Int, Row w v 1 (intRows zs) ∧ ∀ z ∈ zs, I64 z := by
  obtain ⟨L, hr, hc, _⟩ := row_of (fun _ => rfl) Tryz.underlying22 (by decide +kernel) h
  obtain ⟨zs, rfl, hzs⟩ := map_of (fun z => [Value.int .i64 z]) I64 (fun c h => by
    obtain ⟨n, rfl, hw⟩ := (hc c h).one_int Tryz.underlying3
    exact ⟨n, rfl, i64_of_wf hw⟩)
  have h3 : Tryz.prog.cellsOf 3 = 1 := by kernel_rfl
  rw [h3] at hr
  exact ⟨zs, hr, hzs⟩
theorem regs_leaf {v : Value} (h : Leaf enc Tryz.prog w base (fun _ => true) held 23 v) : ∃ rs : List Reg, Row w v 3 (regRows rs) ∧ ∀ r ∈ rs, I64 r.1 ∧ I64 r.2.1 := by
  obtain ⟨L, hr, hc, _⟩ := row_of (fun _ => rfl) Tryz.underlying23 (by decide +kernel) h
  obtain ⟨rs, rfl, hrs⟩ := map_of (fun r : Reg => [Value.int .i64 r.1, .int .i64 r.2.1, .bool r.2.2]) (fun r => I64 r.1 ∧ I64 r.2.1) (fun c hcm => by
    obtain ⟨hl, g⟩ := leaves_open 3 57 [3, 3, 4] c reg_leaves (hc c hcm)
    obtain ⟨x, y, z, rfl⟩ := three_cells hl
    obtain ⟨v0, h0, hL0⟩ := g 0 3 rfl
    obtain ⟨v1, h1, hL1⟩ := g 1 3 rfl
    obtain ⟨v2, h2, hL2⟩ := g 2 4 rfl
    obtain ⟨n0, rfl, w0⟩ := hL0.int Tryz.underlying3
    obtain ⟨n1, rfl, w1⟩ := hL1.int Tryz.underlying3
    obtain ⟨b2, rfl⟩ := hL2.bool Tryz.underlying4
    have e0 : x = .int .i64 n0 := by simpa using h0
    have e1 : y = .int .i64 n1 := by simpa using h1
    have e2 : z = .bool b2 := by simpa using h2
    exact ⟨(n0, n1, b2), by rw [e0, e1, e2], i64_of_wf w0, i64_of_wf w1⟩)
  have h3 : Tryz.prog.cellsOf 57 = 3 := by kernel_rfl
  rw [h3] at hr
  exact ⟨rs, hr, hrs⟩
set_option maxRecDepth 100000 in
theorem config_arg {v : Value} {d : DataW H} {p : List MemPlace} {r : Reach} {b0 : Nat} (hok : Value.okWide Tryz.prog w r b0 25 v)
    (h : DataW.Trod enc Tryz.prog w base (fun _ => true) held 25 v d p) (hs : ∀ n ∈ d.weights Tryz.prog 25, n ≤ reachBytes) : ∃ (sw sr so : Value) (c : Cfg), v = .agg #[sw, .int .i64 c.st, .int .i64 c.sl, sr, so] ∧ CfgRd w sw sr so c := by
  obtain ⟨cs, rfl, hsz⟩ := okWide_struct Tryz.underlying25 hok
  obtain ⟨hl, g⟩ := leaves_open 3 25 [22, 3, 3, 23, 22] cs.toList cfg_leaves (Rd.of h hs)
  obtain ⟨x0, x1, x2, x3, x4, hcs⟩ := five_cells hl
  have hc : cs = #[x0, x1, x2, x3, x4] := Array.ext' hcs
  subst hc
  obtain ⟨v0, h0, hL0⟩ := g 0 22 rfl
  obtain ⟨v1, h1, hL1⟩ := g 1 3 rfl
  obtain ⟨v2, h2, hL2⟩ := g 2 3 rfl
  obtain ⟨v3, h3, hL3⟩ := g 3 23 rfl
  obtain ⟨v4, h4, hL4⟩ := g 4 22 rfl
  have e0 : x0 = v0 := Option.some.inj h0
  have e1 : x1 = v1 := Option.some.inj h1
  have e2 : x2 = v2 := Option.some.inj h2
  have e3 : x3 = v3 := Option.some.inj h3
  have e4 : x4 = v4 := Option.some.inj h4
  subst e0 e1 e2 e3 e4
  obtain ⟨ws, r0, _⟩ := ints_leaf hL0
  obtain ⟨n1, rfl, w1⟩ := hL1.int Tryz.underlying3
  obtain ⟨n2, rfl, w2⟩ := hL2.int Tryz.underlying3
  obtain ⟨rs, r3, i3⟩ := regs_leaf hL3
  obtain ⟨os, r4, i4⟩ := ints_leaf hL4
  exact ⟨_, _, _, ⟨ws, n1, n2, rs, os⟩, rfl, ⟨r0, r3, r4, i64_of_wf w1, i64_of_wf w2, i3, i4⟩⟩
end
end
end Go.Proofs.YtlhmeeidlhpodaaGreat
