/- The reference's step. -/
import Derived.Test.YtbllialcfmpkaaaCompute
import Derived.StillTailTactics
set_option linter.unusedVariables false
set_option linter.unusedSimpArgs false
set_option linter.unusedSectionVars false
namespace Go.Proofs.Ytbllialcfmpkaaa
open Go.RowKit
def stepVal2 (r : Vm × Eff) : Value := .tuple #[.agg r.1.cells, .agg r.2.cells]
theorem PS.range {w : World} {g off i : Nat} {p : List Ins} {x : Ins} (h : PS w g off p) (hx : p[i]? = some x) : w.rangeAt g (off + i * 5) x.cells.toList := fun j v hj => by
  obtain ⟨h0, h1, h2, h3, h4⟩ := h.2 i x hx
  have hj' : x.cells[j]? = some v := by simpa using hj
  have hl : j < 5 := (Array.getElem?_eq_some_iff.1 hj').1
  have h5 : j = 0 ∨ j = 1 ∨ j = 2 ∨ j = 3 ∨ j = 4 := by omega
  rcases h5 with rfl | rfl | rfl | rfl | rfl
  · exact h0.trans hj'
  · exact h1.trans hj'
  · exact h2.trans hj'
  · exact h3.trans hj'
  · exact h4.trans hj'
theorem imm_mask (i wd : Int) (hw : wd = 32 ∨ wd = 39) : bits BinOp.and IntKind.u64 (IntKind.u64.wrap i) (pw2 wd - 1) = i % pw2 wd := by
  have h := wrap_u64_bd i
  rcases hw with rfl | rfl
  · rw [show pw2 32 - 1 = 4294967295 from rfl, mask32 _ h.1 h.2, show (4294967296 : Int) = pw2 32 from rfl, wrap_mod _ _ (.inl rfl)]
  · rw [show pw2 39 - 1 = 549755813887 from rfl, mask39 _ h.1 h.2, show (549755813888 : Int) = pw2 39 from rfl, wrap_mod _ _ (.inr rfl)]

theorem Vm.cells_size (v : Vm) : v.cells.size = 25 := rfl
theorem cells_reg2 (v : Vm) (i : Nat) (A B : Int) (hl : v.regs.length = 16) (hi : i < 16) :
    (v.cells.setIfInBounds 1 (.int .i64 A)).setIfInBounds (4 + i) (.int .u64 B) = { v.setR i B with pc := A : Vm }.cells := by
  rw [show v.cells.setIfInBounds 1 (.int .i64 A) = { v with pc := A : Vm }.cells from rfl, Vm.cells_set ({ v with pc := A }) i B hl hi]
  rfl
theorem cells_jal (v : Vm) (i : Nat) (A B C : Int) (hl : v.regs.length = 16) (hi : i < 16) :
    ((v.cells.setIfInBounds 1 (.int .i64 A)).setIfInBounds (4 + i) (.int .u64 B)).setIfInBounds 1 (.int .i64 C) = { v.setR i B with pc := C : Vm }.cells := by
  rw [show v.cells.setIfInBounds 1 (.int .i64 A) = { v with pc := A : Vm }.cells from rfl, Vm.cells_set ({ v with pc := A }) i B hl hi]
  rfl
theorem any_mask (r wd : Int) (hw : wd = 32 ∨ wd = 39) (h0 : 0 ≤ r) (h1 : r ≤ 18446744073709551615) : bits BinOp.and IntKind.u64 r (pw2 wd - 1) = r % pw2 wd := by
  rcases hw with rfl | rfl
  · exact mask32 _ h0 h1
  · exact mask39 _ h0 h1
theorem addr_mask (b i wd : Int) (hw : wd = 32 ∨ wd = 39) (h0 : 0 ≤ b) (h1 : b < 549755813888) : bits BinOp.and IntKind.u64 (b + i % pw2 wd) (pw2 wd - 1) = (b + i) % pw2 wd := by
  rcases hw with rfl | rfl
  · have e : pw2 32 = 4294967296 := rfl
    rw [e, show (4294967296 : Int) - 1 = 4294967295 from rfl, mask32 _ (by omega) (by omega)]; omega
  · have e : pw2 39 = 549755813888 := rfl
    rw [e, show (549755813888 : Int) - 1 = 549755813887 from rfl, mask39 _ (by omega) (by omega)]; omega

end Go.Proofs.Ytbllialcfmpkaaa
