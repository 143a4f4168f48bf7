/- What the comparing law needs: the run of the five comparisons. -/
import Derived.Test.YtbllialcfmpkaaaArith0
set_option linter.unusedVariables false
set_option linter.unusedSimpArgs false
set_option linter.unusedSectionVars false
namespace Go.Proofs.Ytbllialcfmpkaaa
open Go.RowKit
def pC : List Ins := [⟨15, 4, 2, 3, 0⟩, ⟨15, 5, 3, 2, 0⟩, ⟨16, 6, 2, 3, 0⟩, ⟨16, 7, 3, 2, 0⟩, ⟨17, 8, 2, 3, 0⟩]
def vmC (W pc b c t4 t5 t6 t7 t8 : Int) : Vm := ⟨W, pc, 0, 0, [0, 0, b, c, t4, t5, t6, t7, t8, 0, 0, 0, 0, 0, 0, 0], Eff.none⟩
def xC (W pc b c t4 t5 t6 t7 t8 : Int) : Array Value := #[.int .i64 W, .int .i64 pc, .int .i64 0, .int .i64 0, .int .u64 0, .int .u64 0, .int .u64 b, .int .u64 c, .int .u64 t4, .int .u64 t5, .int .u64 t6, .int .u64 t7, .int .u64 t8, .int .u64 0, .int .u64 0, .int .u64 0, .int .u64 0, .int .u64 0, .int .u64 0, .int .u64 0,
  .int .i64 0, .int .i64 0, .int .i64 0, .int .u64 0, .int .u64 0]
def xR (b c t4 t5 t6 t7 t8 : Int) : Array Value := #[.int .u64 0, .int .u64 0, .int .u64 b, .int .u64 c, .int .u64 t4, .int .u64 t5, .int .u64 t6, .int .u64 t7, .int .u64 t8, .int .u64 0, .int .u64 0, .int .u64 0, .int .u64 0, .int .u64 0, .int .u64 0, .int .u64 0]
theorem vmC_cells (W pc b c t4 t5 t6 t7 t8 : Int) : (vmC W pc b c t4 t5 t6 t7 t8).cells = xC W pc b c t4 t5 t6 t7 t8 := by kernel_rfl
theorem vmC_0 (W b c : Int) : vmC W 0 b c 0 0 0 0 0 = vmB W 0 0 0 0 b c := rfl
theorem truth_mod (x : Bool) {W : Int} (hw : W = 32 ∨ W = 39) : truth x % pw2 W = truth x := by rcases hw with rfl | rfl <;> cases x <;> rfl
theorem pC_err : progErr pC = 0 := by decide
theorem pC_fits : ∀ x ∈ pC, x.fits := by
  intro x hx
  simp only [pC, List.mem_cons, List.not_mem_nil, or_false] at hx
  rcases hx with rfl | rfl | rfl | rfl | rfl <;> exact ⟨(by decide), (by decide)⟩
theorem stepC (W b c : Int) (hw : W = 32 ∨ W = 39) :
    (∀ t4 t5 t6 t7 t8, stepS (vmC W 0 b c t4 t5 t6 t7 t8) pC = (vmC W 1 b c (truth (decide (signed W b < signed W c))) t5 t6 t7 t8, Eff.none)) ∧
    (∀ t4 t5 t6 t7 t8, stepS (vmC W 1 b c t4 t5 t6 t7 t8) pC = (vmC W 2 b c t4 (truth (decide (signed W c < signed W b))) t6 t7 t8, Eff.none)) ∧
    (∀ t4 t5 t6 t7 t8, stepS (vmC W 2 b c t4 t5 t6 t7 t8) pC = (vmC W 3 b c t4 t5 (truth (decide (b < c))) t7 t8, Eff.none)) ∧
    (∀ t4 t5 t6 t7 t8, stepS (vmC W 3 b c t4 t5 t6 t7 t8) pC = (vmC W 4 b c t4 t5 t6 (truth (decide (c < b))) t8, Eff.none)) ∧
    (∀ t4 t5 t6 t7 t8, stepS (vmC W 4 b c t4 t5 t6 t7 t8) pC = (vmC W 5 b c t4 t5 t6 t7 (truth (decide (b = c))), Eff.none)) := by
  refine ⟨fun t4 t5 t6 t7 t8 => ?_, fun t4 t5 t6 t7 t8 => ?_, fun t4 t5 t6 t7 t8 => ?_, fun t4 t5 t6 t7 t8 => ?_, fun t4 t5 t6 t7 t8 => ?_⟩
  · have h := truth_mod (decide (signed W b < signed W c)) hw
    rw [← h]; rfl
  · have h := truth_mod (decide (signed W c < signed W b)) hw
    rw [← h]; rfl
  · have h := truth_mod (decide (b < c)) hw
    rw [← h]; rfl
  · have h := truth_mod (decide (c < b)) hw
    rw [← h]; rfl
  · have h := truth_mod (decide (b = c)) hw
    rw [← h]; rfl
theorem run_cmp (W b c : Int) (hw : W = 32 ∨ W = 39) (b1 : b < pw2 W) (c1 : c < pw2 W) :
    runRes (vmB W 0 0 0 0 b c) pC 5 = (vmC W 5 b c (truth (decide (signed W b < signed W c))) (truth (decide (signed W c < signed W b))) (truth (decide (b < c))) (truth (decide (c < b))) (truth (decide (b = c))), 5, Eff.none, 0) := by
  have hc : checkE (vmB W 0 0 0 0 b c) pC (betw 5) = 0 := by
    unfold checkE
    rw [vmB_ok hw b1 c1, pC_err]
    rfl
  rw [runRes_ok hc, ← vmC_0]
  obtain ⟨h0, h1, h2, h3, h4⟩ := stepC W b c hw
  rw [show Int.toNat 5 = 5 from rfl]
  simp only [runF_go (s := (vmC W 0 b c 0 0 0 0 0, Eff.none)) rfl, h0, runF_go (s := (_, Eff.none)) rfl, h1, h2, h3, h4]
  rfl
theorem Run_cmp (W b c : Int) (g : Nat) (w : World) (hw : W = 32 ∨ W = 39) (b0 : 0 ≤ b) (b1 : b < pw2 W) (c0 : 0 ≤ c) (c1 : c < pw2 W) (h : BlkT w g (cellsOf pC) 29) :
    Calls Try.prog 16 #[.agg (xA W 0 0 0 0 b c), .slice (some ⟨g, 0, none⟩) 5 5, .int .i64 5] w fun e w' => e = .returned (.tuple #[.agg (xC W 5 b c (truth (decide (signed W b < signed W c))) (truth (decide (signed W c < signed W b))) (truth (decide (b < c))) (truth (decide (c < b))) (truth (decide (b = c)))), .int .i64 5, .agg Eff.none.cells, .int .i64 0]) ∧ Below w.heap.size w w' := by
  have hp := (pw2_pos W).2
  have := Run_any (vmB W 0 0 0 0 b c) _ pC 5 w (vmB_typed (by decide) (by decide) b0 (by omega) c0 (by omega)) (Instrs.of_blk h (by decide) (by decide) pC_fits)
  rw [run_cmp W b c hw b1 c1, vmB_cells] at this
  rw [← vmC_cells]
  exact this
end Go.Proofs.Ytbllialcfmpkaaa
