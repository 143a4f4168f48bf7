/- The reference's table of the instructions. -/
import Derived.Test.YtbllialcfmpkaaaFmt
import Derived.Test.YtbllialcfmpkaaaBlock
set_option linter.unusedVariables false
set_option linter.unusedSimpArgs false
set_option linter.unusedSectionVars false
namespace Go.Proofs.Ytbllialcfmpkaaa
open Go.RowKit

theorem tab_size : (Try.prog.info? 84).map (·.size) = some fmtA.size := by kernel_rfl
theorem tab_one : fmtA.all (·.oneCell') = true := by kernel_rfl
set_option maxRecDepth 100000 in
set_option maxHeartbeats 4000000 in
theorem table_any (w : World) : Calls Try.prog 76 #[] w fun e w' => e = .returned (.agg fmtA) ∧ Below w.heap.size w w' := by
  go_enter Try.func76, Try.ntmps76
  go_wp2_with (refine wpList_store_row rfl 84 (.tmp 0) (.tmp 29) rfl w.heap.size rfl _ _ 84 rfl (blk_new _ _ _) (by kernel_rfl) (by kernel_rfl) (by kernel_rfl) ?_; intro w1 hb ho)
  have hb2 : BlkT w1 w.heap.size fmtA 84 := Eq.trans hb (by kernel_rfl)
  refine bodyPost_ret (v := .agg fmtA) ?_ rfl ⟨rfl, below_only ((Below.refl _ _).alloc (Nat.le_refl _) _) ho (Nat.le_refl _) (by simp)⟩
  exact results_cell_row (p := 0) Try.results76 _ _ w.heap.size 84 fmtA (0, 0) _ rfl hb2 Try.underlying84 rfl tab_size
end Go.Proofs.Ytbllialcfmpkaaa
