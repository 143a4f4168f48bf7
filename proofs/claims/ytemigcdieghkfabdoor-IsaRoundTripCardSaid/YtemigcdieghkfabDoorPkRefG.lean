/- Merged: RefTab, RefVal. -/
import Derived.Test.YtemigcdieghkfabDoorPkValidG
import Derived.Test.YtemigcdieghkfabDoorPkBlockG
import Derived.Deep.QuietTactic
import Derived.BigQuiet
set_option linter.unusedVariables false
set_option linter.unusedSimpArgs false
set_option linter.unusedSectionVars false
namespace Go.Proofs.YtemigcdieghkfabDoor
section
open Go.RowKit

theorem tab_size : (Tryd.prog.info? 117).map (·.size) = some fmtA.size := by kernel_rfl
set_option maxRecDepth 100000 in
set_option maxHeartbeats 4000000 in
theorem table_any (w : World) : Calls Tryd.prog 67 #[] w fun e w' => e = .returned (.agg fmtA) ∧ Below w.heap.size w w' := by
  go_enter Tryd.func67, Tryd.ntmps67
  go_wp2_with (refine wpList_store_row rfl 117 (.tmp 0) (.tmp 29) rfl w.heap.size rfl _ _ 117 rfl (blk_new _ _ _) (by kernel_rfl) (by kernel_rfl) (by kernel_rfl) ?_; intro w1 hb ho)
  have hb2 : BlkT w1 w.heap.size fmtA 117 := Eq.trans hb (by kernel_rfl)
  refine bodyPost_ret (v := .agg fmtA) ?_ rfl ⟨rfl, below_only ((Below.refl _ _).alloc (Nat.le_refl _) _) ho (Nat.le_refl _) (by simp)⟩
  exact results_cell_row (p := 0) Tryd.results67 _ _ w.heap.size 117 fmtA (0, 0) _ rfl hb2 Tryd.underlying117 rfl tab_size
end
section
open Go.RowKit

theorem index_any (op : Int) (h0 : 0 ≤ op) (h1 : op ≤ 27) (w : World) :
    Sem.run Tryd.prog (Instr.index 117 (.agg fmtA) (.int .i64 op)) w = .ok (.agg #[.string (str (mnemOf op)), .string (str (operandsOf op))]) w := by
  have ho : op = 0 ∨ op = 1 ∨ op = 2 ∨ op = 3 ∨ op = 4 ∨ op = 5 ∨ op = 6 ∨ op = 7 ∨ op = 8 ∨ op = 9 ∨ op = 10 ∨ op = 11 ∨ op = 12 ∨ op = 13 ∨ op = 14 ∨ op = 15 ∨ op = 16 ∨ op = 17 ∨ op = 18 ∨ op = 19 ∨ op = 20 ∨ op = 21 ∨ op = 22 ∨ op = 23 ∨ op = 24 ∨ op = 25 ∨ op = 26 ∨ op = 27 := by omega
  rcases ho with rfl | rfl | rfl | rfl | rfl | rfl | rfl | rfl | rfl | rfl | rfl | rfl | rfl | rfl | rfl | rfl | rfl | rfl | rfl | rfl | rfl | rfl | rfl | rfl | rfl | rfl | rfl | rfl <;> (refine Eq.trans (b := Result.ok (.agg #[.string (str (mnemOf _)), .string (str (operandsOf _))]) w) ?_ rfl; kernel_rfl)
theorem index2_any (a b : ByteArray) (w : World) : Sem.run Tryd.prog (Instr.index 116 (.agg #[.string a, .string b]) (.int .i64 1)) w = .ok (.string b) w := by kernel_rfl
set_option maxRecDepth 100000 in
theorem Operands_any (op : Int) (w : World) (h0 : 0 ≤ op) (h1 : op ≤ 27) :
    Calls Tryd.prog 41 #[.int .i64 op] w fun e w' => e = .returned (.string (str (operandsOf op))) ∧ Below w.heap.size w w' := by
  have hi := Lib.hid (index_any op h0 h1)
  go_enter Tryd.func41, Tryd.ntmps41
  go_wp2_with fail
  refine (table_any _).mono ?_
  rintro e w1 ⟨rfl, hb⟩
  generalize hf : fmtA = fa
  have hi2 := hi.out
  rw [hf] at hi2
  clear hi
  clear hf
  have hj := index2_any (str (mnemOf op)) (str (operandsOf op))
  go_wp2
  go_ret
  exact ⟨rfl, hb⟩
theorem operands_len (op : Int) (h0 : 0 ≤ op) (h1 : op ≤ 27) : (operandsOf op).length ≤ 3 := by
  unfold operandsOf
  have ho : op = 0 ∨ op = 1 ∨ op = 2 ∨ op = 3 ∨ op = 4 ∨ op = 5 ∨ op = 6 ∨ op = 7 ∨ op = 8 ∨ op = 9 ∨ op = 10 ∨ op = 11 ∨ op = 12 ∨ op = 13 ∨ op = 14 ∨ op = 15 ∨ op = 16 ∨ op = 17 ∨ op = 18 ∨ op = 19 ∨ op = 20 ∨ op = 21 ∨ op = 22 ∨ op = 23 ∨ op = 24 ∨ op = 25 ∨ op = 26 ∨ op = 27 := by omega
  rcases ho with rfl | rfl | rfl | rfl | rfl | rfl | rfl | rfl | rfl | rfl | rfl | rfl | rfl | rfl | rfl | rfl | rfl | rfl | rfl | rfl | rfl | rfl | rfl | rfl | rfl | rfl | rfl | rfl <;> decide
end
end Go.Proofs.YtemigcdieghkfabDoor
