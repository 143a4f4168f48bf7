/- slices.Collect at ints (laid by the shelf's tool, in plain words); slices.Sorted of slices.Values of a nil slice. -/
import Derived.Shelf.SlIterI.Collect
import Derived.Ground.GgzProg
import Derived.Test.YtpjejaoobbancaaPkVNext
set_option linter.unusedVariables false
set_option linter.unusedSimpArgs false
set_option linter.unusedSectionVars false
namespace Go.Proofs.Ytpjejaoobbancaa
open Go.RowKit Go.BigFrame Go.Maps Go.Sort Go.Shelf

theorem insSort_nil (w : World) : Calls Try.prog 82 #[.slice none 0 0, .int .i64 0, .int .i64 0] w fun e w' => e = .returned (.tuple #[]) ∧ w = w' := by
  go_enter Try.func82, Try.ntmps82
  go_wp2
  go_loop [6] (fun i => i = .int .i64 1) (fun _ => 0)
  case atStart => rfl
  case round =>
    subst hrel
    go_wp2
    first | go_end0 | refine bodyPost_ret (results_none rfl _ _ _) rfl ?_
    exact ⟨rfl, rfl⟩
theorem pdq_nil (n : Nat) (h1 : 1 ≤ n) (w : World) : CallsIn Fence.wide n Try.prog 73 #[.slice none 0 0, .int .i64 0, .int .i64 0, .int .i64 0] w fun e w' => e = .returned (.tuple #[]) ∧ w = w' := by
  refine callsIn_of_wp Try.func73 rfl trivial ?_ rfl
  simp only [Try.ntmps73, List.size_toArray, List.length_cons, List.length_nil, Nat.reduceAdd, Nat.reduceSub, Array.replicate_succ, Array.replicate_zero, List.push_toArray, List.append_toArray, List.nil_append, List.cons_append]
  gi_wp2
  refine wpIn_loop_rounds 1 ?_
  rw [roundsIn_succ]
  have hfw : Fence.wide.fn 82 := trivial
  gi_wp2_with (gi_at_call 82; refine (callsIn_wide.2 (insSort_nil _)).mono ?_; rintro e wx ⟨rfl, rfl⟩)
  refine bodyPost_ret (results_none rfl _ _ _) rfl ?_
  exact ⟨rfl, rfl⟩
set_option maxRecDepth 100000 in
theorem len64_zero (w : World) : Calls Try.prog 91 #[.int .u64 0] w fun e w' => e = .returned (.int .i64 0) ∧ w = w' := by
  go_enter Try.func91, Try.ntmps91
  go_wp2
  go_ret
  refine ⟨?_, ?_⟩

  all_goals kernel_rfl
theorem len_zero (w : World) : Calls Try.prog 74 #[.int .u64 0] w fun e w' => e = .returned (.int .i64 0) ∧ w = w' := by
  go_enter Try.func74, Try.ntmps74
  go_wp2_with (go_at_call 91; refine (len64_zero _).mono ?_; rintro e wx ⟨rfl, rfl⟩)
  go_ret
  exact ⟨rfl, rfl⟩
theorem sort_nil (w : World) : Calls Try.prog 58 #[.slice none 0 0] w fun e w' => e = .returned (.tuple #[]) ∧ w = w' := by
  go_enter Try.func58, Try.ntmps58
  go_wp2_with (first | (go_at_call 74; refine (len_zero _).mono ?_; rintro e wx ⟨rfl, rfl⟩) | (go_at_call 73; refine ((callsIn_wide (n := 1)).1 (pdq_nil 1 (Nat.le_refl _) _)).mono ?_; rintro e wx ⟨rfl, rfl⟩))
  first | go_end0 | refine bodyPost_ret (results_none rfl _ _ _) rfl ?_
  exact ⟨rfl, rfl⟩
end Go.Proofs.Ytpjejaoobbancaa
