/- Merged: KAwake, KF1. -/
import Derived.Test.YtphocbncjanohaaGreatPkEngH
import Derived.Test.YtphocbncjanohaaGreatProg
import Derived.Test.YtphocbncjanohaaGreatPkKernA
set_option linter.unusedVariables false
set_option linter.unusedSimpArgs false
set_option linter.unusedSectionVars false
namespace Go.Proofs.YtphocbncjanohaaGreat
section
open Go Go.RowKit Go.BigFrame
set_option maxRecDepth 100000
theorem hN : NoNum Tryz.prog := noNum_of (by kernel_rfl)
theorem hmix : Tryz.prog.follows .mixedOrders = true := by kernel_rfl
noncomputable def runA : Fns := runF Tryz.prog hN 0 3000 (fun _ => none) 60
theorem awake_run : runA 12 [] st0 isTrue = true := by kernel_rfl
theorem awake27 (w : World) : Calls Tryz.prog 12 #[] w fun e w' => e = .returned (.bool true) ∧ Below w.heap.size w w' :=
  calls_true (runF_ok hN hmix (fun _ _ h => by cases h) 60) awake_run w
end
section
open Go Go.RowKit Go.BigFrame
noncomputable def nilX : V := .oth (.slice none 0 0)
/-- What the kernel (block kp) answers while it is in no view. -/
noncomputable def busyX (op : Nat) : X := .cons (.sc (.int .i64 op)) (.cons (.agg [.int .i64 4, .int .i64 0, .int .i64 0, .int .i64 0, .int .i64 0, .int .i64 0, .int .i64 0, .bool false, .int .i64 0]) (.cons (.sc (.bool true)) (.cons (.agg [nilX, nilX, nilX, nilX]) .nil)))
noncomputable def guessKC (kp : Nat) (keep : List Nat) : Guess := fun _ st => match get st.H kp with
  | .cells d n t T => match get t 6 with
    | .int .i64 op => some (busyX (Nat.add op 1), (kp, .cells d n (set 6 (.int .i64 (Nat.add op 1)) t) T) :: keepL keep st.H, Nat.add st.n 40)
    | _ => none
  | _ => none
noncomputable def hook1 (keep : List Nat) : List (FuncId × FnC) := [(14, placeU (fnK hN 14)), (7, callK hN 12 keep), (12, trueC)]
noncomputable def run1 (keep : List Nat) : Fns := runF Tryz.prog hN 0 200 (look (hook1 keep)) 40
noncomputable def hookL (kp : Nat) (keep keep2 : List Nat) : List (FuncId × FnP) := (8, mergeP (guessKC kp keep2) (fnKP hN 8)) :: (hook1 keep).map fun q => (q.1, liftP q.2)
noncomputable def runL (kp : Nat) (keep keep2 : List Nat) : Fns := runP Tryz.prog hN 0 200 (run1 keep) (look (hookL kp keep keep2)) 40
theorem call_ok1 (keep : List Nat) : FnOk Tryz.prog 0 7 (callK hN 12 keep) := callK_ok hN hmix 12 keep
theorem hook1_ok (keep : List Nat) : ∀ q ∈ hook1 keep, FnOk Tryz.prog 0 q.1 q.2 := by
  intro q hq
  unfold hook1 at hq
  rcases List.mem_cons.1 hq with h | hq
  · have h2 := placeU_ok (fnK_ok hN hmix 14)
    rw [h]
    exact h2
  · rcases List.mem_cons.1 hq with h | hq
    · have h2 := call_ok1 keep
      generalize callK hN 12 keep = c at h h2
      rw [h]
      exact h2
    · rcases List.mem_cons.1 hq with h | hq
      · have h2 := trueC_ok (G := 0) awake27
        rw [h]
        exact h2
      · cases hq
theorem runL_ok (kp : Nat) (keep keep2 : List Nat) : FnsOkP Tryz.prog 0 (runL kp keep keep2) := runP_ok hN hmix (runF_ok hN hmix (look_ok (hook1_ok keep)) 40) (look_ok (fun q hq => by
  unfold hookL at hq
  rcases List.mem_cons.1 hq with rfl | hq
  · exact mergeP_ok (fnKP_ok hN hmix _) _
  · obtain ⟨p, hp, rfl⟩ := List.mem_map.1 hq
    exact liftP_ok (hook1_ok keep p hp))) 40
noncomputable def outArgs : List X := [symSX 0 0 9, .agg (List.replicate 12 anyI64)]
end
end Go.Proofs.YtphocbncjanohaaGreat
