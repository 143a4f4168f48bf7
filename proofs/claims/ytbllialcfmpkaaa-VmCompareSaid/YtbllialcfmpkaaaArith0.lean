/- What the arithmetic law needs: the step of one arithmetic instruction. -/
import Derived.Test.YtbllialcfmpkaaaAwakeVm
set_option linter.unusedVariables false
set_option linter.unusedSimpArgs false
set_option linter.unusedSectionVars false
namespace Go.Proofs.Ytbllialcfmpkaaa
open Go.RowKit
def vmB (W pc st ca r b c : Int) : Vm := ⟨W, pc, st, ca, [0, r, b, c, 0, 0, 0, 0, 0, 0, 0, 0, 0, 0, 0, 0], Eff.none⟩
def xA (W pc st ca r b c : Int) : Array Value := #[.int .i64 W, .int .i64 pc, .int .i64 st, .int .i64 ca, .int .u64 0, .int .u64 r, .int .u64 b, .int .u64 c, .int .u64 0, .int .u64 0, .int .u64 0, .int .u64 0, .int .u64 0, .int .u64 0, .int .u64 0, .int .u64 0, .int .u64 0, .int .u64 0, .int .u64 0, .int .u64 0,
  .int .i64 0, .int .i64 0, .int .i64 0, .int .u64 0, .int .u64 0]
theorem vmB_cells (W pc st ca r b c : Int) : (vmB W pc st ca r b c).cells = xA W pc st ca r b c := by kernel_rfl
theorem vmB_typed {W pc st ca r b c : Int} (r0 : 0 ≤ r) (r1 : r ≤ 18446744073709551615) (b0 : 0 ≤ b) (b1 : b ≤ 18446744073709551615) (c0 : 0 ≤ c) (c1 : c ≤ 18446744073709551615) : (vmB W pc st ca r b c).typed := by
  refine ⟨rfl, fun i => ?_, (by show (0 : Int) ≤ 0 ∧ (0 : Int) ≤ 18446744073709551615; decide), (by show (0 : Int) ≤ 0 ∧ (0 : Int) ≤ 18446744073709551615; decide)⟩
  rcases Nat.lt_or_ge i 16 with hi | hi
  · have h16 : i = 0 ∨ i = 1 ∨ i = 2 ∨ i = 3 ∨ i = 4 ∨ i = 5 ∨ i = 6 ∨ i = 7 ∨ i = 8 ∨ i = 9 ∨ i = 10 ∨ i = 11 ∨ i = 12 ∨ i = 13 ∨ i = 14 ∨ i = 15 := by omega
    rcases h16 with rfl | rfl | rfl | rfl | rfl | rfl | rfl | rfl | rfl | rfl | rfl | rfl | rfl | rfl | rfl | rfl
    case inr.inl => exact ⟨r0, r1⟩
    case inr.inr.inl => exact ⟨b0, b1⟩
    case inr.inr.inr.inl => exact ⟨c0, c1⟩
    all_goals exact ⟨Int.le_refl _, (by show (0 : Int) ≤ 18446744073709551615; decide)⟩
  · rw [Vm.r_out _ rfl i hi]; decide
def pK (k : Int) : List Ins := [⟨k, 1, 2, 3, 0⟩]
theorem pK_err (k : Int) (h0 : 4 ≤ k) (h1 : k ≤ 13) : progErr (pK k) = 0 := by
  have hk : k = 4 ∨ k = 5 ∨ k = 6 ∨ k = 7 ∨ k = 8 ∨ k = 9 ∨ k = 10 ∨ k = 11 ∨ k = 12 ∨ k = 13 := by omega
  rcases hk with rfl | rfl | rfl | rfl | rfl | rfl | rfl | rfl | rfl | rfl <;> decide
theorem pK_fits (k : Int) (h0 : 4 ≤ k) (h1 : k ≤ 13) : ∀ x ∈ pK k, x.fits := by
  intro x hx
  simp [pK] at hx
  subst hx
  refine ⟨by show (-2147483648 : Int) ≤ 0 ∧ (0 : Int) ≤ 2147483647; decide, ?_⟩
  show (-9223372036854775808 : Int) ≤ k ∧ k ≤ 9223372036854775807
  omega
theorem vmB_ok {W b c : Int} (hw : W = 32 ∨ W = 39) (b1 : b < pw2 W) (c1 : c < pw2 W) : (vmB W 0 0 0 0 b c).ok = true := by
  have hp := (pw2_pos W).1
  have hwd : wide W = true := by rcases hw with rfl | rfl <;> rfl
  unfold Vm.ok
  simp only [vmB]
  rw [hwd]
  simp [List.all_cons, hp, b1, c1, Eff.isNone, Eff.none]
theorem check_arith {W b c k : Int} (hw : W = 32 ∨ W = 39) (b1 : b < pw2 W) (c1 : c < pw2 W) (h0 : 4 ≤ k) (h1 : k ≤ 13) : checkE (vmB W 0 0 0 0 b c) (pK k) 0 = 0 := by
  unfold checkE
  rw [vmB_ok hw b1 c1, pK_err k h0 h1]
  rfl
theorem step_arith {W b c k : Int} (hw : W = 32 ∨ W = 39) (b1 : b < pw2 W) (c1 : c < pw2 W) (h0 : 4 ≤ k) (h1 : k ≤ 13) (hz : ¬ ((k = 7 ∨ k = 8) ∧ c = 0)) :
    stepRes (vmB W 0 0 0 0 b c) (pK k) = (vmB W 1 0 0 (compute W k 0 b c 0 % pw2 W) b c, Eff.none, 0) := by
  rw [stepRes_ok (check_arith hw b1 c1 h0 h1)]
  have hp : (pK k)[((vmB W 0 0 0 0 b c).pc).toNat]? = some ⟨k, 1, 2, 3, 0⟩ := rfl
  unfold stepS
  rw [hp]
  have e : stepI (vmB W 0 0 0 0 b c) ⟨k, 1, 2, 3, 0⟩ (pK k).length = (vmB W 1 0 0 (compute W k 0 b c 0 % pw2 W) b c, Eff.none) := by
    unfold stepI
    simp only
    rw [if_neg (show ¬ k = 0 by omega), if_neg (show ¬ k = 18 by omega), if_neg (show ¬ k = 19 by omega), if_neg (show ¬ k = 20 by omega), if_neg (show ¬ k = 21 by omega), if_neg (show ¬ k = 22 by omega), if_neg (show ¬ k = 23 by omega), if_neg (show ¬ k = 24 by omega), if_neg (show ¬ k = 25 by omega), if_neg (show ¬ k = 26 by omega), if_neg (show ¬ k = 27 by omega), if_neg (by exact hz)]
    rw [show (0 : Int) % pw2 (vmB W 0 0 0 0 b c).width = 0 from Int.zero_emod _]
    rfl
  show ((stepI (vmB W 0 0 0 0 b c) ⟨k, 1, 2, 3, 0⟩ (pK k).length).1, (stepI (vmB W 0 0 0 0 b c) ⟨k, 1, 2, 3, 0⟩ (pK k).length).2, (0 : Int)) = _
  rw [e]
theorem step_arith0 {W b k : Int} (hw : W = 32 ∨ W = 39) (b1 : b < pw2 W) (hk : k = 7 ∨ k = 8) :
    stepRes (vmB W 0 0 0 0 b 0) (pK k) = (vmB W 0 3 1 0 b 0, ⟨6, 0, 1, 0, 0⟩, 0) := by
  rw [stepRes_ok (check_arith hw b1 (pw2_pos W).1 (by omega) (by omega))]
  rcases hk with rfl | rfl <;> rfl
theorem Step_arith (W b c k r : Int) (g : Nat) (w : World) (hw : W = 32 ∨ W = 39) (b0 : 0 ≤ b) (b1 : b < pw2 W) (c0 : 0 ≤ c) (c1 : c < pw2 W) (h0 : 4 ≤ k) (h1 : k ≤ 13) (hz : ¬ ((k = 7 ∨ k = 8) ∧ c = 0)) (hr : r = compute W k 0 b c 0 % pw2 W) (h : BlkT w g (cellsOf (pK k)) 29) :
    Calls Try.prog 13 #[.agg (xA W 0 0 0 0 b c), .slice (some ⟨g, 0, none⟩) 1 1] w fun e w' => e = .returned (.tuple #[.agg (xA W 1 0 0 r b c), .agg Eff.none.cells, .int .i64 0]) ∧ Below w.heap.size w w' := by
  have hp := (pw2_pos W).2
  have := Step_any (vmB W 0 0 0 0 b c) _ (pK k) w (vmB_typed (by decide) (by decide) b0 (by omega) c0 (by omega)) (Instrs.of_blk h (by show 0 < 1; decide) (by show 1 ≤ 100; decide) (pK_fits k h0 h1))
  rw [step_arith hw b1 c1 h0 h1 hz, vmB_cells, ← hr] at this
  rw [← vmB_cells W 1 0 0 r b c]
  exact this
theorem Step_arith0 (W b k : Int) (g : Nat) (w : World) (hw : W = 32 ∨ W = 39) (b0 : 0 ≤ b) (b1 : b < pw2 W) (hk : k = 7 ∨ k = 8) (h : BlkT w g (cellsOf (pK k)) 29) :
    Calls Try.prog 13 #[.agg (xA W 0 0 0 0 b 0), .slice (some ⟨g, 0, none⟩) 1 1] w fun e w' => e = .returned (.tuple #[.agg (xA W 0 3 1 0 b 0), .agg (⟨6, 0, 1, 0, 0⟩ : Eff).cells, .int .i64 0]) ∧ Below w.heap.size w w' := by
  have hp := (pw2_pos W).2
  have := Step_any (vmB W 0 0 0 0 b 0) _ (pK k) w (vmB_typed (by decide) (by decide) b0 (by omega) (by decide) (by decide)) (Instrs.of_blk h (by show 0 < 1; decide) (by show 1 ≤ 100; decide) (pK_fits k (by omega) (by omega)))
  rw [step_arith0 hw b1 hk, vmB_cells] at this
  rw [← vmB_cells W 0 3 1 0 b 0]
  exact this
end Go.Proofs.Ytbllialcfmpkaaa
