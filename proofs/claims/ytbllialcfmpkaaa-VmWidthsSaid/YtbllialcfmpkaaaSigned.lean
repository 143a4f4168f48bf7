/- Widths, masks and signed numbers, in both packages. -/
import Derived.Test.YtbllialcfmpkaaaMach
set_option linter.unusedVariables false
set_option linter.unusedSimpArgs false
set_option linter.unusedSectionVars false
namespace Go.Proofs.Ytbllialcfmpkaaa
open Go.RowKit

theorem validWidth_any (n : Int) (w : World) : Calls Try.prog 33 #[.int .i64 n] w fun e w' => e = .returned (.bool (wide n)) ∧ w = w' := by
  go_enter Try.func33, Try.ntmps33
  go_wp2
  all_goals (go_ret; refine ⟨ret_bool (Bool.eq_iff_iff.2 ?_), rfl⟩; simp [wide]; try omega)
theorem wide_any (n : Int) (w : World) : Calls Try.prog 41 #[.int .i64 n] w fun e w' => e = .returned (.bool (wide n)) ∧ w = w' := by
  go_enter Try.func41, Try.ntmps41
  go_wp2
  all_goals (go_ret; refine ⟨ret_bool (Bool.eq_iff_iff.2 ?_), rfl⟩; simp [wide]; try omega)
theorem wide_iff (n : Int) : wide n = true ↔ n = 32 ∨ n = 39 := by simp [wide]
theorem mask_any (n : Int) (w : World) (h : n = 32 ∨ n = 39) : Calls Try.prog 40 #[.int .i64 n] w fun e w' => e = .returned (.int .u64 (pw2 n - 1)) ∧ w = w' := by
  rcases h with rfl | rfl
  all_goals
    go_enter Try.func40, Try.ntmps40
    go_wp2
    go_ret
    exact ⟨rfl, rfl⟩
theorem truth_any (b : Bool) (w : World) : Calls Try.prog 92 #[.bool b] w fun e w' => e = .returned (.int .u64 (truth b)) ∧ w = w' := by
  cases b
  all_goals
    go_enter Try.func92, Try.ntmps92
    go_wp2
    go_ret
    exact ⟨rfl, rfl⟩
theorem signed32 (v : Int) : wrap64 (IntKind.u64.wrap (v * 4294967296)) / 4294967296 = signed 32 v := by
  unfold wrap64
  rw [IntKind.wrap_u64]
  unfold signed
  rw [show wide 32 = true from rfl, if_pos rfl, show pw2 32 = 4294967296 from rfl]
  split <;> omega
theorem signed39 (v : Int) : wrap64 (IntKind.u64.wrap (v * 33554432)) / 33554432 = signed 39 v := by
  unfold wrap64
  rw [IntKind.wrap_u64]
  unfold signed
  rw [show wide 39 = true from rfl, if_pos rfl, show pw2 39 = 549755813888 from rfl]
  split <;> omega
theorem signed_no {n v : Int} (h : wide n = false) : signed n v = 0 := by unfold signed; rw [h]; rfl
theorem Signed_any (n v : Int) (w : World) (_h0 : 0 ≤ v) (_h1 : v ≤ 18446744073709551615) :
    Calls Try.prog 14 #[.int .i64 n, .int .u64 v] w fun e w' => e = .returned (.int .i64 (signed n v)) ∧ w = w' := by
  rcases Bool.eq_false_or_eq_true (wide n) with h | h
  · rcases (wide_iff n).1 h with rfl | rfl
    · have hs := Lib.hid (signed32 v)
      go_enter Try.func14, Try.ntmps14
      go_wp2_with (go_at_call 33; refine (validWidth_any _ _).mono ?_; rintro e w' ⟨rfl, rfl⟩)
      go_ret
      exact ⟨ret_int hs.out, rfl⟩
    · have hs := Lib.hid (signed39 v)
      go_enter Try.func14, Try.ntmps14
      go_wp2_with (go_at_call 33; refine (validWidth_any _ _).mono ?_; rintro e w' ⟨rfl, rfl⟩)
      go_ret
      exact ⟨ret_int hs.out, rfl⟩
  · have hs := Lib.hid (signed_no (v := v) h)
    go_enter Try.func14, Try.ntmps14
    go_wp2_with (go_at_call 33; refine (validWidth_any _ _).mono ?_; rintro e w' ⟨rfl, rfl⟩)
    go_ret
    exact ⟨ret_int hs.out.symm, rfl⟩
end Go.Proofs.Ytbllialcfmpkaaa
