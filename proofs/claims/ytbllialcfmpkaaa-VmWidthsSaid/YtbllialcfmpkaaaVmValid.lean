/- Which processors are valid, in both packages. -/
import Derived.Test.YtbllialcfmpkaaaSigned
import Derived.Test.YtbllialcfmpkaaaBlock
import Derived.Deep.QuietTactic
import Derived.BigQuiet
set_option linter.unusedVariables false
set_option linter.unusedSimpArgs false
set_option linter.unusedSectionVars false
namespace Go.Proofs.Ytbllialcfmpkaaa
open Go.RowKit

set_option maxHeartbeats 1000000 in
theorem validWait_any (e : Eff) (n : Int) (w : World) (_hn : n = 32 ∨ n = 39) (ha : 0 ≤ e.addr) :
    Calls Try.prog 36 #[.agg e.cells, .int .u64 (pw2 n)] w fun en w' => en = .returned (.bool (effOk n e)) ∧ Below w.heap.size w w' := by
  unfold Eff.cells
  obtain ⟨L, hL⟩ : ∃ L, L = pw2 n := ⟨_, rfl⟩
  have HL := Lib.hid hL
  rw [← hL]
  clear hL
  go_enter Try.func36, Try.ntmps36
  go_wp2
  all_goals
    go_ret
    refine ⟨ret_bool (Bool.eq_iff_iff.2 ?_), (Below.refl _ _).alloc (Nat.le_refl _) _⟩
    obtain rfl := HL.out
    unfold effOk
    simp_all
    try omega

set_option maxHeartbeats 2000000 in
theorem effect_any (e : Eff) (n : Int) (w : World) (hn : n = 32 ∨ n = 39) (ha : 0 ≤ e.addr) (hv : 0 ≤ e.value) :
    Calls Try.prog 42 #[.int .i64 n, .agg e.cells] w fun en w' => en = .returned (.bool (effOk n e)) ∧ Below w.heap.size w w' := by
  unfold Eff.cells
  have bad : (e.reg < 0 ∨ 15 < e.reg ∨ pw2 n - 1 < e.addr ∨ ¬ e.addr % 8 = 0 ∨ pw2 n - 1 < e.value) → effOk n e = false := by
    intro h
    have hp := pw2_pos n
    unfold effOk
    repeat' split
    all_goals first | rfl | (rw [decide_eq_false_iff_not]; omega)
  by_cases r0 : e.reg < 0
  · have hb := Lib.hid (bad (.inl r0))
    go_enter Try.func42, Try.ntmps42
    go_wp2_with fail
    go_quiet ((go_at_call 40; exact Calls.quiet_of_same ((mask_any _ _ hn).mono fun _ _ h => ⟨h.1, h.2.symm⟩)))
    go_wp2
    go_ret
    exact ⟨ret_bool hb.out.symm, below_drewN ((Below.refl _ _).alloc (Nat.le_refl _) _) _⟩
  have r1 : 0 ≤ e.reg := by omega
  by_cases r2 : 15 < e.reg
  · have hb := Lib.hid (bad (.inr (.inl r2)))
    clear r0
    go_enter Try.func42, Try.ntmps42
    go_wp2_with fail
    go_quiet ((go_at_call 40; exact Calls.quiet_of_same ((mask_any _ _ hn).mono fun _ _ h => ⟨h.1, h.2.symm⟩)))
    go_wp2
    go_ret
    exact ⟨ret_bool hb.out.symm, below_drewN ((Below.refl _ _).alloc (Nat.le_refl _) _) _⟩
  have r3 : e.reg ≤ 15 := by omega
  by_cases a0 : pw2 n - 1 < e.addr
  · have hb := Lib.hid (bad (.inr (.inr (.inl a0))))
    clear r0 r2
    go_enter Try.func42, Try.ntmps42
    go_wp2_with fail
    go_quiet ((go_at_call 40; exact Calls.quiet_of_same ((mask_any _ _ hn).mono fun _ _ h => ⟨h.1, h.2.symm⟩)))
    go_wp2
    go_ret
    exact ⟨ret_bool hb.out.symm, below_drewN ((Below.refl _ _).alloc (Nat.le_refl _) _) _⟩
  have a1 : e.addr ≤ pw2 n - 1 := by omega
  have htm : e.addr.tmod 8 = e.addr % 8 := Int.tmod_eq_emod_of_nonneg ha
  by_cases a2 : e.addr % 8 = 0
  · by_cases v0 : pw2 n - 1 < e.value
    · have hb := Lib.hid (bad (.inr (.inr (.inr (.inr v0)))))
      have z : (e.addr % 8 != 0) = false := by rw [bne_eq_false_iff_eq]; exact a2
      clear r0 r2 a0 a2
      go_enter Try.func42, Try.ntmps42
      go_wp2_with fail
      go_quiet ((go_at_call 40; exact Calls.quiet_of_same ((mask_any _ _ hn).mono fun _ _ h => ⟨h.1, h.2.symm⟩)))
      go_wp2
      go_ret
      exact ⟨ret_bool hb.out.symm, below_drewN ((Below.refl _ _).alloc (Nat.le_refl _) _) _⟩
    · have v1 : e.value ≤ pw2 n - 1 := by omega
      have z : (e.addr % 8 != 0) = false := by rw [bne_eq_false_iff_eq]; exact a2
      have hf := Lib.hid (show 0 ≤ e.reg ∧ e.reg < 16 ∧ e.addr < pw2 n ∧ e.addr % 8 = 0 ∧ e.value < pw2 n from ⟨r1, by omega, by omega, a2, by omega⟩)
      clear r0 r2 a0 a2 v0
      go_enter Try.func42, Try.ntmps42
      go_wp2_with fail
      go_quiet ((go_at_call 40; exact Calls.quiet_of_same ((mask_any _ _ hn).mono fun _ _ h => ⟨h.1, h.2.symm⟩)))
      go_wp2
      all_goals
        go_ret
        refine ⟨ret_bool (Bool.eq_iff_iff.2 ?_), below_drewN ((Below.refl _ _).alloc (Nat.le_refl _) _) _⟩
        obtain ⟨f0, f1, f2, f3, f4⟩ := hf.out
        unfold effOk
        simp_all
        try omega
  · have hb := Lib.hid (bad (.inr (.inr (.inr (.inl a2)))))
    have z : (e.addr % 8 != 0) = true := by rw [bne_iff_ne]; exact a2
    clear r0 r2 a0 a2
    go_enter Try.func42, Try.ntmps42
    go_wp2_with fail
    go_quiet ((go_at_call 40; exact Calls.quiet_of_same ((mask_any _ _ hn).mono fun _ _ h => ⟨h.1, h.2.symm⟩)))
    go_wp2
    go_ret
    exact ⟨ret_bool hb.out.symm, below_drewN ((Below.refl _ _).alloc (Nat.le_refl _) _) _⟩
end Go.Proofs.Ytbllialcfmpkaaa
