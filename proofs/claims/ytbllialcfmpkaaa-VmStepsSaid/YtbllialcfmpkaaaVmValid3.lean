/- The reference's Valid. -/
import Derived.Test.YtbllialcfmpkaaaVmValid2
set_option linter.unusedVariables false
set_option linter.unusedSimpArgs false
set_option linter.unusedSectionVars false
namespace Go.Proofs.Ytbllialcfmpkaaa
open Go.RowKit
attribute [local go_sem] Vm.get0 Vm.get1 Vm.get2 Vm.get3 Vm.get4 Vm.get5 Vm.get6 Vm.get7 Vm.get8 Vm.get9 Vm.get10 Vm.get11 Vm.get12 Vm.get13 Vm.get14 Vm.get15 Vm.get16 Vm.get17 Vm.get18 Vm.get19 Vm.get20 Vm.get21 Vm.get22 Vm.get23 Vm.get24 

set_option maxRecDepth 100000 in
set_option maxHeartbeats 4000000 in
theorem RValid_any (v : Vm) (w : World) (ht : v.typed) :
    Calls Try.prog 25 #[.agg v.cells] w fun en w' => en = .returned (.bool v.ok) ∧ Below w.heap.size w w' := by
  rcases Bool.eq_false_or_eq_true (wide v.width) with hw | hw
  case inr =>
    have hb := Lib.hid (Vm.ok_width (.inl hw))
    go_enter Try.func25, Try.ntmps25
    go_wp2_with (go_at_call 41; refine (wide_any _ _).mono ?_; rintro e w' ⟨rfl, rfl⟩)
    go_ret
    exact ⟨ret_bool hb.out.symm, (Below.refl _ _).alloc (Nat.le_refl _) _⟩
  by_cases hp : v.pc < 0 ∨ 4096 < v.pc
  · have hb := Lib.hid (Vm.ok_width (.inr hp))
    rcases hp with hp | hp
    · go_enter Try.func25, Try.ntmps25
      go_wp2_with (go_at_call 41; refine (wide_any _ _).mono ?_; rintro e w' ⟨rfl, rfl⟩)
      go_ret
      exact ⟨ret_bool hb.out.symm, (Below.refl _ _).alloc (Nat.le_refl _) _⟩
    · have hp0 : 0 ≤ v.pc := by omega
      go_enter Try.func25, Try.ntmps25
      go_wp2_with (go_at_call 41; refine (wide_any _ _).mono ?_; rintro e w' ⟨rfl, rfl⟩)
      go_ret
      exact ⟨ret_bool hb.out.symm, (Below.refl _ _).alloc (Nat.le_refl _) _⟩
  have p0 : 0 ≤ v.pc := by omega
  have p1 : v.pc ≤ 4096 := by omega
  clear hp
  go_enter Try.func25, Try.ntmps25
  go_wp2_with (go_at_call 41; refine (wide_any _ _).mono ?_; rintro e w' ⟨rfl, rfl⟩)
  have HW := Lib.hid hw
  have TT := Lib.hid ht
  have hn := (wide_iff _).1 hw
  have HN := Lib.hid hn
  clear ht hn
  generalize hW0 : w.alloc _ = W0
  have hblk : BlkT W0 w.heap.size v.cells 35 := by rw [← hW0]; exact blk_new _ _ _
  have hbel : Below w.heap.size w W0 := by rw [← hW0]; exact (Below.refl _ _).alloc (Nat.le_refl _) _
  obtain ⟨q, hq⟩ : ∃ q, q = w.heap.size := ⟨_, rfl⟩
  rw [← hq] at hblk ⊢
  have HB := Lib.hid hblk
  have HBEL := Lib.hid hbel
  have HQ := Lib.hid hq
  clear hW0 hblk hbel hq
  go_loopw [3] (fun i wr => ∃ k : Nat, k ≤ 16 ∧ i = .int .i64 k ∧ (∀ j, j < k → v.r j < pw2 v.width) ∧ BlkT wr q v.cells 35 ∧ Below w.heap.size w wr) (fun i _ => 16 - (intOf i).toNat)
  case atStart => exact ⟨0, by omega, rfl, fun j hj => absurd hj (by omega), HB.out, HBEL.out⟩
  case round =>
    obtain ⟨k, hk, rfl, ha, hB, hbel⟩ := hrel
    have HBW := Lib.hid hB
    have HBELW := Lib.hid hbel
    clear hB hbel
    have HA := Lib.hid ha
    clear ha
    have hc0 : wr.cell? ⟨q, 0, none⟩ = some (.int .i64 v.width) := blk_cell HBW.out 0
    by_cases hlt : k < 16
    · have hk0 : (0 : Int) ≤ (k : Int) := by omega
      have hk1 : (k : Int) < 16 := by omega
      have hck : wr.cell? ⟨q, 4 + k, none⟩ = some (.int .u64 (v.r k)) := (blk_cell HBW.out (4 + k)).trans (v.cells_reg k hlt)
      by_cases hr : v.r k < pw2 v.width
      · have hr2 : v.r k ≤ pw2 v.width - 1 := by omega
        clear hr
        go_wp2_with fail
        go_quiet ((go_at_call 40; exact Calls.quiet_of_same ((mask_any _ _ HN.out).mono fun _ _ h => ⟨h.1, h.2.symm⟩)))
        go_wp2
        go_roundw
        case rel =>
          refine ⟨k + 1, by omega, by go_num, fun j hj => ?_, HBW.out, below_drewN HBELW.out _⟩
          by_cases hjk : j = k
          · rw [hjk]; omega
          · exact HA.out j (by omega)
        case measure => simp [intOf]; omega
      · have hb := Lib.hid (Vm.ok_reg TT.out.len hlt hr)
        have hr2 : pw2 v.width - 1 < v.r k := by omega
        clear hr
        go_wp2_with fail
        go_quiet ((go_at_call 40; exact Calls.quiet_of_same ((mask_any _ _ HN.out).mono fun _ _ h => ⟨h.1, h.2.symm⟩)))
        go_wp2
        go_ret
        exact ⟨ret_bool hb.out.symm, below_drewN HBELW.out _⟩
    · have hk6 : k = 16 := by omega
      subst hk6
      have hb := Lib.hid (Vm.ok_rest TT.out.len HW.out ⟨p0, p1⟩ HA.out)
      obtain ⟨a0, a1⟩ := TT.out.addr
      obtain ⟨b0, b1⟩ := TT.out.value
      have c1 : wr.cell? ⟨q, 1, none⟩ = some (.int .i64 v.pc) := blk_cell HBW.out 1
      have c2 : wr.cell? ⟨q, 2, none⟩ = some (.int .i64 v.state) := blk_cell HBW.out 2
      have c3 : wr.cell? ⟨q, 3, none⟩ = some (.int .i64 v.cause) := blk_cell HBW.out 3
      have c20 : wr.cell? ⟨q, 20, none⟩ = some (.int .i64 v.wait.kind) := blk_cell HBW.out 20
      have c21 : wr.cell? ⟨q, 21, none⟩ = some (.int .i64 v.wait.reg) := blk_cell HBW.out 21
      have c22 : wr.cell? ⟨q, 22, none⟩ = some (.int .i64 v.wait.num) := blk_cell HBW.out 22
      have c23 : wr.cell? ⟨q, 23, none⟩ = some (.int .u64 v.wait.addr) := blk_cell HBW.out 23
      have c24 : wr.cell? ⟨q, 24, none⟩ = some (.int .u64 v.wait.value) := blk_cell HBW.out 24
      have hz := HBELW.out.size
      clear hlt hk hw
      go_wp2_with (go_at_call 42; refine (effect_any v.wait v.width _ HN.out a0 b0).mono ?_; rintro e w' ⟨rfl, hb2⟩)
      all_goals
        go_ret
        refine ⟨ret_bool (Bool.eq_iff_iff.2 ?_), ?_⟩
        · rw [hb.out]
          unfold Vm.ok2 Eff.isNone
          clear HW TT HA hb HN HBW HBELW HQ c1 c2 c3 c20 c21 c22 c23 c24 hc0 hz
          simp_all
          try omega
        · first | exact HBELW.out | exact HBELW.out.trans (Below.mono (B := wr.heap.size) (by assumption) hz)
end Go.Proofs.Ytbllialcfmpkaaa
