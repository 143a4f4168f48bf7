/- Merged: VmValid, VmValid2, VmValid3. -/
import Derived.Test.YtokppdegklfkmaaGreatDoorPkVmOpsG
import Derived.Test.YtokppdegklfkmaaGreatDoorPkBlockG
import Derived.Deep.QuietTactic
import Derived.BigQuiet
set_option linter.unusedVariables false
set_option linter.unusedSimpArgs false
set_option linter.unusedSectionVars false
namespace Go.Proofs.YtokppdegklfkmaaGreatDoor
section
open Go.RowKit

set_option maxHeartbeats 1000000 in
theorem validWait_any (e : Eff) (n : Int) (w : World) (_hn : n = 32 ∨ n = 39) (ha : 0 ≤ e.addr) :
    Calls Tryz.prog 72 #[.agg e.cells, .int .u64 (pw2 n)] w fun en w' => en = .returned (.bool (effOk n e)) ∧ Below w.heap.size w w' := by
  unfold Eff.cells
  obtain ⟨L, hL⟩ : ∃ L, L = pw2 n := ⟨_, rfl⟩
  have HL := Lib.hid hL
  rw [← hL]
  clear hL
  go_enter Tryz.func72, Tryz.ntmps72
  go_wp2
  all_goals
    go_ret
    refine ⟨ret_bool (Bool.eq_iff_iff.2 ?_), (Below.refl _ _).alloc (Nat.le_refl _) _⟩
    obtain rfl := HL.out
    unfold effOk
    simp_all
    try omega

end
section
open Go.RowKit

theorem Vm.get0 (v : Vm) : v.cells[0]? = some (.int .i64 (v.width)) := rfl
theorem Vm.get1 (v : Vm) : v.cells[1]? = some (.int .i64 (v.pc)) := rfl
theorem Vm.get2 (v : Vm) : v.cells[2]? = some (.int .i64 (v.state)) := rfl
theorem Vm.get3 (v : Vm) : v.cells[3]? = some (.int .i64 (v.cause)) := rfl
theorem Vm.get4 (v : Vm) : v.cells[4]? = some (.int .u64 (v.r 0)) := rfl
theorem Vm.get5 (v : Vm) : v.cells[5]? = some (.int .u64 (v.r 1)) := rfl
theorem Vm.get6 (v : Vm) : v.cells[6]? = some (.int .u64 (v.r 2)) := rfl
theorem Vm.get7 (v : Vm) : v.cells[7]? = some (.int .u64 (v.r 3)) := rfl
theorem Vm.get8 (v : Vm) : v.cells[8]? = some (.int .u64 (v.r 4)) := rfl
theorem Vm.get9 (v : Vm) : v.cells[9]? = some (.int .u64 (v.r 5)) := rfl
theorem Vm.get10 (v : Vm) : v.cells[10]? = some (.int .u64 (v.r 6)) := rfl
theorem Vm.get11 (v : Vm) : v.cells[11]? = some (.int .u64 (v.r 7)) := rfl
theorem Vm.get12 (v : Vm) : v.cells[12]? = some (.int .u64 (v.r 8)) := rfl
theorem Vm.get13 (v : Vm) : v.cells[13]? = some (.int .u64 (v.r 9)) := rfl
theorem Vm.get14 (v : Vm) : v.cells[14]? = some (.int .u64 (v.r 10)) := rfl
theorem Vm.get15 (v : Vm) : v.cells[15]? = some (.int .u64 (v.r 11)) := rfl
theorem Vm.get16 (v : Vm) : v.cells[16]? = some (.int .u64 (v.r 12)) := rfl
theorem Vm.get17 (v : Vm) : v.cells[17]? = some (.int .u64 (v.r 13)) := rfl
theorem Vm.get18 (v : Vm) : v.cells[18]? = some (.int .u64 (v.r 14)) := rfl
theorem Vm.get19 (v : Vm) : v.cells[19]? = some (.int .u64 (v.r 15)) := rfl
theorem Vm.get20 (v : Vm) : v.cells[20]? = some (.int .i64 (v.wait.kind)) := rfl
theorem Vm.get21 (v : Vm) : v.cells[21]? = some (.int .i64 (v.wait.reg)) := rfl
theorem Vm.get22 (v : Vm) : v.cells[22]? = some (.int .i64 (v.wait.num)) := rfl
theorem Vm.get23 (v : Vm) : v.cells[23]? = some (.int .u64 (v.wait.addr)) := rfl
theorem Vm.get24 (v : Vm) : v.cells[24]? = some (.int .u64 (v.wait.value)) := rfl
attribute [local go_sem] Vm.get0 Vm.get1 Vm.get2 Vm.get3 Vm.get4 Vm.get5 Vm.get6 Vm.get7 Vm.get8 Vm.get9 Vm.get10 Vm.get11 Vm.get12 Vm.get13 Vm.get14 Vm.get15 Vm.get16 Vm.get17 Vm.get18 Vm.get19 Vm.get20 Vm.get21 Vm.get22 Vm.get23 Vm.get24

/-- What a Vm that came in holds. -/
structure Vm.typed (v : Vm) : Prop where
  len : v.regs.length = 16
  reg : ∀ i, 0 ≤ v.r i ∧ v.r i ≤ 18446744073709551615
  addr : 0 ≤ v.wait.addr ∧ v.wait.addr ≤ 18446744073709551615
  value : 0 ≤ v.wait.value ∧ v.wait.value ≤ 18446744073709551615
theorem Vm.all_regs (v : Vm) (hl : v.regs.length = 16) (L : Int) : (v.regs.all fun x => decide (x < L)) = true ↔ ∀ j, j < 16 → v.r j < L := by
  rw [List.all_eq_true]
  constructor
  · intro h j hj
    have := h v.regs[j] (List.getElem_mem _)
    unfold Vm.r
    rw [List.getD_eq_getElem?_getD, List.getElem?_eq_getElem (by omega)]
    simpa using this
  · intro h x hx
    obtain ⟨j, hj, rfl⟩ := List.getElem_of_mem hx
    have := h j (by omega)
    unfold Vm.r at this
    rw [List.getD_eq_getElem?_getD, List.getElem?_eq_getElem hj] at this
    simpa using this
/-- Behind the registers. -/
def Vm.ok2 (v : Vm) : Bool :=
  if v.state = 0 ∨ v.state = 2 then decide (v.cause = 0) && v.wait.isNone
  else if v.state = 1 then decide (v.cause = 0 ∧ 1 ≤ v.pc) && effOk v.width v.wait
  else if v.state = 3 then decide (1 ≤ v.cause ∧ v.cause ≤ 4) && v.wait.isNone
  else false
theorem Vm.ok_width {v : Vm} (h : wide v.width = false ∨ v.pc < 0 ∨ 4096 < v.pc) : v.ok = false := by
  unfold Vm.ok
  rcases h with h | h
  · rw [h]; rfl
  · rw [decide_eq_false (by omega)]; simp
theorem Vm.ok_reg {v : Vm} (hl : v.regs.length = 16) {j : Nat} (hj : j < 16) (h : ¬ v.r j < pw2 v.width) : v.ok = false := by
  have : (v.regs.all fun x => decide (x < pw2 v.width)) = false := by
    rw [Bool.eq_false_iff]
    intro q
    exact h ((v.all_regs hl _).1 q j hj)
  unfold Vm.ok
  rw [this]; simp
theorem Vm.ok_rest {v : Vm} (hl : v.regs.length = 16) (hw : wide v.width = true) (hp : 0 ≤ v.pc ∧ v.pc ≤ 4096) (h : ∀ j, j < 16 → v.r j < pw2 v.width) : v.ok = v.ok2 := by
  unfold Vm.ok Vm.ok2
  rw [hw, decide_eq_true hp, (v.all_regs hl _).2 h]; simp
def regsA (v : Vm) : Array Value := #[.int .u64 (v.r 0), .int .u64 (v.r 1), .int .u64 (v.r 2), .int .u64 (v.r 3), .int .u64 (v.r 4), .int .u64 (v.r 5), .int .u64 (v.r 6), .int .u64 (v.r 7), .int .u64 (v.r 8), .int .u64 (v.r 9), .int .u64 (v.r 10), .int .u64 (v.r 11), .int .u64 (v.r 12), .int .u64 (v.r 13), .int .u64 (v.r 14), .int .u64 (v.r 15)]
theorem index_reg (v : Vm) (i : Nat) (hi : i < 16) (w : World) : Sem.run Tryz.prog (Instr.index 31 (.agg (regsA v)) (.int .i64 i)) w = .ok (.int .u64 (v.r i)) w := by
  have h16 : i = 0 ∨ i = 1 ∨ i = 2 ∨ i = 3 ∨ i = 4 ∨ i = 5 ∨ i = 6 ∨ i = 7 ∨ i = 8 ∨ i = 9 ∨ i = 10 ∨ i = 11 ∨ i = 12 ∨ i = 13 ∨ i = 14 ∨ i = 15 := by omega
  rcases h16 with rfl | rfl | rfl | rfl | rfl | rfl | rfl | rfl | rfl | rfl | rfl | rfl | rfl | rfl | rfl | rfl <;> (refine Eq.trans (b := Result.ok (.int .u64 (v.r _)) w) ?_ rfl; kernel_rfl)

set_option maxRecDepth 100000 in
set_option maxHeartbeats 4000000 in
theorem Valid_any (v : Vm) (w : World) (ht : v.typed) :
    Calls Tryz.prog 24 #[.agg v.cells] w fun en w' => en = .returned (.bool v.ok) ∧ Below w.heap.size w w' := by
  rcases Bool.eq_false_or_eq_true (wide v.width) with hw | hw
  case inr =>
    have hb := Lib.hid (Vm.ok_width (.inl hw))
    go_enter Tryz.func24, Tryz.ntmps24
    go_wp2_with (go_at_call 71; refine (validWidth_any _ _).mono ?_; rintro e w' ⟨rfl, rfl⟩)
    go_ret
    exact ⟨ret_bool hb.out.symm, (Below.refl _ _).alloc (Nat.le_refl _) _⟩
  by_cases hp : v.pc < 0 ∨ 4096 < v.pc
  · have hb := Lib.hid (Vm.ok_width (.inr hp))
    rcases hp with hp | hp
    · go_enter Tryz.func24, Tryz.ntmps24
      go_wp2_with (go_at_call 71; refine (validWidth_any _ _).mono ?_; rintro e w' ⟨rfl, rfl⟩)
      go_ret
      exact ⟨ret_bool hb.out.symm, (Below.refl _ _).alloc (Nat.le_refl _) _⟩
    · have hp0 : 0 ≤ v.pc := by omega
      go_enter Tryz.func24, Tryz.ntmps24
      go_wp2_with (go_at_call 71; refine (validWidth_any _ _).mono ?_; rintro e w' ⟨rfl, rfl⟩)
      go_ret
      exact ⟨ret_bool hb.out.symm, (Below.refl _ _).alloc (Nat.le_refl _) _⟩
  have p0 : 0 ≤ v.pc := by omega
  have p1 : v.pc ≤ 4096 := by omega
  clear hp
  have hsh : Op.shift .shl .u64 1 .i64 v.width = pure (.int .u64 (pw2 v.width)) := by
    rcases (wide_iff _).1 hw with h | h <;> rw [h] <;> rfl
  go_enter Tryz.func24, Tryz.ntmps24
  go_wp2_with (go_at_call 71; refine (validWidth_any _ _).mono ?_; rintro e w' ⟨rfl, rfl⟩)
  have HW := Lib.hid hw
  have TT := Lib.hid ht
  clear ht hsh
  go_loop [26] (fun i => ∃ k : Nat, k ≤ 16 ∧ i = .int .i64 k ∧ ∀ j, j < k → v.r j < pw2 v.width) (fun i => 16 - (intOf i).toNat)
  case atStart => exact ⟨0, by omega, rfl, fun j hj => absurd hj (by omega)⟩
  case round =>
    obtain ⟨k, hk, rfl, ha⟩ := hrel
    have HA := Lib.hid ha
    clear ha
    by_cases hlt : k < 16
    · have hidx := index_reg v k hlt
      unfold regsA at hidx
      by_cases hr : v.r k < pw2 v.width
      · go_wp2
        go_round
        case rel =>
          refine ⟨k + 1, by omega, by go_num, fun j hj => ?_⟩
          by_cases hjk : j = k
          · rw [hjk]; exact hr
          · exact HA.out j (by omega)
        case measure => simp [intOf]; omega
      · have hb := Lib.hid (Vm.ok_reg TT.out.len hlt hr)
        have hr2 : pw2 v.width ≤ v.r k := by omega
        clear hr
        go_wp2
        go_ret
        exact ⟨ret_bool hb.out.symm, (Below.refl _ _).alloc (Nat.le_refl _) _⟩
    · have hk6 : k = 16 := by omega
      subst hk6
      have hb := Lib.hid (Vm.ok_rest TT.out.len HW.out ⟨p0, p1⟩ HA.out)
      obtain ⟨a0, a1⟩ := TT.out.addr
      clear hlt hk hw
      go_wp2_with (go_at_call 72; refine (validWait_any v.wait v.width _ ((wide_iff _).1 HW.out) a0).mono ?_; rintro e w' ⟨rfl, hb2⟩)
      all_goals
        go_ret
        refine ⟨ret_bool (Bool.eq_iff_iff.2 ?_), ?_⟩
        · rw [hb.out]
          unfold Vm.ok2 Eff.isNone
          clear HW TT HA hb
          simp_all
          try omega
        · first | exact (Below.refl _ _).alloc (Nat.le_refl _) _ | exact ((Below.refl _ _).alloc (Nat.le_refl _) _).trans (Below.mono (B := (w.alloc (.cells v.cells 35)).heap.size) (by assumption) (by simp))
end
section
open Go.RowKit
attribute [local go_sem] Vm.get0 Vm.get1 Vm.get2 Vm.get3 Vm.get4 Vm.get5 Vm.get6 Vm.get7 Vm.get8 Vm.get9 Vm.get10 Vm.get11 Vm.get12 Vm.get13 Vm.get14 Vm.get15 Vm.get16 Vm.get17 Vm.get18 Vm.get19 Vm.get20 Vm.get21 Vm.get22 Vm.get23 Vm.get24 

end
end Go.Proofs.YtokppdegklfkmaaGreatDoor
