/- Plain: a step of a valid processor leaves a valid one; runs. Nothing of the program is walked. -/
import Derived.Test.YtbllialcfmpkaaaStepVm
set_option linter.unusedVariables false
set_option linter.unusedSimpArgs false
set_option linter.unusedSectionVars false
namespace Go.Proofs.Ytbllialcfmpkaaa
open Go.RowKit

/-- Up to n steps, beginning behind a step that had this effect. -/
def runF (p : List Ins) : Nat → Vm × Eff → Vm × Nat × Eff
  | 0, s => (s.1, 0, s.2)
  | n + 1, s => if s.2.kind = 0 then ((runF p n (stepS s.1 p)).1, (runF p n (stepS s.1 p)).2.1 + 1, (runF p n (stepS s.1 p)).2.2) else (s.1, 0, s.2)
theorem runF_stop {p : List Ins} {s : Vm × Eff} (h : ¬ s.2.kind = 0) : ∀ n, runF p n s = (s.1, 0, s.2)
  | 0 => rfl
  | n + 1 => by rw [runF, if_neg h]
theorem runF_go {p : List Ins} {s : Vm × Eff} (h : s.2.kind = 0) (n : Nat) : runF p (n + 1) s = ((runF p n (stepS s.1 p)).1, (runF p n (stepS s.1 p)).2.1 + 1, (runF p n (stepS s.1 p)).2.2) := by rw [runF, if_pos h]
/-- The run as the loop goes: k rounds are done, n - k are still to come. -/
def runAt (p : List Ins) (n k : Nat) (s : Vm × Eff) : Vm × Nat × Eff := ((runF p (n - k) s).1, (runF p (n - k) s).2.1 + k, (runF p (n - k) s).2.2)
theorem runAt_zero (p : List Ins) (n : Nat) (s : Vm × Eff) : runAt p n 0 s = runF p n s := rfl
theorem runAt_next {p : List Ins} {n k : Nat} {s : Vm × Eff} (h : s.2.kind = 0) (hk : k < n) : runAt p n k s = runAt p n (k + 1) (stepS s.1 p) := by
  obtain ⟨j, hj⟩ : ∃ j, n - k = j + 1 := ⟨n - k - 1, by omega⟩
  have e : n - (k + 1) = j := by omega
  unfold runAt
  rw [hj, e, runF_go h]
  simp only [Prod.mk.injEq, true_and, and_true]
  omega
theorem runAt_full (p : List Ins) (n : Nat) (s : Vm × Eff) : runAt p n n s = (s.1, n, s.2) := by
  unfold runAt
  rw [Nat.sub_self, runF]
  simp
theorem runAt_stop {p : List Ins} {n k : Nat} {s : Vm × Eff} (h : ¬ s.2.kind = 0) : runAt p n k s = (s.1, k, s.2) := by
  unfold runAt
  rw [runF_stop h]
  simp

theorem Vm.r_out (v : Vm) (hl : v.regs.length = 16) (i : Nat) (h : 16 ≤ i) : v.r i = 0 := by
  unfold Vm.r; rw [List.getD_eq_getElem?_getD, List.getElem?_eq_none (by omega)]; rfl
theorem Vm.setR_len (v : Vm) (i : Nat) (x : Int) : (v.setR i x).regs.length = v.regs.length := by simp [Vm.setR]
theorem Vm.fits.setR {v : Vm} (h : v.fits) (i : Nat) (x : Int) (h0 : 0 ≤ x) (h1 : x < pw2 v.width) (hi : i < 16) : (v.setR i x).fits := by
  refine ⟨h.wide, by rw [Vm.setR_len]; exact h.len, fun j => ?_, h.pc⟩
  rw [Vm.r_set _ _ _ _ h.len hi]
  show 0 ≤ (if i = j then x else v.r j) ∧ (if i = j then x else v.r j) < pw2 v.width
  split
  · exact ⟨h0, h1⟩
  · exact h.reg j
/-- The parts that do not show in 'fits'. -/
theorem Vm.fits.of {v v' : Vm} (h : v.fits) (hw : v'.width = v.width) (hr : v'.regs = v.regs) (hp : 0 ≤ v'.pc ∧ v'.pc ≤ 4096) : v'.fits := by
  refine ⟨by rw [hw]; exact h.wide, by rw [hr]; exact h.len, fun i => ?_, hp⟩
  have : v'.r i = v.r i := by unfold Vm.r; rw [hr]
  rw [this, hw]; exact h.reg i
theorem stepI_fits {v : Vm} {x : Ins} {n : Int} (hf : v.fits) (hx : insErr x n = 0) (hn : n ≤ 4096) (hlt : v.pc < n) : (stepI v x n).1.fits := by
  obtain ⟨o0, o1, ht, ha, hb, hc⟩ := insErr_target hx
  obtain ⟨p0, p1⟩ := hf.pc
  have hpos := pw2_pos v.width
  have hpw : 4096 < pw2 v.width := by unfold pw2; split <;> omega
  have ai : x.a.toNat < 16 := by omega
  have ra := hf.reg x.a.toNat
  unfold stepI
  by_cases h0 : x.op = 0
  · simp only [if_pos h0]; exact hf.of rfl rfl ⟨by show 0 ≤ v.pc + 1; omega, by show v.pc + 1 ≤ 4096; omega⟩
  simp only [if_neg h0]
  by_cases h18 : x.op = 18
  · have := ht (by rw [h18]; decide)
    simp only [if_pos h18]; exact hf.of rfl rfl ⟨this.1, by show x.imm ≤ 4096; omega⟩
  simp only [if_neg h18]
  by_cases h19 : x.op = 19
  · have := ht (by rw [h19]; decide)
    simp only [if_pos h19]; refine hf.of rfl rfl ⟨?_, ?_⟩ <;> dsimp only <;> split <;> omega
  simp only [if_neg h19]
  by_cases h20 : x.op = 20
  · have := ht (by rw [h20]; decide)
    simp only [if_pos h20]; refine hf.of rfl rfl ⟨?_, ?_⟩ <;> dsimp only <;> split <;> omega
  simp only [if_neg h20]
  by_cases h21 : x.op = 21
  · have := ht (by rw [h21]; decide)
    simp only [if_pos h21]
    exact (hf.setR x.a.toNat (v.pc + 1) (by omega) (by omega) ai).of rfl rfl ⟨this.1, by show x.imm ≤ 4096; omega⟩
  simp only [if_neg h21]
  by_cases h22 : x.op = 22
  · simp only [if_pos h22]
    split
    · exact hf.of rfl rfl ⟨p0, p1⟩
    · exact hf.of rfl rfl ⟨ra.1, by show v.r x.a.toNat ≤ 4096; omega⟩
  simp only [if_neg h22]
  by_cases h23 : x.op = 23
  · simp only [if_pos h23]
    split
    · exact hf.of rfl rfl ⟨p0, p1⟩
    · exact hf.of rfl rfl ⟨by show 0 ≤ v.pc + 1; omega, by show v.pc + 1 ≤ 4096; omega⟩
  simp only [if_neg h23]
  by_cases h24 : x.op = 24
  · simp only [if_pos h24]
    split
    · exact hf.of rfl rfl ⟨p0, p1⟩
    · exact hf.of rfl rfl ⟨by show 0 ≤ v.pc + 1; omega, by show v.pc + 1 ≤ 4096; omega⟩
  simp only [if_neg h24]
  by_cases h25 : x.op = 25
  · simp only [if_pos h25]
    split
    · exact hf.of rfl rfl ⟨p0, p1⟩
    · exact hf.of rfl rfl ⟨by show 0 ≤ v.pc + 1; omega, by show v.pc + 1 ≤ 4096; omega⟩
  simp only [if_neg h25]
  by_cases h26 : x.op = 26
  · simp only [if_pos h26]; exact hf.of rfl rfl ⟨by show 0 ≤ v.pc + 1; omega, by show v.pc + 1 ≤ 4096; omega⟩
  simp only [if_neg h26]
  by_cases h27 : x.op = 27
  · simp only [if_pos h27]; exact hf.of rfl rfl ⟨by show 0 ≤ v.pc + 1; omega, by show v.pc + 1 ≤ 4096; omega⟩
  simp only [if_neg h27]
  split
  · exact hf.of rfl rfl ⟨p0, p1⟩
  · exact (Vm.fits.of hf (v' := { v with pc := v.pc + 1 }) rfl rfl ⟨by show 0 ≤ v.pc + 1; omega, by show v.pc + 1 ≤ 4096; omega⟩).setR x.a.toNat _ (Int.emod_nonneg _ (by omega)) (Int.emod_lt_of_pos _ hpos.1) ai
theorem stepS_fits {v : Vm} {p : List Ins} (hf : v.fits) (hp : Good p) : (stepS v p).1.fits := by
  unfold stepS
  cases hx : p[v.pc.toNat]? with
  | none => exact hf.of rfl rfl hf.pc
  | some x =>
    have hl : v.pc.toNat < p.length := (List.getElem?_eq_some_iff.1 hx).1
    have := hf.pc
    have := hp.len
    exact stepI_fits hf (hp.ok x (List.mem_of_getElem? hx)) (by omega) (by omega)
end Go.Proofs.Ytbllialcfmpkaaa
