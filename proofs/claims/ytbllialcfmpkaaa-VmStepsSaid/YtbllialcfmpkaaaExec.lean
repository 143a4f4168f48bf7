/- What the methods do, taken together: the step of the machine is the plain step. -/
import Derived.Test.YtbllialcfmpkaaaOps2
set_option linter.unusedVariables false
set_option linter.unusedSimpArgs false
set_option linter.unusedSectionVars false
namespace Go.Proofs.Ytbllialcfmpkaaa
open Go.RowKit

/-- What the method of the operation does. -/
def Mach.exec (m : Mach) : Mach :=
  if m.ins.op = 0 then { m with v := { m.v with state := 2 }, eff := { m.eff with kind := 5 } }
  else if m.ins.op = 18 then m.jumpM (m.ins.imm % pw2 m.v.width)
  else if m.ins.op = 19 then (if m.v.r m.ins.a.toNat = 0 then m.jumpM (m.ins.imm % pw2 m.v.width) else m)
  else if m.ins.op = 20 then (if m.v.r m.ins.a.toNat = 0 then m else m.jumpM (m.ins.imm % pw2 m.v.width))
  else if m.ins.op = 21 then (m.setX (m.v.pc + 1)).jumpM (m.ins.imm % pw2 m.v.width)
  else if m.ins.op = 22 then m.jumpM (m.v.r m.ins.a.toNat)
  else if m.ins.op = 23 then (if ¬ (m.v.r m.ins.b.toNat + m.ins.imm) % pw2 m.v.width % 8 = 0 then m.trapM 3 else m.waitM ⟨1, m.ins.a, 0, (m.v.r m.ins.b.toNat + m.ins.imm) % pw2 m.v.width, 0⟩)
  else if m.ins.op = 24 then (if ¬ (m.v.r m.ins.b.toNat + m.ins.imm) % pw2 m.v.width % 8 = 0 then m.trapM 3 else m.waitM ⟨2, 0, 0, (m.v.r m.ins.b.toNat + m.ins.imm) % pw2 m.v.width, m.v.r m.ins.a.toNat⟩)
  else if m.ins.op = 25 then (if m.ins.imm < 0 then m.trapM 4 else m.waitM ⟨3, 0, m.ins.imm, 0, 0⟩)
  else if m.ins.op = 26 then { m with eff := { m.eff with kind := 4 } }
  else if m.ins.op = 27 then m
  else if (m.ins.op = 7 ∨ m.ins.op = 8) ∧ m.v.r m.ins.c.toNat = 0 then m.trapM 1
  else m.alu

def opL : List Nat := [46, 47, 48, 49, 50, 51, 52, 53, 54, 55, 56, 57,
  58, 59, 60, 61, 62, 63, 64, 65, 66, 67, 68, 69, 70, 71, 72, 73]

def opF (op : Int) : Nat := opL.getD op.toNat 0
theorem exec_any (b : Nat) (m : Mach) (w : World) (h : MB w b m) (hf : m.fits) (h0 : 0 ≤ m.ins.op) (h1 : m.ins.op ≤ 27) :
    Calls Try.prog (opF m.ins.op) #[.pointer (some ⟨b, 0, none⟩)] w (ST b m.exec w) := by
  have ho : m.ins.op = 0 ∨ m.ins.op = 1 ∨ m.ins.op = 2 ∨ m.ins.op = 3 ∨ m.ins.op = 4 ∨ m.ins.op = 5 ∨ m.ins.op = 6 ∨ m.ins.op = 7 ∨ m.ins.op = 8 ∨ m.ins.op = 9 ∨ m.ins.op = 10 ∨ m.ins.op = 11 ∨ m.ins.op = 12 ∨ m.ins.op = 13 ∨ m.ins.op = 14 ∨ m.ins.op = 15 ∨ m.ins.op = 16 ∨ m.ins.op = 17 ∨ m.ins.op = 18 ∨ m.ins.op = 19 ∨ m.ins.op = 20 ∨ m.ins.op = 21 ∨ m.ins.op = 22 ∨ m.ins.op = 23 ∨ m.ins.op = 24 ∨ m.ins.op = 25 ∨ m.ins.op = 26 ∨ m.ins.op = 27 := by omega
  have alu : ∀ k : Int, m.ins.op = k → (k = 1 ∨ k = 2 ∨ k = 3 ∨ k = 4 ∨ k = 5 ∨ k = 6 ∨ k = 9 ∨ k = 10 ∨ k = 11 ∨ k = 12 ∨ k = 13 ∨ k = 14 ∨ k = 15 ∨ k = 16 ∨ k = 17) → m.exec = m.alu := by
    intro k hk hs
    unfold Mach.exec
    rw [hk]
    repeat rw [if_neg (by omega)]
  rcases ho with ho | ho | ho | ho | ho | ho | ho | ho | ho | ho | ho | ho | ho | ho | ho | ho | ho | ho | ho | ho | ho | ho | ho | ho | ho | ho | ho | ho
  · have e : m.exec = { m with v := { m.v with state := 2 }, eff := { m.eff with kind := 5 } } := by unfold Mach.exec; rw [if_pos ho]
    rw [e, ho]; exact halt_any b m w h hf
  · rw [alu 1 ho (by omega), ho]; exact li_any b m w h hf ho
  · rw [alu 2 ho (by omega), ho]; exact lih_any b m w h hf ho
  · rw [alu 3 ho (by omega), ho]; exact mov_any b m w h hf ho
  · rw [alu 4 ho (by omega), ho]; exact add_any b m w h hf ho
  · rw [alu 5 ho (by omega), ho]; exact sub_any b m w h hf ho
  · rw [alu 6 ho (by omega), ho]; exact mul_any b m w h hf ho
  · by_cases hc : m.v.r m.ins.c.toNat = 0
    · have e : m.exec = m.trapM 1 := by
        unfold Mach.exec; rw [ho]; repeat rw [if_neg (by decide)]
        rw [if_pos ⟨.inl rfl, hc⟩]
      rw [e, ho]; exact div_no b m w h hf hc
    · have e : m.exec = m.alu := by
        unfold Mach.exec; rw [ho]; repeat rw [if_neg (by decide)]
        rw [if_neg (fun q => hc q.2)]
      rw [e, ho]; exact div_ok b m w h hf ho hc
  · by_cases hc : m.v.r m.ins.c.toNat = 0
    · have e : m.exec = m.trapM 1 := by
        unfold Mach.exec; rw [ho]; repeat rw [if_neg (by decide)]
        rw [if_pos ⟨.inr rfl, hc⟩]
      rw [e, ho]; exact rem_no b m w h hf hc
    · have e : m.exec = m.alu := by
        unfold Mach.exec; rw [ho]; repeat rw [if_neg (by decide)]
        rw [if_neg (fun q => hc q.2)]
      rw [e, ho]; exact rem_ok b m w h hf ho hc
  · rw [alu 9 ho (by omega), ho]; exact and_any b m w h hf ho
  · rw [alu 10 ho (by omega), ho]; exact or_any b m w h hf ho
  · rw [alu 11 ho (by omega), ho]; exact xor_any b m w h hf ho
  · rw [alu 12 ho (by omega), ho]; exact shl_any b m w h hf ho
  · rw [alu 13 ho (by omega), ho]; exact shr_any b m w h hf ho
  · rw [alu 14 ho (by omega), ho]; exact addi_any b m w h hf ho
  · rw [alu 15 ho (by omega), ho]; exact slt_any b m w h hf ho
  · rw [alu 16 ho (by omega), ho]; exact sltu_any b m w h hf ho
  · rw [alu 17 ho (by omega), ho]; exact seq_any b m w h hf ho
  · have e : m.exec = m.jumpM (m.ins.imm % pw2 m.v.width) := by unfold Mach.exec; rw [if_neg (by omega), if_pos ho]
    rw [e, ho]; exact jmp_any b m w h hf
  · have e : m.exec = (if m.v.r m.ins.a.toNat = 0 then m.jumpM (m.ins.imm % pw2 m.v.width) else m) := by unfold Mach.exec; rw [if_neg (by omega), if_neg (by omega), if_pos ho]
    rw [e, ho]; exact beqz_any b m w h hf
  · have e : m.exec = (if m.v.r m.ins.a.toNat = 0 then m else m.jumpM (m.ins.imm % pw2 m.v.width)) := by unfold Mach.exec; rw [if_neg (by omega), if_neg (by omega), if_neg (by omega), if_pos ho]
    rw [e, ho]; exact bnez_any b m w h hf
  · have e : m.exec = (m.setX (m.v.pc + 1)).jumpM (m.ins.imm % pw2 m.v.width) := by
      unfold Mach.exec; rw [ho]; repeat rw [if_neg (by decide)]
      rw [if_pos rfl]
    rw [e, ho]; exact jal_any b m w h hf
  · have e : m.exec = m.jumpM (m.v.r m.ins.a.toNat) := by
      unfold Mach.exec; rw [ho]; repeat rw [if_neg (by decide)]
      rw [if_pos rfl]
    rw [e, ho]; exact jr_any b m w h hf
  · have e : m.exec = (if ¬ (m.v.r m.ins.b.toNat + m.ins.imm) % pw2 m.v.width % 8 = 0 then m.trapM 3 else m.waitM ⟨1, m.ins.a, 0, (m.v.r m.ins.b.toNat + m.ins.imm) % pw2 m.v.width, 0⟩) := by
      unfold Mach.exec; repeat rw [if_neg (show ¬ m.ins.op = _ by omega)]
      rw [if_pos ho]
    rw [e, ho]; exact ld_any b m w h hf
  · have e : m.exec = (if ¬ (m.v.r m.ins.b.toNat + m.ins.imm) % pw2 m.v.width % 8 = 0 then m.trapM 3 else m.waitM ⟨2, 0, 0, (m.v.r m.ins.b.toNat + m.ins.imm) % pw2 m.v.width, m.v.r m.ins.a.toNat⟩) := by
      unfold Mach.exec; repeat rw [if_neg (show ¬ m.ins.op = _ by omega)]
      rw [if_pos ho]
    rw [e, ho]; exact st_any b m w h hf
  · have e : m.exec = (if m.ins.imm < 0 then m.trapM 4 else m.waitM ⟨3, 0, m.ins.imm, 0, 0⟩) := by
      unfold Mach.exec; repeat rw [if_neg (show ¬ m.ins.op = _ by omega)]
      rw [if_pos ho]
    rw [e, ho]; exact sys_any b m w h hf
  · have e : m.exec = { m with eff := { m.eff with kind := 4 } } := by
      unfold Mach.exec; repeat rw [if_neg (show ¬ m.ins.op = _ by omega)]
      rw [if_pos ho]
    rw [e, ho]; exact yield_any b m w h hf
  · have e : m.exec = m := by
      unfold Mach.exec; repeat rw [if_neg (show ¬ m.ins.op = _ by omega)]
      rw [if_pos ho]
    rw [e, ho]; exact nop_any b m w h hf

/-! ### The plain step -/
def Mach.done (m : Mach) : Mach := { m with v := { m.v with pc := m.next } }
theorem insErr_target {x : Ins} {n : Int} (h : insErr x n = 0) : 0 ≤ x.op ∧ x.op ≤ 27 ∧ (uses x.op 116 = true → 0 ≤ x.imm ∧ x.imm < n) ∧ (0 ≤ x.a ∧ x.a < 16) ∧ (0 ≤ x.b ∧ x.b < 16) ∧ (0 ≤ x.c ∧ x.c < 16) := by
  unfold insErr at h
  by_cases h1 : x.op < 0 ∨ 27 < x.op
  · rw [if_pos h1] at h; omega
  rw [if_neg h1] at h
  by_cases h2 : (regOk x.a (uses x.op 97) && regOk x.b (uses x.op 98) && regOk x.c (uses x.op 99) && (x.imm == 0 || uses x.op 105 || uses x.op 116)) = false
  · rw [if_pos h2] at h; omega
  rw [if_neg h2] at h
  simp only [Bool.not_eq_false, Bool.and_eq_true] at h2
  obtain ⟨⟨⟨ha, hb⟩, hc⟩, _⟩ := h2
  have rg : ∀ v u, regOk v u = true → 0 ≤ v ∧ v < 16 := by
    intro v u hv
    simp only [regOk, Bool.or_eq_true, beq_iff_eq, Bool.and_eq_true, decide_eq_true_eq] at hv
    omega
  refine ⟨by omega, by omega, fun hu => ?_, rg _ _ ha, rg _ _ hb, rg _ _ hc⟩
  by_cases h3 : uses x.op 116 = true ∧ (x.imm < 0 ∨ n ≤ x.imm)
  · rw [if_pos h3] at h; omega
  · have : ¬ (x.imm < 0 ∨ n ≤ x.imm) := fun q => h3 ⟨hu, q⟩
    omega
theorem jump_in (m : Mach) (hn : m.pn ≤ 4096) (h : 0 ≤ m.ins.imm ∧ m.ins.imm < m.pn) : m.jumpM (m.ins.imm % pw2 m.v.width) = { m with next := m.ins.imm } := by
  have h2 : m.ins.imm % pw2 m.v.width = m.ins.imm := Int.emod_eq_of_lt h.1 (by unfold pw2; split <;> omega)
  unfold Mach.jumpM
  rw [h2, if_neg (by omega)]
theorem exec_step (m : Mach) (hf : m.fits) (hx : insErr m.ins m.pn = 0) (he : m.eff = Eff.none) (hn : m.next = m.v.pc + 1) :
    m.exec.done.v = (stepI m.v m.ins m.pn).1 ∧ m.exec.eff = (stepI m.v m.ins m.pn).2 ∧ m.exec.pa = m.pa ∧ m.exec.pn = m.pn ∧ m.exec.pk = m.pk := by
  obtain ⟨o0, o1, ht, _⟩ := insErr_target hx
  have hpn := hf.pn
  have hpc := hf.pc
  unfold stepI Mach.exec
  by_cases h0 : m.ins.op = 0
  · simp only [if_pos h0, Mach.done, hn, he]; refine ⟨?_, ?_, ?_, ?_, ?_⟩ <;> first | exact he | trivial
  simp only [if_neg h0]
  by_cases h18 : m.ins.op = 18
  · simp only [if_pos h18]
    rw [jump_in m hpn (ht (by rw [h18]; decide))]
    refine ⟨?_, ?_, ?_, ?_, ?_⟩ <;> first | exact he | trivial
  simp only [if_neg h18]
  by_cases h19 : m.ins.op = 19
  · simp only [if_pos h19]
    split
    · rw [jump_in m hpn (ht (by rw [h19]; decide))]
      refine ⟨?_, ?_, ?_, ?_, ?_⟩ <;> first | exact he | trivial
    · simp only [Mach.done, hn]; refine ⟨?_, ?_, ?_, ?_, ?_⟩ <;> first | exact he | trivial
  simp only [if_neg h19]
  by_cases h20 : m.ins.op = 20
  · simp only [if_pos h20]
    split
    · simp only [Mach.done, hn]; refine ⟨?_, ?_, ?_, ?_, ?_⟩ <;> first | exact he | trivial
    · rw [jump_in m hpn (ht (by rw [h20]; decide))]
      refine ⟨?_, ?_, ?_, ?_, ?_⟩ <;> first | exact he | trivial
  simp only [if_neg h20]
  by_cases h21 : m.ins.op = 21
  · simp only [if_pos h21]
    rw [show (m.setX (m.v.pc + 1)).jumpM (m.ins.imm % pw2 m.v.width) = { (m.setX (m.v.pc + 1)) with next := m.ins.imm } from jump_in (m.setX (m.v.pc + 1)) hpn (ht (by rw [h21]; decide))]
    have e : (m.v.pc + 1) % pw2 m.v.width = m.v.pc + 1 := Int.emod_eq_of_lt (by omega) (by unfold pw2; split <;> omega)
    simp only [Mach.setX, Mach.done, e]
    refine ⟨?_, ?_, ?_, ?_, ?_⟩ <;> first | exact he | trivial
  simp only [if_neg h21]
  by_cases h22 : m.ins.op = 22
  · simp only [if_pos h22, Mach.jumpM]
    split
    · refine ⟨?_, ?_, ?_, ?_, ?_⟩ <;> first | exact he | trivial
    · refine ⟨?_, ?_, ?_, ?_, ?_⟩ <;> first | exact he | trivial
  simp only [if_neg h22]
  by_cases h23 : m.ins.op = 23
  · simp only [if_pos h23]
    split
    · refine ⟨?_, ?_, ?_, ?_, ?_⟩ <;> first | exact he | trivial
    · simp only [Mach.done, Mach.waitM, hn]; refine ⟨?_, ?_, ?_, ?_, ?_⟩ <;> first | exact he | trivial
  simp only [if_neg h23]
  by_cases h24 : m.ins.op = 24
  · simp only [if_pos h24]
    split
    · refine ⟨?_, ?_, ?_, ?_, ?_⟩ <;> first | exact he | trivial
    · simp only [Mach.done, Mach.waitM, hn]; refine ⟨?_, ?_, ?_, ?_, ?_⟩ <;> first | exact he | trivial
  simp only [if_neg h24]
  by_cases h25 : m.ins.op = 25
  · simp only [if_pos h25]
    split
    · refine ⟨?_, ?_, ?_, ?_, ?_⟩ <;> first | exact he | trivial
    · simp only [Mach.done, Mach.waitM, hn]; refine ⟨?_, ?_, ?_, ?_, ?_⟩ <;> first | exact he | trivial
  simp only [if_neg h25]
  by_cases h26 : m.ins.op = 26
  · simp only [if_pos h26, Mach.done, hn, he]; refine ⟨?_, ?_, ?_, ?_, ?_⟩ <;> first | exact he | trivial
  simp only [if_neg h26]
  by_cases h27 : m.ins.op = 27
  · simp only [if_pos h27, Mach.done, hn]; refine ⟨?_, ?_, ?_, ?_, ?_⟩ <;> first | exact he | trivial
  simp only [if_neg h27]
  split
  · refine ⟨?_, ?_, ?_, ?_, ?_⟩ <;> first | exact he | trivial
  · simp only [Mach.alu, Mach.setX, Mach.done, hn]
    refine ⟨?_, ?_, ?_, ?_, ?_⟩ <;> first | exact he | trivial
end Go.Proofs.Ytbllialcfmpkaaa
