/- Merged: Exec, StepVm, RunPlain, LoopPlain. -/
import Derived.Test.YtokppdegklfkmaaGreatDoorPkVmOpsG
import Derived.StillTailTactics
set_option linter.unusedVariables false
set_option linter.unusedSimpArgs false
set_option linter.unusedSectionVars false
namespace Go.Proofs.YtokppdegklfkmaaGreatDoor
section
open Go.RowKit

/-- What the method of the operation does. -/
def Mach.exec (m : Mach) : Mach :=
  if m.ins.op = 0 then { m with v := { m.v with state := 2 }, eff := { m.eff with kind := 5 } }
  else if m.ins.op = 18 then m.jumpM (m.ins.imm % pw2 m.v.width)
  else if m.ins.op = 19 then (if m.v.r m.ins.a.toNat = 0 then m.jumpM (m.ins.imm % pw2 m.v.width) else m)
  else if m.ins.op = 20 then (if m.v.r m.ins.a.toNat = 0 then m else m.jumpM (m.ins.imm % pw2 m.v.width))
  else if m.ins.op = 21 then (m.setX (m.v.pc + 1)).jumpM (m.ins.imm % pw2 m.v.width)
  else if m.ins.op = 22 then m.jumpM (m.v.r m.ins.a.toNat)
  else if m.ins.op = 23 then (if ¬ (m.v.r m.ins.b.toNat + m.ins.imm) % pw2 m.v.width % 8 = 0 then m.trapM 3 else m.waitM ⟨1, m.ins.a, 0, (m.v.r m.ins.b.toNat + m.ins.imm) % pw2 m.v.width, 0⟩)
  else if m.ins.op = 24 then (if ¬ (m.v.r m.ins.b.toNat + m.ins.imm) % pw2 m.v.width % 8 = 0 then m.trapM 3 else m.waitM ⟨2, 0, 0, (m.v.r m.ins.b.toNat + m.ins.imm) % pw2 m.v.width, m.v.r m.ins.a.toNat⟩)
  else if m.ins.op = 25 then (if m.ins.imm < 0 then m.trapM 4 else m.waitM ⟨3, 0, m.ins.imm, 0, 0⟩)
  else if m.ins.op = 26 then { m with eff := { m.eff with kind := 4 } }
  else if m.ins.op = 27 then m
  else if (m.ins.op = 7 ∨ m.ins.op = 8) ∧ m.v.r m.ins.c.toNat = 0 then m.trapM 1
  else m.alu

def opL : List Nat := [42, 43, 44, 45, 46, 47, 48, 49, 50, 51, 52, 53,
  54, 55, 56, 57, 58, 59, 60, 61, 62, 63, 64, 65, 66, 67, 68, 69]

def opF (op : Int) : Nat := opL.getD op.toNat 0
theorem exec_any (b : Nat) (m : Mach) (w : World) (h : MB w b m) (hf : m.fits) (h0 : 0 ≤ m.ins.op) (h1 : m.ins.op ≤ 27) :
    Calls Tryz.prog (opF m.ins.op) #[.pointer (some ⟨b, 0, none⟩)] w (ST b m.exec w) := by
  have ho : m.ins.op = 0 ∨ m.ins.op = 1 ∨ m.ins.op = 2 ∨ m.ins.op = 3 ∨ m.ins.op = 4 ∨ m.ins.op = 5 ∨ m.ins.op = 6 ∨ m.ins.op = 7 ∨ m.ins.op = 8 ∨ m.ins.op = 9 ∨ m.ins.op = 10 ∨ m.ins.op = 11 ∨ m.ins.op = 12 ∨ m.ins.op = 13 ∨ m.ins.op = 14 ∨ m.ins.op = 15 ∨ m.ins.op = 16 ∨ m.ins.op = 17 ∨ m.ins.op = 18 ∨ m.ins.op = 19 ∨ m.ins.op = 20 ∨ m.ins.op = 21 ∨ m.ins.op = 22 ∨ m.ins.op = 23 ∨ m.ins.op = 24 ∨ m.ins.op = 25 ∨ m.ins.op = 26 ∨ m.ins.op = 27 := by omega
  have alu : ∀ k : Int, m.ins.op = k → (k = 1 ∨ k = 2 ∨ k = 3 ∨ k = 4 ∨ k = 5 ∨ k = 6 ∨ k = 9 ∨ k = 10 ∨ k = 11 ∨ k = 12 ∨ k = 13 ∨ k = 14 ∨ k = 15 ∨ k = 16 ∨ k = 17) → m.exec = m.alu := by
    intro k hk hs
    unfold Mach.exec
    rw [hk]
    repeat rw [if_neg (by omega)]
  rcases ho with ho | ho | ho | ho | ho | ho | ho | ho | ho | ho | ho | ho | ho | ho | ho | ho | ho | ho | ho | ho | ho | ho | ho | ho | ho | ho | ho | ho
  · have e : m.exec = { m with v := { m.v with state := 2 }, eff := { m.eff with kind := 5 } } := by unfold Mach.exec; rw [if_pos ho]
    rw [e, ho]; exact halt_any b m w h hf
  · rw [alu 1 ho (by omega), ho]; exact li_any b m w h hf ho
  · rw [alu 2 ho (by omega), ho]; exact lih_any b m w h hf ho
  · rw [alu 3 ho (by omega), ho]; exact mov_any b m w h hf ho
  · rw [alu 4 ho (by omega), ho]; exact add_any b m w h hf ho
  · rw [alu 5 ho (by omega), ho]; exact sub_any b m w h hf ho
  · rw [alu 6 ho (by omega), ho]; exact mul_any b m w h hf ho
  · by_cases hc : m.v.r m.ins.c.toNat = 0
    · have e : m.exec = m.trapM 1 := by
        unfold Mach.exec; rw [ho]; repeat rw [if_neg (by decide)]
        rw [if_pos ⟨.inl rfl, hc⟩]
      rw [e, ho]; exact div_no b m w h hf hc
    · have e : m.exec = m.alu := by
        unfold Mach.exec; rw [ho]; repeat rw [if_neg (by decide)]
        rw [if_neg (fun q => hc q.2)]
      rw [e, ho]; exact div_ok b m w h hf ho hc
  · by_cases hc : m.v.r m.ins.c.toNat = 0
    · have e : m.exec = m.trapM 1 := by
        unfold Mach.exec; rw [ho]; repeat rw [if_neg (by decide)]
        rw [if_pos ⟨.inr rfl, hc⟩]
      rw [e, ho]; exact rem_no b m w h hf hc
    · have e : m.exec = m.alu := by
        unfold Mach.exec; rw [ho]; repeat rw [if_neg (by decide)]
        rw [if_neg (fun q => hc q.2)]
      rw [e, ho]; exact rem_ok b m w h hf ho hc
  · rw [alu 9 ho (by omega), ho]; exact and_any b m w h hf ho
  · rw [alu 10 ho (by omega), ho]; exact or_any b m w h hf ho
  · rw [alu 11 ho (by omega), ho]; exact xor_any b m w h hf ho
  · rw [alu 12 ho (by omega), ho]; exact shl_any b m w h hf ho
  · rw [alu 13 ho (by omega), ho]; exact shr_any b m w h hf ho
  · rw [alu 14 ho (by omega), ho]; exact addi_any b m w h hf ho
  · rw [alu 15 ho (by omega), ho]; exact slt_any b m w h hf ho
  · rw [alu 16 ho (by omega), ho]; exact sltu_any b m w h hf ho
  · rw [alu 17 ho (by omega), ho]; exact seq_any b m w h hf ho
  · have e : m.exec = m.jumpM (m.ins.imm % pw2 m.v.width) := by unfold Mach.exec; rw [if_neg (by omega), if_pos ho]
    rw [e, ho]; exact jmp_any b m w h hf
  · have e : m.exec = (if m.v.r m.ins.a.toNat = 0 then m.jumpM (m.ins.imm % pw2 m.v.width) else m) := by unfold Mach.exec; rw [if_neg (by omega), if_neg (by omega), if_pos ho]
    rw [e, ho]; exact beqz_any b m w h hf
  · have e : m.exec = (if m.v.r m.ins.a.toNat = 0 then m else m.jumpM (m.ins.imm % pw2 m.v.width)) := by unfold Mach.exec; rw [if_neg (by omega), if_neg (by omega), if_neg (by omega), if_pos ho]
    rw [e, ho]; exact bnez_any b m w h hf
  · have e : m.exec = (m.setX (m.v.pc + 1)).jumpM (m.ins.imm % pw2 m.v.width) := by
      unfold Mach.exec; rw [ho]; repeat rw [if_neg (by decide)]
      rw [if_pos rfl]
    rw [e, ho]; exact jal_any b m w h hf
  · have e : m.exec = m.jumpM (m.v.r m.ins.a.toNat) := by
      unfold Mach.exec; rw [ho]; repeat rw [if_neg (by decide)]
      rw [if_pos rfl]
    rw [e, ho]; exact jr_any b m w h hf
  · have e : m.exec = (if ¬ (m.v.r m.ins.b.toNat + m.ins.imm) % pw2 m.v.width % 8 = 0 then m.trapM 3 else m.waitM ⟨1, m.ins.a, 0, (m.v.r m.ins.b.toNat + m.ins.imm) % pw2 m.v.width, 0⟩) := by
      unfold Mach.exec; repeat rw [if_neg (show ¬ m.ins.op = _ by omega)]
      rw [if_pos ho]
    rw [e, ho]; exact ld_any b m w h hf
  · have e : m.exec = (if ¬ (m.v.r m.ins.b.toNat + m.ins.imm) % pw2 m.v.width % 8 = 0 then m.trapM 3 else m.waitM ⟨2, 0, 0, (m.v.r m.ins.b.toNat + m.ins.imm) % pw2 m.v.width, m.v.r m.ins.a.toNat⟩) := by
      unfold Mach.exec; repeat rw [if_neg (show ¬ m.ins.op = _ by omega)]
      rw [if_pos ho]
    rw [e, ho]; exact st_any b m w h hf
  · have e : m.exec = (if m.ins.imm < 0 then m.trapM 4 else m.waitM ⟨3, 0, m.ins.imm, 0, 0⟩) := by
      unfold Mach.exec; repeat rw [if_neg (show ¬ m.ins.op = _ by omega)]
      rw [if_pos ho]
    rw [e, ho]; exact sys_any b m w h hf
  · have e : m.exec = { m with eff := { m.eff with kind := 4 } } := by
      unfold Mach.exec; repeat rw [if_neg (show ¬ m.ins.op = _ by omega)]
      rw [if_pos ho]
    rw [e, ho]; exact yield_any b m w h hf
  · have e : m.exec = m := by
      unfold Mach.exec; repeat rw [if_neg (show ¬ m.ins.op = _ by omega)]
      rw [if_pos ho]
    rw [e, ho]; exact nop_any b m w h hf

/-! ### The plain step -/
def Mach.done (m : Mach) : Mach := { m with v := { m.v with pc := m.next } }
theorem insErr_target {x : Ins} {n : Int} (h : insErr x n = 0) : 0 ≤ x.op ∧ x.op ≤ 27 ∧ (uses x.op 116 = true → 0 ≤ x.imm ∧ x.imm < n) ∧ (0 ≤ x.a ∧ x.a < 16) ∧ (0 ≤ x.b ∧ x.b < 16) ∧ (0 ≤ x.c ∧ x.c < 16) := by
  unfold insErr at h
  by_cases h1 : x.op < 0 ∨ 27 < x.op
  · rw [if_pos h1] at h; omega
  rw [if_neg h1] at h
  by_cases h2 : (regOk x.a (uses x.op 97) && regOk x.b (uses x.op 98) && regOk x.c (uses x.op 99) && (x.imm == 0 || uses x.op 105 || uses x.op 116)) = false
  · rw [if_pos h2] at h; omega
  rw [if_neg h2] at h
  simp only [Bool.not_eq_false, Bool.and_eq_true] at h2
  obtain ⟨⟨⟨ha, hb⟩, hc⟩, _⟩ := h2
  have rg : ∀ v u, regOk v u = true → 0 ≤ v ∧ v < 16 := by
    intro v u hv
    simp only [regOk, Bool.or_eq_true, beq_iff_eq, Bool.and_eq_true, decide_eq_true_eq] at hv
    omega
  refine ⟨by omega, by omega, fun hu => ?_, rg _ _ ha, rg _ _ hb, rg _ _ hc⟩
  by_cases h3 : uses x.op 116 = true ∧ (x.imm < 0 ∨ n ≤ x.imm)
  · rw [if_pos h3] at h; omega
  · have : ¬ (x.imm < 0 ∨ n ≤ x.imm) := fun q => h3 ⟨hu, q⟩
    omega
theorem jump_in (m : Mach) (hn : m.pn ≤ 4096) (h : 0 ≤ m.ins.imm ∧ m.ins.imm < m.pn) : m.jumpM (m.ins.imm % pw2 m.v.width) = { m with next := m.ins.imm } := by
  have h2 : m.ins.imm % pw2 m.v.width = m.ins.imm := Int.emod_eq_of_lt h.1 (by unfold pw2; split <;> omega)
  unfold Mach.jumpM
  rw [h2, if_neg (by omega)]
theorem exec_step (m : Mach) (hf : m.fits) (hx : insErr m.ins m.pn = 0) (he : m.eff = Eff.none) (hn : m.next = m.v.pc + 1) :
    m.exec.done.v = (stepI m.v m.ins m.pn).1 ∧ m.exec.eff = (stepI m.v m.ins m.pn).2 ∧ m.exec.pa = m.pa ∧ m.exec.pn = m.pn ∧ m.exec.pk = m.pk := by
  obtain ⟨o0, o1, ht, _⟩ := insErr_target hx
  have hpn := hf.pn
  have hpc := hf.pc
  unfold stepI Mach.exec
  by_cases h0 : m.ins.op = 0
  · simp only [if_pos h0, Mach.done, hn, he]; refine ⟨?_, ?_, ?_, ?_, ?_⟩ <;> first | exact he | trivial
  simp only [if_neg h0]
  by_cases h18 : m.ins.op = 18
  · simp only [if_pos h18]
    rw [jump_in m hpn (ht (by rw [h18]; decide))]
    refine ⟨?_, ?_, ?_, ?_, ?_⟩ <;> first | exact he | trivial
  simp only [if_neg h18]
  by_cases h19 : m.ins.op = 19
  · simp only [if_pos h19]
    split
    · rw [jump_in m hpn (ht (by rw [h19]; decide))]
      refine ⟨?_, ?_, ?_, ?_, ?_⟩ <;> first | exact he | trivial
    · simp only [Mach.done, hn]; refine ⟨?_, ?_, ?_, ?_, ?_⟩ <;> first | exact he | trivial
  simp only [if_neg h19]
  by_cases h20 : m.ins.op = 20
  · simp only [if_pos h20]
    split
    · simp only [Mach.done, hn]; refine ⟨?_, ?_, ?_, ?_, ?_⟩ <;> first | exact he | trivial
    · rw [jump_in m hpn (ht (by rw [h20]; decide))]
      refine ⟨?_, ?_, ?_, ?_, ?_⟩ <;> first | exact he | trivial
  simp only [if_neg h20]
  by_cases h21 : m.ins.op = 21
  · simp only [if_pos h21]
    rw [show (m.setX (m.v.pc + 1)).jumpM (m.ins.imm % pw2 m.v.width) = { (m.setX (m.v.pc + 1)) with next := m.ins.imm } from jump_in (m.setX (m.v.pc + 1)) hpn (ht (by rw [h21]; decide))]
    have e : (m.v.pc + 1) % pw2 m.v.width = m.v.pc + 1 := Int.emod_eq_of_lt (by omega) (by unfold pw2; split <;> omega)
    simp only [Mach.setX, Mach.done, e]
    refine ⟨?_, ?_, ?_, ?_, ?_⟩ <;> first | exact he | trivial
  simp only [if_neg h21]
  by_cases h22 : m.ins.op = 22
  · simp only [if_pos h22, Mach.jumpM]
    split
    · refine ⟨?_, ?_, ?_, ?_, ?_⟩ <;> first | exact he | trivial
    · refine ⟨?_, ?_, ?_, ?_, ?_⟩ <;> first | exact he | trivial
  simp only [if_neg h22]
  by_cases h23 : m.ins.op = 23
  · simp only [if_pos h23]
    split
    · refine ⟨?_, ?_, ?_, ?_, ?_⟩ <;> first | exact he | trivial
    · simp only [Mach.done, Mach.waitM, hn]; refine ⟨?_, ?_, ?_, ?_, ?_⟩ <;> first | exact he | trivial
  simp only [if_neg h23]
  by_cases h24 : m.ins.op = 24
  · simp only [if_pos h24]
    split
    · refine ⟨?_, ?_, ?_, ?_, ?_⟩ <;> first | exact he | trivial
    · simp only [Mach.done, Mach.waitM, hn]; refine ⟨?_, ?_, ?_, ?_, ?_⟩ <;> first | exact he | trivial
  simp only [if_neg h24]
  by_cases h25 : m.ins.op = 25
  · simp only [if_pos h25]
    split
    · refine ⟨?_, ?_, ?_, ?_, ?_⟩ <;> first | exact he | trivial
    · simp only [Mach.done, Mach.waitM, hn]; refine ⟨?_, ?_, ?_, ?_, ?_⟩ <;> first | exact he | trivial
  simp only [if_neg h25]
  by_cases h26 : m.ins.op = 26
  · simp only [if_pos h26, Mach.done, hn, he]; refine ⟨?_, ?_, ?_, ?_, ?_⟩ <;> first | exact he | trivial
  simp only [if_neg h26]
  by_cases h27 : m.ins.op = 27
  · simp only [if_pos h27, Mach.done, hn]; refine ⟨?_, ?_, ?_, ?_, ?_⟩ <;> first | exact he | trivial
  simp only [if_neg h27]
  split
  · refine ⟨?_, ?_, ?_, ?_, ?_⟩ <;> first | exact he | trivial
  · simp only [Mach.alu, Mach.setX, Mach.done, hn]
    refine ⟨?_, ?_, ?_, ?_, ?_⟩ <;> first | exact he | trivial
end
section
open Go.RowKit
attribute [local go_sem ↓] Go.wp_at_zero Go.wp_at_succ
attribute [local go_sem] Mach.get0 Mach.get1 Mach.get2 Mach.get3 Mach.get4 Mach.get5 Mach.get6 Mach.get7 Mach.get8 Mach.get9 Mach.get10 Mach.get11 Mach.get12 Mach.get13 Mach.get14 Mach.get15 Mach.get16 Mach.get17 Mach.get18 Mach.get19 Mach.get20 Mach.get21 Mach.get22 Mach.get23 Mach.get24 Mach.get25 Mach.get26 Mach.get27 Mach.get28 Mach.get29 Mach.get30 Mach.get31 Mach.get32 Mach.get33 Mach.get34 Mach.get35 Mach.get36 
/-- The program's cells: its instructions lie from off on in block g. -/
def PS (w : World) (g off : Nat) (p : List Ins) : Prop := g < w.heap.size ∧ ∀ (i : Nat) (x : Ins), p[i]? = some x →
  w.cell? ⟨g, off + i * 5, none⟩ = some (.int .i64 x.op) ∧ w.cell? ⟨g, off + i * 5 + 1, none⟩ = some (.int .i64 x.a) ∧ w.cell? ⟨g, off + i * 5 + 2, none⟩ = some (.int .i64 x.b) ∧ w.cell? ⟨g, off + i * 5 + 3, none⟩ = some (.int .i64 x.c) ∧ w.cell? ⟨g, off + i * 5 + 4, none⟩ = some (.int .i32 x.imm)
theorem PS.only {b : Nat} {w w' : World} {g off : Nat} {p : List Ins} (h : PS w g off p) (ho : Only b w w') (hb : g ≠ b) : PS w' g off p := by
  refine ⟨Nat.lt_of_lt_of_le h.1 ho.size, fun i x hx => ?_⟩
  obtain ⟨h0, h1, h2, h3, h4⟩ := h.2 i x hx
  exact ⟨(ho.cell h.1 hb).trans h0, (ho.cell h.1 hb).trans h1, (ho.cell h.1 hb).trans h2, (ho.cell h.1 hb).trans h3, (ho.cell h.1 hb).trans h4⟩
theorem PS.below {w w' : World} {g off : Nat} {p : List Ins} (h : PS w g off p) (hb : Below w.heap.size w w') : PS w' g off p := by
  refine ⟨Nat.lt_of_lt_of_le h.1 hb.size, fun i x hx => ?_⟩
  obtain ⟨h0, h1, h2, h3, h4⟩ := h.2 i x hx
  exact ⟨(hb.cell (by exact h.1)).trans h0, (hb.cell (by exact h.1)).trans h1, (hb.cell (by exact h.1)).trans h2, (hb.cell (by exact h.1)).trans h3, (hb.cell (by exact h.1)).trans h4⟩
/-- The table of the methods. -/
def tabA (b : Nat) : Array Value := (opL.map fun f => Value.func (.func f) #[.pointer (some ⟨b, 0, none⟩)] #[]).toArray
def TB (w : World) (t b : Nat) : Prop := w.heap[t]? = some (.cells (tabA b) 1)
theorem callF_any (op : Int) (h0 : 0 ≤ op) (h1 : op ≤ 27) (args : Array Value) (w : World) : Sem.run Tryz.prog (callFunc (opF op) args) w = .ok (.enter (opF op) args) w := by
  have ho : op = 0 ∨ op = 1 ∨ op = 2 ∨ op = 3 ∨ op = 4 ∨ op = 5 ∨ op = 6 ∨ op = 7 ∨ op = 8 ∨ op = 9 ∨ op = 10 ∨ op = 11 ∨ op = 12 ∨ op = 13 ∨ op = 14 ∨ op = 15 ∨ op = 16 ∨ op = 17 ∨ op = 18 ∨ op = 19 ∨ op = 20 ∨ op = 21 ∨ op = 22 ∨ op = 23 ∨ op = 24 ∨ op = 25 ∨ op = 26 ∨ op = 27 := by omega
  rcases ho with rfl | rfl | rfl | rfl | rfl | rfl | rfl | rfl | rfl | rfl | rfl | rfl | rfl | rfl | rfl | rfl | rfl | rfl | rfl | rfl | rfl | rfl | rfl | rfl | rfl | rfl | rfl | rfl
  all_goals
    simp only [opF, opL, Int.toNat, List.getD_eq_getElem?_getD, List.getElem?_cons_succ, List.getElem?_cons_zero, Option.getD_some]
    go_simp
theorem TB.cell {w : World} {t b : Nat} (h : TB w t b) (op : Int) (h0 : 0 ≤ op) (h1 : op ≤ 27) : w.cell? ⟨t, op.toNat, none⟩ = some (.func (.func (opF op)) #[.pointer (some ⟨b, 0, none⟩)] #[]) := by
  unfold TB at h
  simp only [World.cell?, h, tabA]
  have hl : op.toNat < opL.length := by show _ < 28; omega
  simp [opF, List.getD_eq_getElem?_getD, List.getElem?_eq_getElem hl]
theorem TB.lt {w : World} {t b : Nat} (h : TB w t b) : t < w.heap.size := (Array.getElem?_eq_some_iff.1 h).1
theorem TB.only {w w' : World} {t b c : Nat} (h : TB w t b) (ho : Only c w w') (hb : t ≠ c) : TB w' t b := (ho.block t h.lt hb).trans h
def InsPost (b : Nat) (w : World) (e : Ending) (w' : World) : Prop := e = .returned (.slice (some ⟨w.heap.size, 0, none⟩) 28 28) ∧ w' = w.alloc (.cells (tabA b) 1)
theorem instructions_any (b : Nat) (w : World) : Calls Tryz.prog 20 #[.pointer (some ⟨b, 0, none⟩)] w (InsPost b w) := by
  go_enter Tryz.func20, Tryz.ntmps20
  go_wp2
  go_ret
  exact ⟨rfl, rfl⟩

/-- What a valid processor is to the machine. -/
structure Vm.fits (v : Vm) : Prop where
  wide : v.width = 32 ∨ v.width = 39
  len : v.regs.length = 16
  reg : ∀ i, 0 ≤ v.r i ∧ v.r i < pw2 v.width
  pc : 0 ≤ v.pc ∧ v.pc ≤ 4096
/-- A valid program. -/
structure Good (p : List Ins) : Prop where
  len : 1 ≤ p.length ∧ p.length ≤ 4096
  ok : ∀ x ∈ p, insErr x p.length = 0
  imm : ∀ x ∈ p, -2147483648 ≤ x.imm ∧ x.imm ≤ 2147483647
def StepPost (b : Nat) (m : Mach) (p : List Ins) (w : World) (e : Ending) (w' : World) : Prop :=
  e = .returned (.tuple #[]) ∧ ∃ m' : Mach, MB w' b m' ∧ Only b w w' ∧ m'.v = (stepS m.v p).1 ∧ m'.eff = (stepS m.v p).2 ∧ m'.pa = m.pa ∧ m'.pn = m.pn ∧ m'.pk = m.pk

set_option maxRecDepth 100000 in
set_option maxHeartbeats 1000000 in
theorem step_any (b t g off : Nat) (m : Mach) (p : List Ins) (w : World) (h : MB w b m) (hv : m.v.fits) (hp : Good p) (hps : PS w g off p) (hgb : g ≠ b) (hpa : m.pa = some ⟨g, off, none⟩) (hpn : m.pn = p.length) (ht : TB w t b) (htb : t ≠ b) :
    Calls Tryz.prog 21 #[.pointer (some ⟨b, 0, none⟩), .slice (some ⟨t, 0, none⟩) 28 28] w (StepPost b m p w) := by
  obtain ⟨hc, hfr⟩ := h.all
  obtain ⟨pc0, pc1⟩ := hv.pc
  obtain ⟨pl0, pl1⟩ := hp.len
  by_cases hlt : m.v.pc < p.length
  · obtain ⟨x, hx⟩ : ∃ x, p[m.v.pc.toNat]? = some x := ⟨_, List.getElem?_eq_getElem (by omega)⟩
    have hxm := List.mem_of_getElem? hx
    obtain ⟨o0, o1, htg, xa, xb, xc⟩ := insErr_target (hp.ok x hxm)
    obtain ⟨x0, x1, x2, x3, x4⟩ := hps.2 _ _ hx
    have hst : stepS m.v p = stepI m.v x p.length := by unfold stepS; rw [hx]
    obtain ⟨m1, hm1⟩ : ∃ m1 : Mach, m1 = { m with ins := x, next := m.v.pc + 1, eff := Eff.none } := ⟨_, rfl⟩
    have hf1 : m1.fits := by subst hm1; exact ⟨hv.wide, hv.len, hv.reg, xa, xb, xc, hp.imm x hxm, hv.pc, by rw [hpn]; exact pl1⟩
    have hes := exec_step m1 hf1 (by subst hm1; show insErr x m.pn = 0; rw [hpn]; exact hp.ok x hxm) (by subst hm1; rfl) (by subst hm1; rfl)
    have HX := Lib.hid hx
    have HES := Lib.hid hes
    have HM1 := Lib.hid hm1
    have H := Lib.hid h
    have HST := Lib.hid hst
    have htc := ht.cell x.op o0 o1
    have hcf := callF_any x.op o0 o1
    have HT := Lib.hid ht
    have hlt' : m.v.pc < (m.pn : Int) := by rw [hpn]; exact hlt
    have HPN := Lib.hid hpn
    have HPA := Lib.hid hpa
    have HPS := Lib.hid hps
    obtain ⟨n, hn⟩ : ∃ n, n = m.pn := ⟨_, rfl⟩
    have hm0 : MB w b { m with pa := some ⟨g, off, none⟩ } := by rw [← hpa]; exact h
    clear hes hst h ht hx hm1 hps hpn hlt hn hm0
    go_enter Tryz.func21, Tryz.ntmps21
    go_wp2_with fail
    go_quiet (fail)
    go_wp2_with fail
    generalize hw1 : World.drewN _ nq = w1
    have hmb1 : MB w1 b { m with eff := Eff.none } := by
      rw [← hw1]
      unfold MB
      repeat (first | rw [heap_set] | rw [World.heap_drewN] | rw [heap_drew1])
      rw [show w.heap[b]? = _ from H.out]
      kernel_rfl
    have ho1 : Only b w w1 := by
      rw [← hw1]
      repeat (first | with_reducible refine Only.setCell ?_ _ _ | with_reducible refine Only.drewN ?_ _ | with_reducible refine Only.drew ?_ | with_reducible exact Only.refl _ _)
    clear hw1 hc hfr x0 x1 x2 x3 x4 htc
    obtain ⟨hc, hfr⟩ := hmb1.all
    have hp1 := HPS.out.only ho1 hgb
    obtain ⟨x0, x1, x2, x3, x4⟩ := hp1.2 _ _ HX.out
    have HMB1 := Lib.hid hmb1
    have HO1 := Lib.hid ho1
    have hg1 := hp1.1
    have htc := (HT.out.only ho1 htb).cell x.op o0 o1
    clear hmb1 ho1 hp1
    go_still_tail 12, (by kernel_rfl)
    go_wp2_with fail
    generalize hw2 : World.drew _ = w2
    have hmb2 : MB w2 b m1 := by
      rw [← hw2, HM1.out]
      unfold MB
      repeat (first | rw [heap_set] | rw [World.heap_drewN] | rw [heap_drew1])
      rw [show w1.heap[b]? = _ from HMB1.out]
      kernel_rfl
    have ho2 : Only b w1 w2 := by
      rw [← hw2]
      repeat (first | with_reducible refine Only.setCell ?_ _ _ | with_reducible refine Only.drewN ?_ _ | with_reducible refine Only.drew ?_ | with_reducible exact Only.refl _ _)
    have HO2 := Lib.hid (HO1.out.trans ho2)
    have hop : opF x.op = opF m1.ins.op := by rw [HM1.out]
    rw [hop]
    clear hw2 hc hfr x0 x1 x2 x3 x4 htc hcf ho2 hop
    refine (exec_any b m1 _ hmb2 hf1 (by rw [HM1.out]; exact o0) (by rw [HM1.out]; exact o1)).mono ?_
    rintro e w3 ⟨rfl, hm3, ho3⟩
    obtain ⟨hc, hfr⟩ := hm3.all
    have HO3 := Lib.hid (HO2.out.trans ho3)
    have H3 := Lib.hid hm3
    clear hmb2 hm3 ho3
    go_wp2
    go_end0
    obtain ⟨e1, e2, e3, e4, e5⟩ := HES.out
    have q1 : m1.v = m.v := by rw [HM1.out]
    have q2 : m1.ins = x := by rw [HM1.out]
    have q3 : m1.pa = m.pa ∧ m1.pn = m.pn ∧ m1.pk = m.pk := by rw [HM1.out]; exact ⟨rfl, rfl, rfl⟩
    rw [q1, q2, q3.2.1, HPN.out] at e1 e2
    refine ⟨rfl, m1.exec.done, ?_, HO3.out.setCell _ _, ?_, ?_, e3.trans q3.1, e4.trans q3.2.1, e5.trans q3.2.2⟩
    · unfold MB
      rw [heap_set, show w3.heap[b]? = _ from H3.out]
      kernel_rfl
    · rw [HST.out]; exact e1
    · rw [HST.out]; exact e2
  · have hge : (m.pn : Int) ≤ m.v.pc := by rw [hpn]; omega
    have hst : stepS m.v p = m.v.trap 2 := by unfold stepS; rw [List.getElem?_eq_none (by omega)]
    have H := Lib.hid h
    have HST := Lib.hid hst
    clear h hst hps ht hpa hpn hlt
    go_enter Tryz.func21, Tryz.ntmps21
    go_wp2_with fail
    go_quiet (fail)
    go_wp2_with fail
    generalize hw1 : World.drewN _ nq = w1
    have hmb1 : MB w1 b { m with eff := Eff.none } := by
      rw [← hw1]
      unfold MB
      repeat (first | rw [heap_set] | rw [World.heap_drewN] | rw [heap_drew1])
      rw [show w.heap[b]? = _ from H.out]
      kernel_rfl
    have ho1 : Only b w w1 := by
      rw [← hw1]
      repeat (first | with_reducible refine Only.setCell ?_ _ _ | with_reducible refine Only.drewN ?_ _ | with_reducible refine Only.drew ?_ | with_reducible exact Only.refl _ _)
    clear hw1 hc hfr
    refine (trap_any b _ _ _ hmb1).mono ?_
    rintro e w3 ⟨rfl, hm3, ho3⟩
    have HO3 := Lib.hid (ho1.trans ho3)
    have H3 := Lib.hid hm3
    clear hmb1 hm3 ho3 ho1
    go_wp2
    go_end0
    exact ⟨rfl, _, H3.out, HO3.out, by rw [HST.out]; rfl, by rw [HST.out]; rfl, rfl, rfl, rfl⟩
end
section
open Go.RowKit

/-- Up to n steps, beginning behind a step that had this effect. -/
def runF (p : List Ins) : Nat → Vm × Eff → Vm × Nat × Eff
  | 0, s => (s.1, 0, s.2)
  | n + 1, s => if s.2.kind = 0 then ((runF p n (stepS s.1 p)).1, (runF p n (stepS s.1 p)).2.1 + 1, (runF p n (stepS s.1 p)).2.2) else (s.1, 0, s.2)
theorem runF_stop {p : List Ins} {s : Vm × Eff} (h : ¬ s.2.kind = 0) : ∀ n, runF p n s = (s.1, 0, s.2)
  | 0 => rfl
  | n + 1 => by rw [runF, if_neg h]
theorem runF_go {p : List Ins} {s : Vm × Eff} (h : s.2.kind = 0) (n : Nat) : runF p (n + 1) s = ((runF p n (stepS s.1 p)).1, (runF p n (stepS s.1 p)).2.1 + 1, (runF p n (stepS s.1 p)).2.2) := by rw [runF, if_pos h]
/-- The run as the loop goes: k rounds are done, n - k are still to come. -/
def runAt (p : List Ins) (n k : Nat) (s : Vm × Eff) : Vm × Nat × Eff := ((runF p (n - k) s).1, (runF p (n - k) s).2.1 + k, (runF p (n - k) s).2.2)
theorem runAt_next {p : List Ins} {n k : Nat} {s : Vm × Eff} (h : s.2.kind = 0) (hk : k < n) : runAt p n k s = runAt p n (k + 1) (stepS s.1 p) := by
  obtain ⟨j, hj⟩ : ∃ j, n - k = j + 1 := ⟨n - k - 1, by omega⟩
  have e : n - (k + 1) = j := by omega
  unfold runAt
  rw [hj, e, runF_go h]
  simp only [Prod.mk.injEq, true_and, and_true]
  omega
theorem runAt_full (p : List Ins) (n : Nat) (s : Vm × Eff) : runAt p n n s = (s.1, n, s.2) := by
  unfold runAt
  rw [Nat.sub_self, runF]
  simp
theorem runAt_stop {p : List Ins} {n k : Nat} {s : Vm × Eff} (h : ¬ s.2.kind = 0) : runAt p n k s = (s.1, k, s.2) := by
  unfold runAt
  rw [runF_stop h]
  simp

theorem Vm.r_out (v : Vm) (hl : v.regs.length = 16) (i : Nat) (h : 16 ≤ i) : v.r i = 0 := by
  unfold Vm.r; rw [List.getD_eq_getElem?_getD, List.getElem?_eq_none (by omega)]; rfl
theorem Vm.setR_len (v : Vm) (i : Nat) (x : Int) : (v.setR i x).regs.length = v.regs.length := by simp [Vm.setR]
theorem Vm.fits.setR {v : Vm} (h : v.fits) (i : Nat) (x : Int) (h0 : 0 ≤ x) (h1 : x < pw2 v.width) (hi : i < 16) : (v.setR i x).fits := by
  refine ⟨h.wide, by rw [Vm.setR_len]; exact h.len, fun j => ?_, h.pc⟩
  rw [Vm.r_set _ _ _ _ h.len hi]
  show 0 ≤ (if i = j then x else v.r j) ∧ (if i = j then x else v.r j) < pw2 v.width
  split
  · exact ⟨h0, h1⟩
  · exact h.reg j
/-- The parts that do not show in 'fits'. -/
theorem Vm.fits.of {v v' : Vm} (h : v.fits) (hw : v'.width = v.width) (hr : v'.regs = v.regs) (hp : 0 ≤ v'.pc ∧ v'.pc ≤ 4096) : v'.fits := by
  refine ⟨by rw [hw]; exact h.wide, by rw [hr]; exact h.len, fun i => ?_, hp⟩
  have : v'.r i = v.r i := by unfold Vm.r; rw [hr]
  rw [this, hw]; exact h.reg i
theorem stepI_fits {v : Vm} {x : Ins} {n : Int} (hf : v.fits) (hx : insErr x n = 0) (hn : n ≤ 4096) (hlt : v.pc < n) : (stepI v x n).1.fits := by
  obtain ⟨o0, o1, ht, ha, hb, hc⟩ := insErr_target hx
  obtain ⟨p0, p1⟩ := hf.pc
  have hpos := pw2_pos v.width
  have hpw : 4096 < pw2 v.width := by unfold pw2; split <;> omega
  have ai : x.a.toNat < 16 := by omega
  have ra := hf.reg x.a.toNat
  unfold stepI
  by_cases h0 : x.op = 0
  · simp only [if_pos h0]; exact hf.of rfl rfl ⟨by show 0 ≤ v.pc + 1; omega, by show v.pc + 1 ≤ 4096; omega⟩
  simp only [if_neg h0]
  by_cases h18 : x.op = 18
  · have := ht (by rw [h18]; decide)
    simp only [if_pos h18]; exact hf.of rfl rfl ⟨this.1, by show x.imm ≤ 4096; omega⟩
  simp only [if_neg h18]
  by_cases h19 : x.op = 19
  · have := ht (by rw [h19]; decide)
    simp only [if_pos h19]; refine hf.of rfl rfl ⟨?_, ?_⟩ <;> dsimp only <;> split <;> omega
  simp only [if_neg h19]
  by_cases h20 : x.op = 20
  · have := ht (by rw [h20]; decide)
    simp only [if_pos h20]; refine hf.of rfl rfl ⟨?_, ?_⟩ <;> dsimp only <;> split <;> omega
  simp only [if_neg h20]
  by_cases h21 : x.op = 21
  · have := ht (by rw [h21]; decide)
    simp only [if_pos h21]
    exact (hf.setR x.a.toNat (v.pc + 1) (by omega) (by omega) ai).of rfl rfl ⟨this.1, by show x.imm ≤ 4096; omega⟩
  simp only [if_neg h21]
  by_cases h22 : x.op = 22
  · simp only [if_pos h22]
    split
    · exact hf.of rfl rfl ⟨p0, p1⟩
    · exact hf.of rfl rfl ⟨ra.1, by show v.r x.a.toNat ≤ 4096; omega⟩
  simp only [if_neg h22]
  by_cases h23 : x.op = 23
  · simp only [if_pos h23]
    split
    · exact hf.of rfl rfl ⟨p0, p1⟩
    · exact hf.of rfl rfl ⟨by show 0 ≤ v.pc + 1; omega, by show v.pc + 1 ≤ 4096; omega⟩
  simp only [if_neg h23]
  by_cases h24 : x.op = 24
  · simp only [if_pos h24]
    split
    · exact hf.of rfl rfl ⟨p0, p1⟩
    · exact hf.of rfl rfl ⟨by show 0 ≤ v.pc + 1; omega, by show v.pc + 1 ≤ 4096; omega⟩
  simp only [if_neg h24]
  by_cases h25 : x.op = 25
  · simp only [if_pos h25]
    split
    · exact hf.of rfl rfl ⟨p0, p1⟩
    · exact hf.of rfl rfl ⟨by show 0 ≤ v.pc + 1; omega, by show v.pc + 1 ≤ 4096; omega⟩
  simp only [if_neg h25]
  by_cases h26 : x.op = 26
  · simp only [if_pos h26]; exact hf.of rfl rfl ⟨by show 0 ≤ v.pc + 1; omega, by show v.pc + 1 ≤ 4096; omega⟩
  simp only [if_neg h26]
  by_cases h27 : x.op = 27
  · simp only [if_pos h27]; exact hf.of rfl rfl ⟨by show 0 ≤ v.pc + 1; omega, by show v.pc + 1 ≤ 4096; omega⟩
  simp only [if_neg h27]
  split
  · exact hf.of rfl rfl ⟨p0, p1⟩
  · exact (Vm.fits.of hf (v' := { v with pc := v.pc + 1 }) rfl rfl ⟨by show 0 ≤ v.pc + 1; omega, by show v.pc + 1 ≤ 4096; omega⟩).setR x.a.toNat _ (Int.emod_nonneg _ (by omega)) (Int.emod_lt_of_pos _ hpos.1) ai
theorem stepS_fits {v : Vm} {p : List Ins} (hf : v.fits) (hp : Good p) : (stepS v p).1.fits := by
  unfold stepS
  cases hx : p[v.pc.toNat]? with
  | none => exact hf.of rfl rfl hf.pc
  | some x =>
    have hl : v.pc.toNat < p.length := (List.getElem?_eq_some_iff.1 hx).1
    have := hf.pc
    have := hp.len
    exact stepI_fits hf (hp.ok x (List.mem_of_getElem? hx)) (by omega) (by omega)
end
section
open Go
/-! ### A loop that adds -/
def loopP : List Ins := [⟨19, 1, 0, 0, 4⟩, ⟨4, 2, 2, 1, 0⟩, ⟨14, 1, 1, 0, -1⟩, ⟨18, 0, 0, 0, 0⟩, ⟨21, 3, 0, 0, 6⟩, ⟨0, 0, 0, 0, 0⟩, ⟨6, 2, 2, 4, 0⟩, ⟨22, 3, 0, 0, 0⟩]
def LV (W pc st k s t : Int) : Vm := ⟨W, pc, st, 0, [0, k, s, t, 3, 0, 0, 0, 0, 0, 0, 0, 0, 0, 0, 0], Eff.none⟩
section
variable {W : Int} (hW : W = 32 ∨ W = 39) {k s t : Int}
theorem pw2_big : 4294967296 ≤ pw2 W := by unfold pw2; split <;> omega
theorem loop_0 (h : ¬ k = 0) : stepS (LV W 0 0 k s t) loopP = (LV W 1 0 k s t, Eff.none) := by
  show (({ LV W 0 0 k s t with pc := if k = 0 then 4 else 0 + 1 }, Eff.none) : Vm × Eff) = _
  rw [if_neg h]; rfl
theorem loop_end : stepS (LV W 0 0 0 s t) loopP = (LV W 4 0 0 s t, Eff.none) := rfl
theorem loop_1 (h0 : 0 ≤ s + k) (h1 : s + k < 4294967296) : stepS (LV W 1 0 k s t) loopP = (LV W 2 0 k (s + k) t, Eff.none) := by
  show ((({ LV W 1 0 k s t with pc := 1 + 1 } : Vm).setR 2 ((s + k) % pw2 W), Eff.none) : Vm × Eff) = _
  have := @pw2_big W
  rw [Int.emod_eq_of_lt h0 (by omega)]; rfl
theorem loop_2 (h0 : 1 ≤ k) (h1 : k < 4294967296) : stepS (LV W 2 0 k s t) loopP = (LV W 3 0 (k - 1) s t, Eff.none) := by
  show ((({ LV W 2 0 k s t with pc := 2 + 1 } : Vm).setR 1 ((k + (-1) % pw2 W) % pw2 W), Eff.none) : Vm × Eff) = _
  have h := @pw2_big W
  have e : (k + (-1) % pw2 W) % pw2 W = k - 1 := by
    rw [Int.add_emod_emod, show k + -1 = k - 1 by omega, Int.emod_eq_of_lt (by omega) (by omega)]
  rw [e]; rfl
theorem loop_3 : stepS (LV W 3 0 k s t) loopP = (LV W 0 0 k s t, Eff.none) := rfl
theorem loop_4 : stepS (LV W 4 0 k s t) loopP = (LV W 6 0 k s 5, Eff.none) := rfl
theorem loop_6 (h0 : 0 ≤ s) (h1 : s * 3 < 4294967296) : stepS (LV W 6 0 k s t) loopP = (LV W 7 0 k (s * 3) t, Eff.none) := by
  show ((({ LV W 6 0 k s t with pc := 6 + 1 } : Vm).setR 2 ((s * 3) % pw2 W), Eff.none) : Vm × Eff) = _
  have := @pw2_big W
  rw [Int.emod_eq_of_lt (by omega) (by omega)]; rfl
theorem loop_7 : stepS (LV W 7 0 k s 5) loopP = (LV W 5 0 k s 5, Eff.none) := rfl
theorem loop_5 : stepS (LV W 5 0 k s t) loopP = (LV W 6 2 k s t, ⟨5, 0, 0, 0, 0⟩) := rfl
end
theorem run_add (W : Int) : ∀ (k n : Nat) (s : Int), 0 ≤ s → s + (k : Int) * (k + 1) / 2 ≤ 1000000 → k < 1000 → runF loopP (4 * k + 5 + n) (LV W 0 0 k s 0, Eff.none) = (LV W 6 2 0 ((s + (k : Int) * (k + 1) / 2) * 3) 5, 4 * k + 5, ⟨5, 0, 0, 0, 0⟩)
  | 0, n, s, h0, h1, _ => by
    have e0 : (Eff.none).kind = 0 := rfl
    rw [show 4 * 0 + 5 + n = n + 1 + 1 + 1 + 1 + 1 by omega]
    have es : s + ((0 : Nat) : Int) * (((0 : Nat) : Int) + 1) / 2 = s := by simp
    rw [es] at h1 ⊢
    rw [runF_go e0, show (((LV W 0 0 ((0 : Nat) : Int) s 0, Eff.none) : Vm × Eff)).1 = LV W 0 0 0 s 0 from rfl, loop_end]
    rw [runF_go e0, show (((LV W 4 0 0 s 0, Eff.none) : Vm × Eff)).1 = LV W 4 0 0 s 0 from rfl, loop_4]
    rw [runF_go e0, show (((LV W 6 0 0 s 5, Eff.none) : Vm × Eff)).1 = LV W 6 0 0 s 5 from rfl, loop_6 h0 (by omega)]
    rw [runF_go e0, show (((LV W 7 0 0 (s * 3) 5, Eff.none) : Vm × Eff)).1 = LV W 7 0 0 (s * 3) 5 from rfl, loop_7]
    rw [runF_go e0, show (((LV W 5 0 0 (s * 3) 5, Eff.none) : Vm × Eff)).1 = LV W 5 0 0 (s * 3) 5 from rfl, loop_5]
    rw [runF_stop (by show ¬ (5 : Int) = 0; decide)]
  | k + 1, n, s, h0, h1, h2 => by
    have e0 : (Eff.none).kind = 0 := rfl
    have hsum : ((k + 1 : Nat) : Int) * (((k + 1 : Nat) : Int) + 1) / 2 = ((k + 1 : Nat) : Int) + (k : Int) * (k + 1) / 2 := by
      have : ((k + 1 : Nat) : Int) * (((k + 1 : Nat) : Int) + 1) = (k : Int) * (k + 1) + ((k + 1 : Nat) : Int) * 2 := by
        rw [show ((k + 1 : Nat) : Int) = (k : Int) + 1 from by omega]
        simp only [Int.add_mul, Int.mul_add, Int.mul_one, Int.one_mul]
        omega
      rw [this, Int.add_mul_ediv_right _ _ (by decide)]
      omega
    have hp : 0 ≤ (k : Int) * (k + 1) / 2 := Int.ediv_nonneg (Int.mul_nonneg (by omega) (by omega)) (by decide)
    rw [hsum] at h1 ⊢
    have ih := run_add W k n (s + ((k + 1 : Nat) : Int)) (by omega) (by omega) (by omega)
    rw [show 4 * (k + 1) + 5 + n = (4 * k + 5 + n) + 1 + 1 + 1 + 1 by omega]
    rw [runF_go e0, show (((LV W 0 0 ((k + 1 : Nat) : Int) s 0, Eff.none) : Vm × Eff)).1 = LV W 0 0 ((k + 1 : Nat) : Int) s 0 from rfl, loop_0 (by omega)]
    rw [runF_go e0, show (((LV W 1 0 ((k + 1 : Nat) : Int) s 0, Eff.none) : Vm × Eff)).1 = LV W 1 0 ((k + 1 : Nat) : Int) s 0 from rfl, loop_1 (by omega) (by omega)]
    rw [runF_go e0, show (((LV W 2 0 ((k + 1 : Nat) : Int) (s + ((k + 1 : Nat) : Int)) 0, Eff.none) : Vm × Eff)).1 = LV W 2 0 ((k + 1 : Nat) : Int) (s + ((k + 1 : Nat) : Int)) 0 from rfl, loop_2 (by omega) (by omega)]
    rw [runF_go e0, show (((LV W 3 0 (((k + 1 : Nat) : Int) - 1) (s + ((k + 1 : Nat) : Int)) 0, Eff.none) : Vm × Eff)).1 = LV W 3 0 (((k + 1 : Nat) : Int) - 1) (s + ((k + 1 : Nat) : Int)) 0 from rfl, loop_3]
    rw [show ((k + 1 : Nat) : Int) - 1 = (k : Int) by omega, ih]
    rw [show s + ((k + 1 : Nat) : Int) + (k : Int) * (k + 1) / 2 = s + (((k + 1 : Nat) : Int) + (k : Int) * (k + 1) / 2) by omega]
    simp only [Prod.mk.injEq, true_and, and_true]
    omega
end
end Go.Proofs.YtokppdegklfkmaaGreatDoor
