/- One step of the interpreter. -/
import Derived.Test.YtbllialcfmpkaaaExec
import Derived.StillTailTactics
set_option linter.unusedVariables false
set_option linter.unusedSimpArgs false
set_option linter.unusedSectionVars false
namespace Go.Proofs.Ytbllialcfmpkaaa
open Go.RowKit
attribute [local go_sem ↓] Go.wp_at_zero Go.wp_at_succ
attribute [local go_sem] Mach.get0 Mach.get1 Mach.get2 Mach.get3 Mach.get4 Mach.get5 Mach.get6 Mach.get7 Mach.get8 Mach.get9 Mach.get10 Mach.get11 Mach.get12 Mach.get13 Mach.get14 Mach.get15 Mach.get16 Mach.get17 Mach.get18 Mach.get19 Mach.get20 Mach.get21 Mach.get22 Mach.get23 Mach.get24 Mach.get25 Mach.get26 Mach.get27 Mach.get28 Mach.get29 Mach.get30 Mach.get31 Mach.get32 Mach.get33 Mach.get34 Mach.get35 Mach.get36 
/-- The program's cells: its instructions lie from off on in block g. -/
def PS (w : World) (g off : Nat) (p : List Ins) : Prop := g < w.heap.size ∧ ∀ (i : Nat) (x : Ins), p[i]? = some x →
  w.cell? ⟨g, off + i * 5, none⟩ = some (.int .i64 x.op) ∧ w.cell? ⟨g, off + i * 5 + 1, none⟩ = some (.int .i64 x.a) ∧ w.cell? ⟨g, off + i * 5 + 2, none⟩ = some (.int .i64 x.b) ∧ w.cell? ⟨g, off + i * 5 + 3, none⟩ = some (.int .i64 x.c) ∧ w.cell? ⟨g, off + i * 5 + 4, none⟩ = some (.int .i32 x.imm)
theorem PS.only {b : Nat} {w w' : World} {g off : Nat} {p : List Ins} (h : PS w g off p) (ho : Only b w w') (hb : g ≠ b) : PS w' g off p := by
  refine ⟨Nat.lt_of_lt_of_le h.1 ho.size, fun i x hx => ?_⟩
  obtain ⟨h0, h1, h2, h3, h4⟩ := h.2 i x hx
  exact ⟨(ho.cell h.1 hb).trans h0, (ho.cell h.1 hb).trans h1, (ho.cell h.1 hb).trans h2, (ho.cell h.1 hb).trans h3, (ho.cell h.1 hb).trans h4⟩
theorem PS.below {w w' : World} {g off : Nat} {p : List Ins} (h : PS w g off p) (hb : Below w.heap.size w w') : PS w' g off p := by
  refine ⟨Nat.lt_of_lt_of_le h.1 hb.size, fun i x hx => ?_⟩
  obtain ⟨h0, h1, h2, h3, h4⟩ := h.2 i x hx
  exact ⟨(hb.cell (by exact h.1)).trans h0, (hb.cell (by exact h.1)).trans h1, (hb.cell (by exact h.1)).trans h2, (hb.cell (by exact h.1)).trans h3, (hb.cell (by exact h.1)).trans h4⟩
/-- The table of the methods. -/
def tabA (b : Nat) : Array Value := (opL.map fun f => Value.func (.func f) #[.pointer (some ⟨b, 0, none⟩)] #[]).toArray
def TB (w : World) (t b : Nat) : Prop := w.heap[t]? = some (.cells (tabA b) 1)
theorem callF_any (op : Int) (h0 : 0 ≤ op) (h1 : op ≤ 27) (args : Array Value) (w : World) : Sem.run Try.prog (callFunc (opF op) args) w = .ok (.enter (opF op) args) w := by
  have ho : op = 0 ∨ op = 1 ∨ op = 2 ∨ op = 3 ∨ op = 4 ∨ op = 5 ∨ op = 6 ∨ op = 7 ∨ op = 8 ∨ op = 9 ∨ op = 10 ∨ op = 11 ∨ op = 12 ∨ op = 13 ∨ op = 14 ∨ op = 15 ∨ op = 16 ∨ op = 17 ∨ op = 18 ∨ op = 19 ∨ op = 20 ∨ op = 21 ∨ op = 22 ∨ op = 23 ∨ op = 24 ∨ op = 25 ∨ op = 26 ∨ op = 27 := by omega
  rcases ho with rfl | rfl | rfl | rfl | rfl | rfl | rfl | rfl | rfl | rfl | rfl | rfl | rfl | rfl | rfl | rfl | rfl | rfl | rfl | rfl | rfl | rfl | rfl | rfl | rfl | rfl | rfl | rfl
  all_goals
    simp only [opF, opL, Int.toNat, List.getD_eq_getElem?_getD, List.getElem?_cons_succ, List.getElem?_cons_zero, Option.getD_some]
    go_simp
theorem TB.cell {w : World} {t b : Nat} (h : TB w t b) (op : Int) (h0 : 0 ≤ op) (h1 : op ≤ 27) : w.cell? ⟨t, op.toNat, none⟩ = some (.func (.func (opF op)) #[.pointer (some ⟨b, 0, none⟩)] #[]) := by
  unfold TB at h
  simp only [World.cell?, h, tabA]
  have hl : op.toNat < opL.length := by show _ < 28; omega
  simp [opF, List.getD_eq_getElem?_getD, List.getElem?_eq_getElem hl]
theorem TB.lt {w : World} {t b : Nat} (h : TB w t b) : t < w.heap.size := (Array.getElem?_eq_some_iff.1 h).1
theorem TB.only {w w' : World} {t b c : Nat} (h : TB w t b) (ho : Only c w w') (hb : t ≠ c) : TB w' t b := (ho.block t h.lt hb).trans h
def InsPost (b : Nat) (w : World) (e : Ending) (w' : World) : Prop := e = .returned (.slice (some ⟨w.heap.size, 0, none⟩) 28 28) ∧ w' = w.alloc (.cells (tabA b) 1)
theorem instructions_any (b : Nat) (w : World) : Calls Try.prog 32 #[.pointer (some ⟨b, 0, none⟩)] w (InsPost b w) := by
  go_enter Try.func32, Try.ntmps32
  go_wp2
  go_ret
  exact ⟨rfl, rfl⟩

/-- What a valid processor is to the machine. -/
structure Vm.fits (v : Vm) : Prop where
  wide : v.width = 32 ∨ v.width = 39
  len : v.regs.length = 16
  reg : ∀ i, 0 ≤ v.r i ∧ v.r i < pw2 v.width
  pc : 0 ≤ v.pc ∧ v.pc ≤ 4096
/-- A valid program. -/
structure Good (p : List Ins) : Prop where
  len : 1 ≤ p.length ∧ p.length ≤ 4096
  ok : ∀ x ∈ p, insErr x p.length = 0
  imm : ∀ x ∈ p, -2147483648 ≤ x.imm ∧ x.imm ≤ 2147483647
def StepPost (b : Nat) (m : Mach) (p : List Ins) (w : World) (e : Ending) (w' : World) : Prop :=
  e = .returned (.tuple #[]) ∧ ∃ m' : Mach, MB w' b m' ∧ Only b w w' ∧ m'.v = (stepS m.v p).1 ∧ m'.eff = (stepS m.v p).2 ∧ m'.pa = m.pa ∧ m'.pn = m.pn ∧ m'.pk = m.pk

set_option maxRecDepth 100000 in
set_option maxHeartbeats 1000000 in
theorem step_any (b t g off : Nat) (m : Mach) (p : List Ins) (w : World) (h : MB w b m) (hv : m.v.fits) (hp : Good p) (hps : PS w g off p) (hgb : g ≠ b) (hpa : m.pa = some ⟨g, off, none⟩) (hpn : m.pn = p.length) (ht : TB w t b) (htb : t ≠ b) :
    Calls Try.prog 31 #[.pointer (some ⟨b, 0, none⟩), .slice (some ⟨t, 0, none⟩) 28 28] w (StepPost b m p w) := by
  obtain ⟨hc, hfr⟩ := h.all
  obtain ⟨pc0, pc1⟩ := hv.pc
  obtain ⟨pl0, pl1⟩ := hp.len
  by_cases hlt : m.v.pc < p.length
  · obtain ⟨x, hx⟩ : ∃ x, p[m.v.pc.toNat]? = some x := ⟨_, List.getElem?_eq_getElem (by omega)⟩
    have hxm := List.mem_of_getElem? hx
    obtain ⟨o0, o1, htg, xa, xb, xc⟩ := insErr_target (hp.ok x hxm)
    obtain ⟨x0, x1, x2, x3, x4⟩ := hps.2 _ _ hx
    have hst : stepS m.v p = stepI m.v x p.length := by unfold stepS; rw [hx]
    obtain ⟨m1, hm1⟩ : ∃ m1 : Mach, m1 = { m with ins := x, next := m.v.pc + 1, eff := Eff.none } := ⟨_, rfl⟩
    have hf1 : m1.fits := by subst hm1; exact ⟨hv.wide, hv.len, hv.reg, xa, xb, xc, hp.imm x hxm, hv.pc, by rw [hpn]; exact pl1⟩
    have hes := exec_step m1 hf1 (by subst hm1; show insErr x m.pn = 0; rw [hpn]; exact hp.ok x hxm) (by subst hm1; rfl) (by subst hm1; rfl)
    have HX := Lib.hid hx
    have HES := Lib.hid hes
    have HM1 := Lib.hid hm1
    have H := Lib.hid h
    have HST := Lib.hid hst
    have htc := ht.cell x.op o0 o1
    have hcf := callF_any x.op o0 o1
    have HT := Lib.hid ht
    have hlt' : m.v.pc < (m.pn : Int) := by rw [hpn]; exact hlt
    have HPN := Lib.hid hpn
    have HPA := Lib.hid hpa
    have HPS := Lib.hid hps
    obtain ⟨n, hn⟩ : ∃ n, n = m.pn := ⟨_, rfl⟩
    have hm0 : MB w b { m with pa := some ⟨g, off, none⟩ } := by rw [← hpa]; exact h
    clear hes hst h ht hx hm1 hps hpn hlt hn hm0
    go_enter Try.func31, Try.ntmps31
    go_wp2_with fail
    go_quiet (fail)
    go_wp2_with fail
    generalize hw1 : World.drewN _ nq = w1
    have hmb1 : MB w1 b { m with eff := Eff.none } := by
      rw [← hw1]
      unfold MB
      repeat (first | rw [heap_set] | rw [World.heap_drewN] | rw [heap_drew1])
      rw [show w.heap[b]? = _ from H.out]
      kernel_rfl
    have ho1 : Only b w w1 := by
      rw [← hw1]
      repeat (first | with_reducible refine Only.setCell ?_ _ _ | with_reducible refine Only.drewN ?_ _ | with_reducible refine Only.drew ?_ | with_reducible exact Only.refl _ _)
    clear hw1 hc hfr x0 x1 x2 x3 x4 htc
    obtain ⟨hc, hfr⟩ := hmb1.all
    have hp1 := HPS.out.only ho1 hgb
    obtain ⟨x0, x1, x2, x3, x4⟩ := hp1.2 _ _ HX.out
    have HMB1 := Lib.hid hmb1
    have HO1 := Lib.hid ho1
    have hg1 := hp1.1
    have htc := (HT.out.only ho1 htb).cell x.op o0 o1
    clear hmb1 ho1 hp1
    go_still_tail 12, (by kernel_rfl)
    go_wp2_with fail
    generalize hw2 : World.drew _ = w2
    have hmb2 : MB w2 b m1 := by
      rw [← hw2, HM1.out]
      unfold MB
      repeat (first | rw [heap_set] | rw [World.heap_drewN] | rw [heap_drew1])
      rw [show w1.heap[b]? = _ from HMB1.out]
      kernel_rfl
    have ho2 : Only b w1 w2 := by
      rw [← hw2]
      repeat (first | with_reducible refine Only.setCell ?_ _ _ | with_reducible refine Only.drewN ?_ _ | with_reducible refine Only.drew ?_ | with_reducible exact Only.refl _ _)
    have HO2 := Lib.hid (HO1.out.trans ho2)
    have hop : opF x.op = opF m1.ins.op := by rw [HM1.out]
    rw [hop]
    clear hw2 hc hfr x0 x1 x2 x3 x4 htc hcf ho2 hop
    refine (exec_any b m1 _ hmb2 hf1 (by rw [HM1.out]; exact o0) (by rw [HM1.out]; exact o1)).mono ?_
    rintro e w3 ⟨rfl, hm3, ho3⟩
    obtain ⟨hc, hfr⟩ := hm3.all
    have HO3 := Lib.hid (HO2.out.trans ho3)
    have H3 := Lib.hid hm3
    clear hmb2 hm3 ho3
    go_wp2
    go_end0
    obtain ⟨e1, e2, e3, e4, e5⟩ := HES.out
    have q1 : m1.v = m.v := by rw [HM1.out]
    have q2 : m1.ins = x := by rw [HM1.out]
    have q3 : m1.pa = m.pa ∧ m1.pn = m.pn ∧ m1.pk = m.pk := by rw [HM1.out]; exact ⟨rfl, rfl, rfl⟩
    rw [q1, q2, q3.2.1, HPN.out] at e1 e2
    refine ⟨rfl, m1.exec.done, ?_, HO3.out.setCell _ _, ?_, ?_, e3.trans q3.1, e4.trans q3.2.1, e5.trans q3.2.2⟩
    · unfold MB
      rw [heap_set, show w3.heap[b]? = _ from H3.out]
      kernel_rfl
    · rw [HST.out]; exact e1
    · rw [HST.out]; exact e2
  · have hge : (m.pn : Int) ≤ m.v.pc := by rw [hpn]; omega
    have hst : stepS m.v p = m.v.trap 2 := by unfold stepS; rw [List.getElem?_eq_none (by omega)]
    have H := Lib.hid h
    have HST := Lib.hid hst
    clear h hst hps ht hpa hpn hlt
    go_enter Try.func31, Try.ntmps31
    go_wp2_with fail
    go_quiet (fail)
    go_wp2_with fail
    generalize hw1 : World.drewN _ nq = w1
    have hmb1 : MB w1 b { m with eff := Eff.none } := by
      rw [← hw1]
      unfold MB
      repeat (first | rw [heap_set] | rw [World.heap_drewN] | rw [heap_drew1])
      rw [show w.heap[b]? = _ from H.out]
      kernel_rfl
    have ho1 : Only b w w1 := by
      rw [← hw1]
      repeat (first | with_reducible refine Only.setCell ?_ _ _ | with_reducible refine Only.drewN ?_ _ | with_reducible refine Only.drew ?_ | with_reducible exact Only.refl _ _)
    clear hw1 hc hfr
    refine (trap_any b _ _ _ hmb1).mono ?_
    rintro e w3 ⟨rfl, hm3, ho3⟩
    have HO3 := Lib.hid (ho1.trans ho3)
    have H3 := Lib.hid hm3
    clear hmb1 hm3 ho3 ho1
    go_wp2
    go_end0
    exact ⟨rfl, _, H3.out, HO3.out, by rw [HST.out]; rfl, by rw [HST.out]; rfl, rfl, rfl, rfl⟩
end Go.Proofs.Ytbllialcfmpkaaa
