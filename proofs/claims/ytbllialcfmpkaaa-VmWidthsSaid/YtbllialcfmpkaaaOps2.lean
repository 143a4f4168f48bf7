/- The interpreter's methods, going on: division, comparison, jumps, addresses. (Printed by gen_ops2.py.) -/
import Derived.Test.YtbllialcfmpkaaaAlu
import Derived.Test.YtbllialcfmpkaaaSigned
set_option linter.unusedVariables false
set_option linter.unusedSimpArgs false
set_option linter.unusedSectionVars false
namespace Go.Proofs.Ytbllialcfmpkaaa
open Go.RowKit
attribute [local go_sem ↓] Go.wp_at_zero Go.wp_at_succ
attribute [local go_sem] Mach.get0 Mach.get1 Mach.get2 Mach.get3 Mach.get4 Mach.get5 Mach.get6 Mach.get7 Mach.get8 Mach.get9 Mach.get10 Mach.get11 Mach.get12 Mach.get13 Mach.get14 Mach.get15 Mach.get16 Mach.get17 Mach.get18 Mach.get19 Mach.get20 Mach.get21 Mach.get22 Mach.get23 Mach.get24 Mach.get25 Mach.get26 Mach.get27 Mach.get28 Mach.get29 Mach.get30 Mach.get31 Mach.get32 Mach.get33 Mach.get34 Mach.get35 Mach.get36

theorem Div64_any (x y : Int) (w : World) (hx : 0 ≤ x) (hx1 : x ≤ 18446744073709551615) (hy : 1 ≤ y) (hy1 : y ≤ 18446744073709551615) :
    Calls Try.prog 95 #[.int .u64 0, .int .u64 x, .int .u64 y] w fun e w' => e = .returned (.tuple #[.int .u64 (x / y), .int .u64 (x % y)]) ∧ ∃ n, w' = w.drewN n := by
  have hz : (y == 0) = false := by rw [beq_eq_false_iff_ne]; omega
  have q0 := Int.ediv_nonneg (b := y) hx (by omega)
  have q1 := Int.ediv_le_self y hx
  have r0 := Int.emod_nonneg x (show y ≠ 0 by omega)
  have r1 := Int.emod_lt_of_pos x (show 0 < y by omega)
  go_enter Try.func95, Try.ntmps95
  go_wp2_with fail
  go_quiet (fail)
  go_wp2
  go_ret2
  exact ⟨rfl, _, rfl⟩
theorem divide_ok (b : Nat) (m : Mach) (w : World) (h : MB w b m) (hf : m.fits) (hc : ¬ m.v.r m.ins.c.toNat = 0) :
    Calls Try.prog 84 #[.pointer (some ⟨b, 0, none⟩)] w fun e w' => e = .returned (.tuple #[.int .u64 (m.v.r m.ins.b.toNat / m.v.r m.ins.c.toNat), .int .u64 (m.v.r m.ins.b.toNat % m.v.r m.ins.c.toNat), .bool true]) ∧ ∃ n, w' = w.drewN n := by
  obtain ⟨rb0, rb1⟩ := m.rbd hf m.ins.b.toNat
  obtain ⟨rc0, rc1⟩ := m.rbd hf m.ins.c.toNat
  have hz : (m.v.r m.ins.c.toNat == 0) = false := by rw [beq_eq_false_iff_ne]; exact hc
  have H := Lib.hid h
  clear h hc
  go_enter Try.func84, Try.ntmps84
  have hc1 : 1 ≤ m.v.r m.ins.c.toNat := by rw [beq_eq_false_iff_ne] at hz; omega
  go_wp2_with (first | (go_at_call 83; refine (c_any b m _ (by exact H.out) hf).mono ?_; rintro e w' ⟨rfl, n, rfl⟩) | (go_at_call 82; refine (b_any b m _ (by exact H.out) hf).mono ?_; rintro e w' ⟨rfl, n, rfl⟩) | (go_at_call 95; refine (Div64_any _ _ _ rb0 (by omega) hc1 (by omega)).mono ?_; rintro e w' ⟨rfl, n, rfl⟩))
  go_ret3
  exact ⟨rfl, _, rfl⟩
theorem divide_no (b : Nat) (m : Mach) (w : World) (h : MB w b m) (hf : m.fits) (hc : m.v.r m.ins.c.toNat = 0) :
    Calls Try.prog 84 #[.pointer (some ⟨b, 0, none⟩)] w fun e w' => e = .returned (.tuple #[.int .u64 0, .int .u64 0, .bool false]) ∧ MB w' b (m.trapM 1) ∧ Only b w w' := by
  have H := Lib.hid h
  clear h
  go_enter Try.func84, Try.ntmps84
  go_wp2_with (first | (go_at_call 83; refine (c_any b m _ (by exact H.out) hf).mono ?_; rintro e w' ⟨rfl, n, rfl⟩) | (go_at_call 45; refine (trap_any b m _ _ (by exact H.out)).mono ?_; rintro e w' ⟨rfl, hm, ho⟩))
  go_ret3
  exact ⟨rfl, by assumption, Only.trans2 (by assumption) (by repeat (first | with_reducible refine Only.drewN ?_ _ | with_reducible exact Only.refl _ _))⟩

theorem div_ok (b : Nat) (m : Mach) (w : World) (h : MB w b m) (hf : m.fits) (hop : m.ins.op = 7) (hc : ¬ m.v.r m.ins.c.toNat = 0) :
    Calls Try.prog 53 #[.pointer (some ⟨b, 0, none⟩)] w (ST b m.alu w) := by
  obtain ⟨rb0, rb1⟩ := m.rbd hf m.ins.b.toNat
  obtain ⟨rc0, rc1⟩ := m.rbd hf m.ins.c.toNat
  have q0 := Int.ediv_nonneg (b := m.v.r m.ins.c.toNat) rb0 (by omega)
  have q1 := Int.ediv_le_self (m.v.r m.ins.c.toNat) rb0
  have hfin : m.setX (m.v.r m.ins.b.toNat / m.v.r m.ins.c.toNat) = m.alu := by
    unfold Mach.alu compute
    rw [hop]
    rfl
  have HE := Lib.hid hfin
  have H := Lib.hid h
  have HC := Lib.hid hc
  clear h hop hfin hc
  go_enter Try.func53, Try.ntmps53
  go_wp2_with (first | (go_at_call 84; refine (divide_ok b m _ (by exact H.out) hf HC.out).mono ?_; rintro e w' ⟨rfl, n, rfl⟩) | (go_at_call 79; refine (set_any b m _ _ (by exact H.out) hf (by first | omega | exact (wrap_u64_bd _).1) (by first | omega | exact (wrap_u64_bd _).2)).mono ?_; rintro e w' ⟨rfl, hm, ho⟩))
  go_end0
  exact ST.of ⟨rfl, by assumption, by assumption⟩ (by repeat (first | with_reducible refine Only.drewN ?_ _ | with_reducible exact Only.refl _ _)) HE.out
theorem div_no (b : Nat) (m : Mach) (w : World) (h : MB w b m) (hf : m.fits) (hc : m.v.r m.ins.c.toNat = 0) :
    Calls Try.prog 53 #[.pointer (some ⟨b, 0, none⟩)] w (ST b (m.trapM 1) w) := by
  have H := Lib.hid h
  have HC := Lib.hid hc
  clear h hc
  go_enter Try.func53, Try.ntmps53
  go_wp2_with (go_at_call 84; refine (divide_no b m _ (by exact H.out) hf HC.out).mono ?_; rintro e w' ⟨rfl, hm, ho⟩)
  go_end0
  exact ⟨rfl, by assumption, by assumption⟩
theorem rem_ok (b : Nat) (m : Mach) (w : World) (h : MB w b m) (hf : m.fits) (hop : m.ins.op = 8) (hc : ¬ m.v.r m.ins.c.toNat = 0) :
    Calls Try.prog 54 #[.pointer (some ⟨b, 0, none⟩)] w (ST b m.alu w) := by
  obtain ⟨rb0, rb1⟩ := m.rbd hf m.ins.b.toNat
  obtain ⟨rc0, rc1⟩ := m.rbd hf m.ins.c.toNat
  have q0 := Int.emod_nonneg (m.v.r m.ins.b.toNat) hc
  have q1 : m.v.r m.ins.b.toNat % m.v.r m.ins.c.toNat < m.v.r m.ins.c.toNat := Int.emod_lt_of_pos _ (by omega)
  have hfin : m.setX (m.v.r m.ins.b.toNat % m.v.r m.ins.c.toNat) = m.alu := by
    unfold Mach.alu compute
    rw [hop]
    rfl
  have HE := Lib.hid hfin
  have H := Lib.hid h
  have HC := Lib.hid hc
  clear h hop hfin hc
  go_enter Try.func54, Try.ntmps54
  go_wp2_with (first | (go_at_call 84; refine (divide_ok b m _ (by exact H.out) hf HC.out).mono ?_; rintro e w' ⟨rfl, n, rfl⟩) | (go_at_call 79; refine (set_any b m _ _ (by exact H.out) hf (by first | omega | exact (wrap_u64_bd _).1) (by first | omega | exact (wrap_u64_bd _).2)).mono ?_; rintro e w' ⟨rfl, hm, ho⟩))
  go_end0
  exact ST.of ⟨rfl, by assumption, by assumption⟩ (by repeat (first | with_reducible refine Only.drewN ?_ _ | with_reducible exact Only.refl _ _)) HE.out
theorem rem_no (b : Nat) (m : Mach) (w : World) (h : MB w b m) (hf : m.fits) (hc : m.v.r m.ins.c.toNat = 0) :
    Calls Try.prog 54 #[.pointer (some ⟨b, 0, none⟩)] w (ST b (m.trapM 1) w) := by
  have H := Lib.hid h
  have HC := Lib.hid hc
  clear h hc
  go_enter Try.func54, Try.ntmps54
  go_wp2_with (go_at_call 84; refine (divide_no b m _ (by exact H.out) hf HC.out).mono ?_; rintro e w' ⟨rfl, hm, ho⟩)
  go_end0
  exact ⟨rfl, by assumption, by assumption⟩
theorem slt_any (b : Nat) (m : Mach) (w : World) (h : MB w b m) (hf : m.fits) (hop : m.ins.op = 15) :
    Calls Try.prog 61 #[.pointer (some ⟨b, 0, none⟩)] w (ST b m.alu w) := by
  obtain ⟨rb0, rb1⟩ := m.rbd hf m.ins.b.toNat
  obtain ⟨rc0, rc1⟩ := m.rbd hf m.ins.c.toNat
  obtain ⟨hc, hfr⟩ := h.all
  have hfin : m.setX (truth (decide (signed m.v.width (m.v.r m.ins.b.toNat) < signed m.v.width (m.v.r m.ins.c.toNat)))) = m.alu := by
    unfold Mach.alu compute
    rw [hop]
    rfl
  have HE := Lib.hid hfin
  have H := Lib.hid h
  clear h hop hfin
  go_enter Try.func61, Try.ntmps61
  go_wp2_with fail
  go_region_with (first | (go_at_call 82; refine (b_any b m _ (by exact H.out) hf).mono ?_; rintro e w' ⟨rfl, n, rfl⟩) | (go_at_call 83; refine (c_any b m _ (by exact H.out) hf).mono ?_; rintro e w' ⟨rfl, n, rfl⟩) | (go_at_call 14; refine (Signed_any _ _ _ (by omega) (by omega)).mono ?_; rintro e w' ⟨rfl, rfl⟩) | (go_at_call 85; refine (test_any b m _ _ (by exact H.out) hf).mono ?_; rintro e w' ⟨rfl, hm, ho⟩))
  all_goals
    go_end0
    exact ST.of ⟨rfl, by assumption, by assumption⟩ (by repeat (first | with_reducible refine Only.drewN ?_ _ | with_reducible exact Only.refl _ _)) HE.out
theorem jmp_any (b : Nat) (m : Mach) (w : World) (h : MB w b m) (hf : m.fits) : Calls Try.prog 64 #[.pointer (some ⟨b, 0, none⟩)] w (ST b (m.jumpM (m.ins.imm % pw2 m.v.width)) w) := by
  obtain ⟨im0, im1⟩ := m.ibd
  have H := Lib.hid h
  clear h
  go_enter Try.func64, Try.ntmps64
  go_wp2_with (first | (go_at_call 80; refine (imm_any b m _ (by exact H.out) hf).mono ?_; rintro e w' ⟨rfl, n, rfl⟩) | (go_at_call 86; refine (jump_any b m _ _ (by exact H.out) hf (by omega) (by omega)).mono ?_; rintro e w' ⟨rfl, hm, ho⟩))
  go_end0
  exact ST.of ⟨rfl, by assumption, by assumption⟩ (by repeat (first | with_reducible refine Only.drewN ?_ _ | with_reducible exact Only.refl _ _)) rfl
theorem jr_any (b : Nat) (m : Mach) (w : World) (h : MB w b m) (hf : m.fits) : Calls Try.prog 68 #[.pointer (some ⟨b, 0, none⟩)] w (ST b (m.jumpM (m.v.r m.ins.a.toNat)) w) := by
  obtain ⟨ra0, ra1⟩ := m.rbd hf m.ins.a.toNat
  have H := Lib.hid h
  clear h
  go_enter Try.func68, Try.ntmps68
  go_wp2_with (first | (go_at_call 81; refine (a_any b m _ (by exact H.out) hf).mono ?_; rintro e w' ⟨rfl, n, rfl⟩) | (go_at_call 86; refine (jump_any b m _ _ (by exact H.out) hf (by omega) (by omega)).mono ?_; rintro e w' ⟨rfl, hm, ho⟩))
  go_end0
  exact ST.of ⟨rfl, by assumption, by assumption⟩ (by repeat (first | with_reducible refine Only.drewN ?_ _ | with_reducible exact Only.refl _ _)) rfl

theorem beqz_any (b : Nat) (m : Mach) (w : World) (h : MB w b m) (hf : m.fits) : Calls Try.prog 65 #[.pointer (some ⟨b, 0, none⟩)] w (ST b (if m.v.r m.ins.a.toNat = 0 then m.jumpM (m.ins.imm % pw2 m.v.width) else m) w) := by
  obtain ⟨im0, im1⟩ := m.ibd
  have H := Lib.hid h
  clear h
  by_cases ha : m.v.r m.ins.a.toNat = 0
  · rw [if_pos ha]
    go_enter Try.func65, Try.ntmps65
    go_wp2_with (first | (go_at_call 81; refine (a_any b m _ (by exact H.out) hf).mono ?_; rintro e w' ⟨rfl, n, rfl⟩) | (go_at_call 80; refine (imm_any b m _ (by exact H.out) hf).mono ?_; rintro e w' ⟨rfl, n, rfl⟩) | (go_at_call 86; refine (jump_any b m _ _ (by exact H.out) hf (by omega) (by omega)).mono ?_; rintro e w' ⟨rfl, hm, ho⟩))
    go_end0
    exact ST.of ⟨rfl, by assumption, by assumption⟩ (by repeat (first | with_reducible refine Only.drewN ?_ _ | with_reducible exact Only.refl _ _)) rfl
  · rw [if_neg ha]
    have hz : (m.v.r m.ins.a.toNat == 0) = false := by rw [beq_eq_false_iff_ne]; exact ha
    have hz2 : (m.v.r m.ins.a.toNat != 0) = true := by rw [bne_iff_ne]; exact ha
    clear ha
    go_enter Try.func65, Try.ntmps65
    go_wp2_with (first | (go_at_call 81; refine (a_any b m _ (by exact H.out) hf).mono ?_; rintro e w' ⟨rfl, n, rfl⟩) | (go_at_call 80; refine (imm_any b m _ (by exact H.out) hf).mono ?_; rintro e w' ⟨rfl, n, rfl⟩) | (go_at_call 86; refine (jump_any b m _ _ (by exact H.out) hf (by omega) (by omega)).mono ?_; rintro e w' ⟨rfl, hm, ho⟩))
    go_end0
    exact ⟨rfl, H.out, by repeat (first | with_reducible refine Only.drewN ?_ _ | with_reducible exact Only.refl _ _)⟩
theorem bnez_any (b : Nat) (m : Mach) (w : World) (h : MB w b m) (hf : m.fits) : Calls Try.prog 66 #[.pointer (some ⟨b, 0, none⟩)] w (ST b (if m.v.r m.ins.a.toNat = 0 then m else m.jumpM (m.ins.imm % pw2 m.v.width)) w) := by
  obtain ⟨im0, im1⟩ := m.ibd
  have H := Lib.hid h
  clear h
  by_cases ha : m.v.r m.ins.a.toNat = 0
  · rw [if_pos ha]
    go_enter Try.func66, Try.ntmps66
    go_wp2_with (first | (go_at_call 81; refine (a_any b m _ (by exact H.out) hf).mono ?_; rintro e w' ⟨rfl, n, rfl⟩) | (go_at_call 80; refine (imm_any b m _ (by exact H.out) hf).mono ?_; rintro e w' ⟨rfl, n, rfl⟩) | (go_at_call 86; refine (jump_any b m _ _ (by exact H.out) hf (by omega) (by omega)).mono ?_; rintro e w' ⟨rfl, hm, ho⟩))
    go_end0
    exact ⟨rfl, H.out, by repeat (first | with_reducible refine Only.drewN ?_ _ | with_reducible exact Only.refl _ _)⟩
  · rw [if_neg ha]
    have hz : (m.v.r m.ins.a.toNat == 0) = false := by rw [beq_eq_false_iff_ne]; exact ha
    have hz2 : (m.v.r m.ins.a.toNat != 0) = true := by rw [bne_iff_ne]; exact ha
    clear ha
    go_enter Try.func66, Try.ntmps66
    go_wp2_with (first | (go_at_call 81; refine (a_any b m _ (by exact H.out) hf).mono ?_; rintro e w' ⟨rfl, n, rfl⟩) | (go_at_call 80; refine (imm_any b m _ (by exact H.out) hf).mono ?_; rintro e w' ⟨rfl, n, rfl⟩) | (go_at_call 86; refine (jump_any b m _ _ (by exact H.out) hf (by omega) (by omega)).mono ?_; rintro e w' ⟨rfl, hm, ho⟩))
    go_end0
    exact ST.of ⟨rfl, by assumption, by assumption⟩ (by repeat (first | with_reducible refine Only.drewN ?_ _ | with_reducible exact Only.refl _ _)) rfl
theorem setR_bd (m : Mach) (hf : m.fits) (x : Int) (h0 : 0 ≤ x) (h1 : x < pw2 m.v.width) : { m with v := m.v.setR m.ins.a.toNat x : Mach }.fits := by
  have ha := hf.a
  refine ⟨hf.wide, ?_, fun i => ?_, hf.a, hf.b, hf.c, hf.imm, hf.pc, hf.pn⟩
  · show (m.v.regs.set _ _).length = 16
    rw [List.length_set]; exact hf.len
  · show 0 ≤ (m.v.setR _ _).r i ∧ (m.v.setR _ _).r i < pw2 m.v.width
    rw [m.v.r_set _ _ _ hf.len (by omega)]
    split
    · exact ⟨h0, h1⟩
    · exact hf.reg i
theorem setX_fits (m : Mach) (hf : m.fits) (x : Int) : (m.setX x).fits := by
  have h := pw2_pos m.v.width
  exact setR_bd m hf _ (Int.emod_nonneg _ (by omega)) (Int.emod_lt_of_pos _ h.1)
theorem jal_any (b : Nat) (m : Mach) (w : World) (h : MB w b m) (hf : m.fits) : Calls Try.prog 67 #[.pointer (some ⟨b, 0, none⟩)] w (ST b ((m.setX (m.v.pc + 1)).jumpM (m.ins.imm % pw2 m.v.width)) w) := by
  obtain ⟨hc, hfr⟩ := h.all
  obtain ⟨pc0, pc1⟩ := hf.pc
  obtain ⟨im0, im1⟩ := m.ibd
  have hf2 := setX_fits m hf (m.v.pc + 1)
  have H := Lib.hid h
  clear h
  go_enter Try.func67, Try.ntmps67
  go_wp2_with fail
  refine (set_any b m _ _ (by exact H.out) hf (by omega) (by omega)).mono ?_
  rintro e w1 ⟨rfl, hm1, ho1⟩
  have H1 := Lib.hid hm1
  have HO1 := Lib.hid ho1
  clear hm1 ho1 H hc
  go_wp2_with (first | (go_at_call 80; refine (imm_any b (m.setX (m.v.pc + 1)) _ (by exact H1.out) hf2).mono ?_; rintro e w' ⟨rfl, n, rfl⟩) | (go_at_call 86; refine (jump_any b (m.setX (m.v.pc + 1)) _ _ (by exact H1.out) hf2 im0 im1).mono ?_; rintro e w' ⟨rfl, hm, ho⟩))
  go_end0
  exact ST.of ⟨rfl, by assumption, by assumption⟩ (by repeat (first | with_reducible refine Only.drewN ?_ _ | with_reducible exact HO1.out)) rfl
theorem address_ok (b : Nat) (m : Mach) (w : World) (h : MB w b m) (hf : m.fits) (ha : (m.v.r m.ins.b.toNat + m.ins.imm) % pw2 m.v.width % 8 = 0) :
    Calls Try.prog 87 #[.pointer (some ⟨b, 0, none⟩)] w fun e w' => e = .returned (.tuple #[.int .u64 ((m.v.r m.ins.b.toNat + m.ins.imm) % pw2 m.v.width), .bool true]) ∧ ∃ n, w' = w.drewN n := by
  obtain ⟨rb0, rb1⟩ := m.rbd hf m.ins.b.toNat
  obtain ⟨im0, im1⟩ := m.ibd
  have hp := pw2_pos m.v.width
  have ad0 := Int.emod_nonneg (m.v.r m.ins.b.toNat + m.ins.imm) (show pw2 m.v.width ≠ 0 by omega)
  have ad1 := Int.emod_lt_of_pos (m.v.r m.ins.b.toNat + m.ins.imm) hp.1
  have ad2 : (m.v.r m.ins.b.toNat + m.ins.imm) % pw2 m.v.width < 549755813888 := by omega
  have H := Lib.hid h
  have hz : ((m.v.r m.ins.b.toNat + m.ins.imm) % pw2 m.v.width % 8 != 0) = false := by rw [bne_eq_false_iff_eq]; exact ha
  clear h hp ad1 ha
  go_enter Try.func87, Try.ntmps87
  go_wp2_with (first | (go_at_call 82; refine (b_any b m _ (by exact H.out) hf).mono ?_; rintro e w' ⟨rfl, n, rfl⟩) | (go_at_call 80; refine (imm_any b m _ (by exact H.out) hf).mono ?_; rintro e w' ⟨rfl, n, rfl⟩) | (go_at_call 39; refine (reduce_any b m _ _ (by exact H.out) hf (by omega) (by omega)).mono ?_; rintro e w' ⟨rfl, n, rfl⟩))
  go_ret2
  exact ⟨rfl, _, rfl⟩
theorem address_no (b : Nat) (m : Mach) (w : World) (h : MB w b m) (hf : m.fits) (ha : ¬ (m.v.r m.ins.b.toNat + m.ins.imm) % pw2 m.v.width % 8 = 0) :
    Calls Try.prog 87 #[.pointer (some ⟨b, 0, none⟩)] w fun e w' => e = .returned (.tuple #[.int .u64 0, .bool false]) ∧ MB w' b (m.trapM 3) ∧ Only b w w' := by
  obtain ⟨rb0, rb1⟩ := m.rbd hf m.ins.b.toNat
  obtain ⟨im0, im1⟩ := m.ibd
  have hp := pw2_pos m.v.width
  have ad0 := Int.emod_nonneg (m.v.r m.ins.b.toNat + m.ins.imm) (show pw2 m.v.width ≠ 0 by omega)
  have ad1 := Int.emod_lt_of_pos (m.v.r m.ins.b.toNat + m.ins.imm) hp.1
  have ad2 : (m.v.r m.ins.b.toNat + m.ins.imm) % pw2 m.v.width < 549755813888 := by omega
  have H := Lib.hid h
  have hz : ((m.v.r m.ins.b.toNat + m.ins.imm) % pw2 m.v.width % 8 != 0) = true := by rw [bne_iff_ne]; exact ha
  clear h hp ad1 ha
  go_enter Try.func87, Try.ntmps87
  go_wp2_with (first | (go_at_call 82; refine (b_any b m _ (by exact H.out) hf).mono ?_; rintro e w' ⟨rfl, n, rfl⟩) | (go_at_call 80; refine (imm_any b m _ (by exact H.out) hf).mono ?_; rintro e w' ⟨rfl, n, rfl⟩) | (go_at_call 39; refine (reduce_any b m _ _ (by exact H.out) hf (by omega) (by omega)).mono ?_; rintro e w' ⟨rfl, n, rfl⟩) | (go_at_call 45; refine (trap_any b m _ _ (by exact H.out)).mono ?_; rintro e w' ⟨rfl, hm, ho⟩))
  go_ret2
  exact ⟨rfl, by assumption, Only.trans2 (by assumption) (by repeat (first | with_reducible refine Only.drewN ?_ _ | with_reducible exact Only.refl _ _))⟩


theorem ld_any (b : Nat) (m : Mach) (w : World) (h : MB w b m) (hf : m.fits) :
    Calls Try.prog 69 #[.pointer (some ⟨b, 0, none⟩)] w (ST b (if ¬ (m.v.r m.ins.b.toNat + m.ins.imm) % pw2 m.v.width % 8 = 0 then m.trapM 3 else m.waitM ⟨1, m.ins.a, 0, (m.v.r m.ins.b.toNat + m.ins.imm) % pw2 m.v.width, 0⟩) w) := by
  by_cases ha : (m.v.r m.ins.b.toNat + m.ins.imm) % pw2 m.v.width % 8 = 0
  · rw [if_neg (by simpa using ha)]
    obtain ⟨hc, hfr⟩ := h.all
    obtain ⟨a0, a1⟩ := hf.a
    have H := Lib.hid h
    have HA := Lib.hid ha
    clear h ha
    go_enter Try.func69, Try.ntmps69
    go_wp2_with (first | (go_at_call 81; refine (a_any b m _ (by exact H.out) hf).mono ?_; rintro e w' ⟨rfl, n, rfl⟩) | (go_at_call 87; refine (address_ok b m _ (by exact H.out) hf HA.out).mono ?_; rintro e w' ⟨rfl, n, rfl⟩) | (go_at_call 88; refine (wait_any b m _ _ _ _ _ _ (by exact H.out)).mono ?_; rintro e w' ⟨rfl, hm, ho⟩))
    go_end0
    exact ST.of ⟨rfl, by assumption, by assumption⟩ (by repeat (first | with_reducible refine Only.drewN ?_ _ | with_reducible exact Only.refl _ _)) rfl
  · rw [if_pos ha]
    have H := Lib.hid h
    have HA := Lib.hid ha
    clear h ha
    go_enter Try.func69, Try.ntmps69
    go_wp2_with (go_at_call 87; refine (address_no b m _ (by exact H.out) hf HA.out).mono ?_; rintro e w' ⟨rfl, hm, ho⟩)
    go_end0
    exact ⟨rfl, by assumption, by assumption⟩
theorem st_any (b : Nat) (m : Mach) (w : World) (h : MB w b m) (hf : m.fits) :
    Calls Try.prog 70 #[.pointer (some ⟨b, 0, none⟩)] w (ST b (if ¬ (m.v.r m.ins.b.toNat + m.ins.imm) % pw2 m.v.width % 8 = 0 then m.trapM 3 else m.waitM ⟨2, 0, 0, (m.v.r m.ins.b.toNat + m.ins.imm) % pw2 m.v.width, m.v.r m.ins.a.toNat⟩) w) := by
  by_cases ha : (m.v.r m.ins.b.toNat + m.ins.imm) % pw2 m.v.width % 8 = 0
  · rw [if_neg (by simpa using ha)]
    obtain ⟨hc, hfr⟩ := h.all
    obtain ⟨a0, a1⟩ := hf.a
    have H := Lib.hid h
    have HA := Lib.hid ha
    clear h ha
    go_enter Try.func70, Try.ntmps70
    go_wp2_with (first | (go_at_call 81; refine (a_any b m _ (by exact H.out) hf).mono ?_; rintro e w' ⟨rfl, n, rfl⟩) | (go_at_call 87; refine (address_ok b m _ (by exact H.out) hf HA.out).mono ?_; rintro e w' ⟨rfl, n, rfl⟩) | (go_at_call 88; refine (wait_any b m _ _ _ _ _ _ (by exact H.out)).mono ?_; rintro e w' ⟨rfl, hm, ho⟩))
    go_end0
    exact ST.of ⟨rfl, by assumption, by assumption⟩ (by repeat (first | with_reducible refine Only.drewN ?_ _ | with_reducible exact Only.refl _ _)) rfl
  · rw [if_pos ha]
    have H := Lib.hid h
    have HA := Lib.hid ha
    clear h ha
    go_enter Try.func70, Try.ntmps70
    go_wp2_with (go_at_call 87; refine (address_no b m _ (by exact H.out) hf HA.out).mono ?_; rintro e w' ⟨rfl, hm, ho⟩)
    go_end0
    exact ⟨rfl, by assumption, by assumption⟩
theorem sys_any (b : Nat) (m : Mach) (w : World) (h : MB w b m) (hf : m.fits) :
    Calls Try.prog 71 #[.pointer (some ⟨b, 0, none⟩)] w (ST b (if m.ins.imm < 0 then m.trapM 4 else m.waitM ⟨3, 0, m.ins.imm, 0, 0⟩) w) := by
  obtain ⟨hc, hfr⟩ := h.all
  obtain ⟨i0, i1⟩ := hf.imm
  have H := Lib.hid h
  clear h
  by_cases ha : m.ins.imm < 0
  · rw [if_pos ha]
    go_enter Try.func71, Try.ntmps71
    go_wp2_with (go_at_call 45; refine (trap_any b m _ _ (by exact H.out)).mono ?_; rintro e w' ⟨rfl, hm, ho⟩)
    go_end0
    exact ⟨rfl, by assumption, by assumption⟩
  · rw [if_neg ha]
    have ha' : 0 ≤ m.ins.imm := by omega
    go_enter Try.func71, Try.ntmps71
    go_wp2_with (go_at_call 88; refine (wait_any b m _ _ _ _ _ _ (by exact H.out)).mono ?_; rintro e w' ⟨rfl, hm, ho⟩)
    go_end0
    exact ⟨rfl, by assumption, by assumption⟩
end Go.Proofs.Ytbllialcfmpkaaa
