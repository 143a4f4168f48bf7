/- The interpreter's computing methods. (Printed by gen_alu.py.) -/
import Derived.Test.YtbllialcfmpkaaaOps
set_option linter.unusedVariables false
set_option linter.unusedSimpArgs false
set_option linter.unusedSectionVars false
namespace Go.Proofs.Ytbllialcfmpkaaa
open Go.RowKit
attribute [local go_sem ↓] Go.wp_at_zero Go.wp_at_succ
attribute [local go_sem] Mach.get0 Mach.get1 Mach.get2 Mach.get3 Mach.get4 Mach.get5 Mach.get6 Mach.get7 Mach.get8 Mach.get9 Mach.get10 Mach.get11 Mach.get12 Mach.get13 Mach.get14 Mach.get15 Mach.get16 Mach.get17 Mach.get18 Mach.get19 Mach.get20 Mach.get21 Mach.get22 Mach.get23 Mach.get24 Mach.get25 Mach.get26 Mach.get27 Mach.get28 Mach.get29 Mach.get30 Mach.get31 Mach.get32 Mach.get33 Mach.get34 Mach.get35 Mach.get36
def Mach.alu (m : Mach) : Mach := m.setX (compute m.v.width m.ins.op (m.v.r m.ins.a.toNat) (m.v.r m.ins.b.toNat) (m.v.r m.ins.c.toNat) (m.ins.imm % pw2 m.v.width))
theorem bitsN_and (x y : Int) (hx : 0 ≤ x) (hx1 : x < 18446744073709551616) (hy : 0 ≤ y) (hy1 : y < 18446744073709551616) : bits BinOp.and IntKind.u64 x y = ((x.toNat &&& y.toNat : Nat) : Int) := by
  obtain ⟨a, rfl⟩ := Int.eq_ofNat_of_zero_le hx
  obtain ⟨c, rfl⟩ := Int.eq_ofNat_of_zero_le hy
  exact bits_and_u64_nat a c (by omega) (by omega)
theorem bitsN_or (x y : Int) (hx : 0 ≤ x) (hx1 : x < 18446744073709551616) (hy : 0 ≤ y) (hy1 : y < 18446744073709551616) : bits BinOp.or IntKind.u64 x y = ((x.toNat ||| y.toNat : Nat) : Int) := by
  obtain ⟨a, rfl⟩ := Int.eq_ofNat_of_zero_le hx
  obtain ⟨c, rfl⟩ := Int.eq_ofNat_of_zero_le hy
  exact bits_or_u64_nat a c (by omega) (by omega)
theorem bitsN_xor (x y : Int) (hx : 0 ≤ x) (hx1 : x < 18446744073709551616) (hy : 0 ≤ y) (hy1 : y < 18446744073709551616) : bits BinOp.xor IntKind.u64 x y = ((x.toNat ^^^ y.toNat : Nat) : Int) := by
  obtain ⟨a, rfl⟩ := Int.eq_ofNat_of_zero_le hx
  obtain ⟨c, rfl⟩ := Int.eq_ofNat_of_zero_le hy
  exact bits_xor_u64_nat a c (by omega) (by omega)
theorem lih_mod (a x w : Int) (h0 : 0 ≤ a) (h1 : a ≤ 18446744073709551615) (hx : -2147483648 ≤ x ∧ x ≤ 2147483647) (hw : w = 32 ∨ w = 39) :
    IntKind.u64.wrap (bits BinOp.and IntKind.u64 a 4294967295 + IntKind.u64.wrap (IntKind.u64.wrap (IntKind.i64.wrap x) * 4294967296)) % pw2 w = (a % 4294967296 + x % pw2 w * 4294967296) % pw2 w := by
  rw [mask32 a h0 h1, IntWalk.i64_in x (by omega)]
  simp only [IntKind.wrap_u64]
  unfold pw2
  split <;> omega
theorem setX_congr (m : Mach) {x y : Int} (h : x % pw2 m.v.width = y % pw2 m.v.width) : m.setX x = m.setX y := by unfold Mach.setX; rw [h]

theorem li_any (b : Nat) (m : Mach) (w : World) (h : MB w b m) (hf : m.fits) (hop : m.ins.op = 1) :
    Calls Try.prog 47 #[.pointer (some ⟨b, 0, none⟩)] w (ST b m.alu w) := by
  obtain ⟨ra0, ra1⟩ := m.rbd hf m.ins.a.toNat
  obtain ⟨rb0, rb1⟩ := m.rbd hf m.ins.b.toNat
  obtain ⟨rc0, rc1⟩ := m.rbd hf m.ins.c.toNat
  obtain ⟨im0, im1⟩ := m.ibd
  have hfin : m.setX (m.ins.imm % pw2 m.v.width) = m.alu := by
    unfold Mach.alu compute
    rw [hop]
    rfl
  have HE := Lib.hid hfin
  have H := Lib.hid h
  clear h hop hfin
  go_enter Try.func47, Try.ntmps47
  go_wp2_with (first | (go_at_call 80; refine (imm_any b m _ (by exact H.out) hf).mono ?_; rintro e w' ⟨rfl, n, rfl⟩) | (go_at_call 79; refine (set_any b m _ _ (by exact H.out) hf (by first | omega | exact (wrap_u64_bd _).1) (by first | omega | exact (wrap_u64_bd _).2)).mono ?_; rintro e w' ⟨rfl, hm, ho⟩))
  all_goals
    go_end0
    exact ST.of ⟨rfl, by assumption, by assumption⟩ (by repeat (first | with_reducible refine Only.drewN ?_ _ | with_reducible exact Only.refl _ _)) HE.out
theorem mov_any (b : Nat) (m : Mach) (w : World) (h : MB w b m) (hf : m.fits) (hop : m.ins.op = 3) :
    Calls Try.prog 49 #[.pointer (some ⟨b, 0, none⟩)] w (ST b m.alu w) := by
  obtain ⟨ra0, ra1⟩ := m.rbd hf m.ins.a.toNat
  obtain ⟨rb0, rb1⟩ := m.rbd hf m.ins.b.toNat
  obtain ⟨rc0, rc1⟩ := m.rbd hf m.ins.c.toNat
  obtain ⟨im0, im1⟩ := m.ibd
  have hfin : m.setX (m.v.r m.ins.b.toNat) = m.alu := by
    unfold Mach.alu compute
    rw [hop]
    rfl
  have HE := Lib.hid hfin
  have H := Lib.hid h
  clear h hop hfin
  go_enter Try.func49, Try.ntmps49
  go_wp2_with (first | (go_at_call 82; refine (b_any b m _ (by exact H.out) hf).mono ?_; rintro e w' ⟨rfl, n, rfl⟩) | (go_at_call 79; refine (set_any b m _ _ (by exact H.out) hf (by first | omega | exact (wrap_u64_bd _).1) (by first | omega | exact (wrap_u64_bd _).2)).mono ?_; rintro e w' ⟨rfl, hm, ho⟩))
  all_goals
    go_end0
    exact ST.of ⟨rfl, by assumption, by assumption⟩ (by repeat (first | with_reducible refine Only.drewN ?_ _ | with_reducible exact Only.refl _ _)) HE.out
theorem add_any (b : Nat) (m : Mach) (w : World) (h : MB w b m) (hf : m.fits) (hop : m.ins.op = 4) :
    Calls Try.prog 50 #[.pointer (some ⟨b, 0, none⟩)] w (ST b m.alu w) := by
  obtain ⟨ra0, ra1⟩ := m.rbd hf m.ins.a.toNat
  obtain ⟨rb0, rb1⟩ := m.rbd hf m.ins.b.toNat
  obtain ⟨rc0, rc1⟩ := m.rbd hf m.ins.c.toNat
  obtain ⟨im0, im1⟩ := m.ibd
  have hfin : m.setX (m.v.r m.ins.b.toNat + m.v.r m.ins.c.toNat) = m.alu := by
    unfold Mach.alu compute
    rw [hop]
    rfl
  have HE := Lib.hid hfin
  have H := Lib.hid h
  clear h hop hfin
  go_enter Try.func50, Try.ntmps50
  go_wp2_with (first | (go_at_call 82; refine (b_any b m _ (by exact H.out) hf).mono ?_; rintro e w' ⟨rfl, n, rfl⟩) | (go_at_call 83; refine (c_any b m _ (by exact H.out) hf).mono ?_; rintro e w' ⟨rfl, n, rfl⟩) | (go_at_call 79; refine (set_any b m _ _ (by exact H.out) hf (by first | omega | exact (wrap_u64_bd _).1) (by first | omega | exact (wrap_u64_bd _).2)).mono ?_; rintro e w' ⟨rfl, hm, ho⟩))
  all_goals
    go_end0
    exact ST.of ⟨rfl, by assumption, by assumption⟩ (by repeat (first | with_reducible refine Only.drewN ?_ _ | with_reducible exact Only.refl _ _)) HE.out
theorem sub_any (b : Nat) (m : Mach) (w : World) (h : MB w b m) (hf : m.fits) (hop : m.ins.op = 5) :
    Calls Try.prog 51 #[.pointer (some ⟨b, 0, none⟩)] w (ST b m.alu w) := by
  obtain ⟨ra0, ra1⟩ := m.rbd hf m.ins.a.toNat
  obtain ⟨rb0, rb1⟩ := m.rbd hf m.ins.b.toNat
  obtain ⟨rc0, rc1⟩ := m.rbd hf m.ins.c.toNat
  obtain ⟨im0, im1⟩ := m.ibd
  have hfin : m.setX (IntKind.u64.wrap (m.v.r m.ins.b.toNat - m.v.r m.ins.c.toNat)) = m.alu := by
    unfold Mach.alu compute
    rw [hop]
    exact setX_congr m (wrap_mod _ _ hf.wide)
  have HE := Lib.hid hfin
  have H := Lib.hid h
  clear h hop hfin
  go_enter Try.func51, Try.ntmps51
  go_wp2_with (first | (go_at_call 82; refine (b_any b m _ (by exact H.out) hf).mono ?_; rintro e w' ⟨rfl, n, rfl⟩) | (go_at_call 83; refine (c_any b m _ (by exact H.out) hf).mono ?_; rintro e w' ⟨rfl, n, rfl⟩) | (go_at_call 79; refine (set_any b m _ _ (by exact H.out) hf (by first | omega | exact (wrap_u64_bd _).1) (by first | omega | exact (wrap_u64_bd _).2)).mono ?_; rintro e w' ⟨rfl, hm, ho⟩))
  all_goals
    go_end0
    exact ST.of ⟨rfl, by assumption, by assumption⟩ (by repeat (first | with_reducible refine Only.drewN ?_ _ | with_reducible exact Only.refl _ _)) HE.out
theorem mul_any (b : Nat) (m : Mach) (w : World) (h : MB w b m) (hf : m.fits) (hop : m.ins.op = 6) :
    Calls Try.prog 52 #[.pointer (some ⟨b, 0, none⟩)] w (ST b m.alu w) := by
  obtain ⟨ra0, ra1⟩ := m.rbd hf m.ins.a.toNat
  obtain ⟨rb0, rb1⟩ := m.rbd hf m.ins.b.toNat
  obtain ⟨rc0, rc1⟩ := m.rbd hf m.ins.c.toNat
  obtain ⟨im0, im1⟩ := m.ibd
  have hfin : m.setX (IntKind.u64.wrap (m.v.r m.ins.b.toNat * m.v.r m.ins.c.toNat)) = m.alu := by
    unfold Mach.alu compute
    rw [hop]
    exact setX_congr m (wrap_mod _ _ hf.wide)
  have HE := Lib.hid hfin
  have H := Lib.hid h
  clear h hop hfin
  go_enter Try.func52, Try.ntmps52
  go_wp2_with (first | (go_at_call 82; refine (b_any b m _ (by exact H.out) hf).mono ?_; rintro e w' ⟨rfl, n, rfl⟩) | (go_at_call 83; refine (c_any b m _ (by exact H.out) hf).mono ?_; rintro e w' ⟨rfl, n, rfl⟩) | (go_at_call 79; refine (set_any b m _ _ (by exact H.out) hf (by first | omega | exact (wrap_u64_bd _).1) (by first | omega | exact (wrap_u64_bd _).2)).mono ?_; rintro e w' ⟨rfl, hm, ho⟩))
  all_goals
    go_end0
    exact ST.of ⟨rfl, by assumption, by assumption⟩ (by repeat (first | with_reducible refine Only.drewN ?_ _ | with_reducible exact Only.refl _ _)) HE.out
theorem and_any (b : Nat) (m : Mach) (w : World) (h : MB w b m) (hf : m.fits) (hop : m.ins.op = 9) :
    Calls Try.prog 55 #[.pointer (some ⟨b, 0, none⟩)] w (ST b m.alu w) := by
  obtain ⟨ra0, ra1⟩ := m.rbd hf m.ins.a.toNat
  obtain ⟨rb0, rb1⟩ := m.rbd hf m.ins.b.toNat
  obtain ⟨rc0, rc1⟩ := m.rbd hf m.ins.c.toNat
  obtain ⟨im0, im1⟩ := m.ibd
  have hfin : m.setX (bits BinOp.and IntKind.u64 (m.v.r m.ins.b.toNat) (m.v.r m.ins.c.toNat)) = m.alu := by
    unfold Mach.alu compute
    rw [hop]
    rw [bitsN_and _ _ rb0 (by omega) rc0 (by omega)]; rfl
  have HE := Lib.hid hfin
  have H := Lib.hid h
  clear h hop hfin
  go_enter Try.func55, Try.ntmps55
  go_wp2_with (first | (go_at_call 82; refine (b_any b m _ (by exact H.out) hf).mono ?_; rintro e w' ⟨rfl, n, rfl⟩) | (go_at_call 83; refine (c_any b m _ (by exact H.out) hf).mono ?_; rintro e w' ⟨rfl, n, rfl⟩) | (go_at_call 79; refine (set_any b m _ _ (by exact H.out) hf (by first | omega | exact (wrap_u64_bd _).1) (by first | omega | exact (wrap_u64_bd _).2)).mono ?_; rintro e w' ⟨rfl, hm, ho⟩))
  all_goals
    go_end0
    exact ST.of ⟨rfl, by assumption, by assumption⟩ (by repeat (first | with_reducible refine Only.drewN ?_ _ | with_reducible exact Only.refl _ _)) HE.out
theorem or_any (b : Nat) (m : Mach) (w : World) (h : MB w b m) (hf : m.fits) (hop : m.ins.op = 10) :
    Calls Try.prog 56 #[.pointer (some ⟨b, 0, none⟩)] w (ST b m.alu w) := by
  obtain ⟨ra0, ra1⟩ := m.rbd hf m.ins.a.toNat
  obtain ⟨rb0, rb1⟩ := m.rbd hf m.ins.b.toNat
  obtain ⟨rc0, rc1⟩ := m.rbd hf m.ins.c.toNat
  obtain ⟨im0, im1⟩ := m.ibd
  have hfin : m.setX (bits BinOp.or IntKind.u64 (m.v.r m.ins.b.toNat) (m.v.r m.ins.c.toNat)) = m.alu := by
    unfold Mach.alu compute
    rw [hop]
    rw [bitsN_or _ _ rb0 (by omega) rc0 (by omega)]; rfl
  have HE := Lib.hid hfin
  have H := Lib.hid h
  clear h hop hfin
  go_enter Try.func56, Try.ntmps56
  go_wp2_with (first | (go_at_call 82; refine (b_any b m _ (by exact H.out) hf).mono ?_; rintro e w' ⟨rfl, n, rfl⟩) | (go_at_call 83; refine (c_any b m _ (by exact H.out) hf).mono ?_; rintro e w' ⟨rfl, n, rfl⟩) | (go_at_call 79; refine (set_any b m _ _ (by exact H.out) hf (by first | omega | exact (wrap_u64_bd _).1) (by first | omega | exact (wrap_u64_bd _).2)).mono ?_; rintro e w' ⟨rfl, hm, ho⟩))
  all_goals
    go_end0
    exact ST.of ⟨rfl, by assumption, by assumption⟩ (by repeat (first | with_reducible refine Only.drewN ?_ _ | with_reducible exact Only.refl _ _)) HE.out
theorem xor_any (b : Nat) (m : Mach) (w : World) (h : MB w b m) (hf : m.fits) (hop : m.ins.op = 11) :
    Calls Try.prog 57 #[.pointer (some ⟨b, 0, none⟩)] w (ST b m.alu w) := by
  obtain ⟨ra0, ra1⟩ := m.rbd hf m.ins.a.toNat
  obtain ⟨rb0, rb1⟩ := m.rbd hf m.ins.b.toNat
  obtain ⟨rc0, rc1⟩ := m.rbd hf m.ins.c.toNat
  obtain ⟨im0, im1⟩ := m.ibd
  have hfin : m.setX (bits BinOp.xor IntKind.u64 (m.v.r m.ins.b.toNat) (m.v.r m.ins.c.toNat)) = m.alu := by
    unfold Mach.alu compute
    rw [hop]
    rw [bitsN_xor _ _ rb0 (by omega) rc0 (by omega)]; rfl
  have HE := Lib.hid hfin
  have H := Lib.hid h
  clear h hop hfin
  go_enter Try.func57, Try.ntmps57
  go_wp2_with (first | (go_at_call 82; refine (b_any b m _ (by exact H.out) hf).mono ?_; rintro e w' ⟨rfl, n, rfl⟩) | (go_at_call 83; refine (c_any b m _ (by exact H.out) hf).mono ?_; rintro e w' ⟨rfl, n, rfl⟩) | (go_at_call 79; refine (set_any b m _ _ (by exact H.out) hf (by first | omega | exact (wrap_u64_bd _).1) (by first | omega | exact (wrap_u64_bd _).2)).mono ?_; rintro e w' ⟨rfl, hm, ho⟩))
  all_goals
    go_end0
    exact ST.of ⟨rfl, by assumption, by assumption⟩ (by repeat (first | with_reducible refine Only.drewN ?_ _ | with_reducible exact Only.refl _ _)) HE.out
theorem addi_any (b : Nat) (m : Mach) (w : World) (h : MB w b m) (hf : m.fits) (hop : m.ins.op = 14) :
    Calls Try.prog 60 #[.pointer (some ⟨b, 0, none⟩)] w (ST b m.alu w) := by
  obtain ⟨ra0, ra1⟩ := m.rbd hf m.ins.a.toNat
  obtain ⟨rb0, rb1⟩ := m.rbd hf m.ins.b.toNat
  obtain ⟨rc0, rc1⟩ := m.rbd hf m.ins.c.toNat
  obtain ⟨im0, im1⟩ := m.ibd
  have hfin : m.setX (m.v.r m.ins.b.toNat + m.ins.imm % pw2 m.v.width) = m.alu := by
    unfold Mach.alu compute
    rw [hop]
    rfl
  have HE := Lib.hid hfin
  have H := Lib.hid h
  clear h hop hfin
  go_enter Try.func60, Try.ntmps60
  go_wp2_with (first | (go_at_call 82; refine (b_any b m _ (by exact H.out) hf).mono ?_; rintro e w' ⟨rfl, n, rfl⟩) | (go_at_call 80; refine (imm_any b m _ (by exact H.out) hf).mono ?_; rintro e w' ⟨rfl, n, rfl⟩) | (go_at_call 79; refine (set_any b m _ _ (by exact H.out) hf (by first | omega | exact (wrap_u64_bd _).1) (by first | omega | exact (wrap_u64_bd _).2)).mono ?_; rintro e w' ⟨rfl, hm, ho⟩))
  all_goals
    go_end0
    exact ST.of ⟨rfl, by assumption, by assumption⟩ (by repeat (first | with_reducible refine Only.drewN ?_ _ | with_reducible exact Only.refl _ _)) HE.out
theorem sltu_any (b : Nat) (m : Mach) (w : World) (h : MB w b m) (hf : m.fits) (hop : m.ins.op = 16) :
    Calls Try.prog 62 #[.pointer (some ⟨b, 0, none⟩)] w (ST b m.alu w) := by
  obtain ⟨ra0, ra1⟩ := m.rbd hf m.ins.a.toNat
  obtain ⟨rb0, rb1⟩ := m.rbd hf m.ins.b.toNat
  obtain ⟨rc0, rc1⟩ := m.rbd hf m.ins.c.toNat
  obtain ⟨im0, im1⟩ := m.ibd
  have hfin : m.setX (truth (decide (m.v.r m.ins.b.toNat < m.v.r m.ins.c.toNat))) = m.alu := by
    unfold Mach.alu compute
    rw [hop]
    rfl
  have HE := Lib.hid hfin
  have H := Lib.hid h
  clear h hop hfin
  go_enter Try.func62, Try.ntmps62
  go_wp2_with (first | (go_at_call 82; refine (b_any b m _ (by exact H.out) hf).mono ?_; rintro e w' ⟨rfl, n, rfl⟩) | (go_at_call 83; refine (c_any b m _ (by exact H.out) hf).mono ?_; rintro e w' ⟨rfl, n, rfl⟩) | (go_at_call 85; refine (test_any b m _ _ (by exact H.out) hf).mono ?_; rintro e w' ⟨rfl, hm, ho⟩))
  all_goals
    go_end0
    exact ST.of ⟨rfl, by assumption, by assumption⟩ (by repeat (first | with_reducible refine Only.drewN ?_ _ | with_reducible exact Only.refl _ _)) HE.out
theorem seq_any (b : Nat) (m : Mach) (w : World) (h : MB w b m) (hf : m.fits) (hop : m.ins.op = 17) :
    Calls Try.prog 63 #[.pointer (some ⟨b, 0, none⟩)] w (ST b m.alu w) := by
  obtain ⟨ra0, ra1⟩ := m.rbd hf m.ins.a.toNat
  obtain ⟨rb0, rb1⟩ := m.rbd hf m.ins.b.toNat
  obtain ⟨rc0, rc1⟩ := m.rbd hf m.ins.c.toNat
  obtain ⟨im0, im1⟩ := m.ibd
  have hfin : m.setX (truth (decide (m.v.r m.ins.b.toNat = m.v.r m.ins.c.toNat))) = m.alu := by
    unfold Mach.alu compute
    rw [hop]
    rfl
  have HE := Lib.hid hfin
  have H := Lib.hid h
  clear h hop hfin
  go_enter Try.func63, Try.ntmps63
  go_wp2_with (first | (go_at_call 82; refine (b_any b m _ (by exact H.out) hf).mono ?_; rintro e w' ⟨rfl, n, rfl⟩) | (go_at_call 83; refine (c_any b m _ (by exact H.out) hf).mono ?_; rintro e w' ⟨rfl, n, rfl⟩) | (go_at_call 85; refine (test_any b m _ _ (by exact H.out) hf).mono ?_; rintro e w' ⟨rfl, hm, ho⟩))
  all_goals
    go_end0
    exact ST.of ⟨rfl, by assumption, by assumption⟩ (by repeat (first | with_reducible refine Only.drewN ?_ _ | with_reducible exact Only.refl _ _)) HE.out
theorem shl_any (b : Nat) (m : Mach) (w : World) (h : MB w b m) (hf : m.fits) (hop : m.ins.op = 12) :
    Calls Try.prog 58 #[.pointer (some ⟨b, 0, none⟩)] w (ST b m.alu w) := by
  obtain ⟨ra0, ra1⟩ := m.rbd hf m.ins.a.toNat
  obtain ⟨rb0, rb1⟩ := m.rbd hf m.ins.b.toNat
  obtain ⟨rc0, rc1⟩ := m.rbd hf m.ins.c.toNat
  obtain ⟨im0, im1⟩ := m.ibd
  have hfin : m.setX (IntKind.u64.wrap (m.v.r m.ins.b.toNat * 2 ^ (m.v.r m.ins.c.toNat % m.v.width).toNat)) = m.alu := by
    unfold Mach.alu compute
    rw [hop]
    exact setX_congr m (wrap_mod _ _ hf.wide)
  have HE := Lib.hid hfin
  have H := Lib.hid h
  clear h hop hfin
  have hw0 : 32 ≤ m.v.width := by rcases hf.wide with h | h <;> omega
  have hw1 : m.v.width ≤ 39 := by rcases hf.wide with h | h <;> omega
  have hwz : (m.v.width == 0) = false := by rw [beq_eq_false_iff_ne]; omega
  obtain ⟨hc, hfr⟩ := H.out.all
  have hq0 := Int.emod_nonneg (m.v.r m.ins.c.toNat) (show m.v.width ≠ 0 by omega)
  have hq1 := Int.emod_lt_of_pos (m.v.r m.ins.c.toNat) (show 0 < m.v.width by omega)
  have hq2 : m.v.r m.ins.c.toNat % m.v.width < 64 := by omega
  have hwr : IntKind.u64.wrap m.v.width = m.v.width := by rw [IntKind.wrap_u64]; omega
  have htm : (m.v.r m.ins.c.toNat).tmod m.v.width = m.v.r m.ins.c.toNat % m.v.width := Int.tmod_eq_emod_of_nonneg rc0
  go_enter Try.func58, Try.ntmps58
  go_wp2_with fail
  go_region_with (first | (go_at_call 82; refine (b_any b m _ (by exact H.out) hf).mono ?_; rintro e w' ⟨rfl, n, rfl⟩) | (go_at_call 83; refine (c_any b m _ (by exact H.out) hf).mono ?_; rintro e w' ⟨rfl, n, rfl⟩) | (go_at_call 79; refine (set_any b m _ _ (by exact H.out) hf (by first | omega | exact (wrap_u64_bd _).1) (by first | omega | exact (wrap_u64_bd _).2)).mono ?_; rintro e w' ⟨rfl, hm, ho⟩))
  all_goals
    go_end0
    exact ST.of ⟨rfl, by assumption, by assumption⟩ (by repeat (first | with_reducible refine Only.drewN ?_ _ | with_reducible exact Only.refl _ _)) HE.out
theorem shr_any (b : Nat) (m : Mach) (w : World) (h : MB w b m) (hf : m.fits) (hop : m.ins.op = 13) :
    Calls Try.prog 59 #[.pointer (some ⟨b, 0, none⟩)] w (ST b m.alu w) := by
  obtain ⟨ra0, ra1⟩ := m.rbd hf m.ins.a.toNat
  obtain ⟨rb0, rb1⟩ := m.rbd hf m.ins.b.toNat
  obtain ⟨rc0, rc1⟩ := m.rbd hf m.ins.c.toNat
  obtain ⟨im0, im1⟩ := m.ibd
  have hfin : m.setX (m.v.r m.ins.b.toNat / 2 ^ (m.v.r m.ins.c.toNat % m.v.width).toNat) = m.alu := by
    unfold Mach.alu compute
    rw [hop]
    rfl
  have HE := Lib.hid hfin
  have H := Lib.hid h
  clear h hop hfin
  have hw0 : 32 ≤ m.v.width := by rcases hf.wide with h | h <;> omega
  have hw1 : m.v.width ≤ 39 := by rcases hf.wide with h | h <;> omega
  have hwz : (m.v.width == 0) = false := by rw [beq_eq_false_iff_ne]; omega
  obtain ⟨hc, hfr⟩ := H.out.all
  have hq0 := Int.emod_nonneg (m.v.r m.ins.c.toNat) (show m.v.width ≠ 0 by omega)
  have hq1 := Int.emod_lt_of_pos (m.v.r m.ins.c.toNat) (show 0 < m.v.width by omega)
  have hq2 : m.v.r m.ins.c.toNat % m.v.width < 64 := by omega
  have hwr : IntKind.u64.wrap m.v.width = m.v.width := by rw [IntKind.wrap_u64]; omega
  have htm : (m.v.r m.ins.c.toNat).tmod m.v.width = m.v.r m.ins.c.toNat % m.v.width := Int.tmod_eq_emod_of_nonneg rc0
  have hp : (0 : Int) < 2 ^ (m.v.r m.ins.c.toNat % m.v.width).toNat := Int.pow_pos (by decide)
  have hs0 := Int.ediv_nonneg (b := 2 ^ (m.v.r m.ins.c.toNat % m.v.width).toNat) rb0 (by omega)
  have hs1 := Int.ediv_le_self (2 ^ (m.v.r m.ins.c.toNat % m.v.width).toNat) rb0
  clear hp
  go_enter Try.func59, Try.ntmps59
  go_wp2_with fail
  go_region_with (first | (go_at_call 82; refine (b_any b m _ (by exact H.out) hf).mono ?_; rintro e w' ⟨rfl, n, rfl⟩) | (go_at_call 83; refine (c_any b m _ (by exact H.out) hf).mono ?_; rintro e w' ⟨rfl, n, rfl⟩) | (go_at_call 79; refine (set_any b m _ _ (by exact H.out) hf (by first | omega | exact (wrap_u64_bd _).1) (by first | omega | exact (wrap_u64_bd _).2)).mono ?_; rintro e w' ⟨rfl, hm, ho⟩))
  all_goals
    go_end0
    exact ST.of ⟨rfl, by assumption, by assumption⟩ (by repeat (first | with_reducible refine Only.drewN ?_ _ | with_reducible exact Only.refl _ _)) HE.out
theorem lih_any (b : Nat) (m : Mach) (w : World) (h : MB w b m) (hf : m.fits) (hop : m.ins.op = 2) :
    Calls Try.prog 48 #[.pointer (some ⟨b, 0, none⟩)] w (ST b m.alu w) := by
  obtain ⟨ra0, ra1⟩ := m.rbd hf m.ins.a.toNat
  obtain ⟨rb0, rb1⟩ := m.rbd hf m.ins.b.toNat
  obtain ⟨rc0, rc1⟩ := m.rbd hf m.ins.c.toNat
  obtain ⟨im0, im1⟩ := m.ibd
  have hfin : m.setX (IntKind.u64.wrap (bits BinOp.and IntKind.u64 (m.v.r m.ins.a.toNat) 4294967295 + IntKind.u64.wrap (IntKind.u64.wrap (IntKind.i64.wrap m.ins.imm) * 4294967296))) = m.alu := by
    unfold Mach.alu compute
    rw [hop]
    exact setX_congr m (lih_mod _ _ _ ra0 (by omega) hf.imm hf.wide)
  have HE := Lib.hid hfin
  have H := Lib.hid h
  clear h hop hfin
  have hw0 : 32 ≤ m.v.width := by rcases hf.wide with h | h <;> omega
  have hw1 : m.v.width ≤ 39 := by rcases hf.wide with h | h <;> omega
  have hwz : (m.v.width == 0) = false := by rw [beq_eq_false_iff_ne]; omega
  obtain ⟨hc, hfr⟩ := H.out.all
  have hq0 := Int.emod_nonneg (m.v.r m.ins.c.toNat) (show m.v.width ≠ 0 by omega)
  have hq1 := Int.emod_lt_of_pos (m.v.r m.ins.c.toNat) (show 0 < m.v.width by omega)
  have hq2 : m.v.r m.ins.c.toNat % m.v.width < 64 := by omega
  have hwr : IntKind.u64.wrap m.v.width = m.v.width := by rw [IntKind.wrap_u64]; omega
  have htm : (m.v.r m.ins.c.toNat).tmod m.v.width = m.v.r m.ins.c.toNat % m.v.width := Int.tmod_eq_emod_of_nonneg rc0
  have hi := hf.imm
  go_enter Try.func48, Try.ntmps48
  go_wp2_with fail
  go_region_with (first | (go_at_call 81; refine (a_any b m _ (by exact H.out) hf).mono ?_; rintro e w' ⟨rfl, n, rfl⟩) | (go_at_call 79; refine (set_any b m _ _ (by exact H.out) hf (by first | omega | exact (wrap_u64_bd _).1) (by first | omega | exact (wrap_u64_bd _).2)).mono ?_; rintro e w' ⟨rfl, hm, ho⟩))
  all_goals
    go_end0
    exact ST.of ⟨rfl, by assumption, by assumption⟩ (by repeat (first | with_reducible refine Only.drewN ?_ _ | with_reducible exact Only.refl _ _)) HE.out
end Go.Proofs.Ytbllialcfmpkaaa
