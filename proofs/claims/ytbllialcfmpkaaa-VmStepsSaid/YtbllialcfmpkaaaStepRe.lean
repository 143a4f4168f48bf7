/- The reference's step, some of its cases. (Printed by gen_stepr.py.) -/
import Derived.Test.YtbllialcfmpkaaaStepR0
import Derived.StillTailTactics
set_option linter.unusedVariables false
set_option linter.unusedSimpArgs false
set_option linter.unusedSectionVars false
namespace Go.Proofs.Ytbllialcfmpkaaa
open Go.RowKit
set_option maxRecDepth 100000 in
set_option maxHeartbeats 2000000 in
theorem stepR_div7 (v : Vm) (p : List Ins) (x : Ins) (g off c : Nat) (w : World) (hv : v.fits) (hp : Good p) (hps : PS w g off p) (hx : p[v.pc.toNat]? = some x) (hop : 1 ≤ x.op ∧ x.op ≤ 17) (hok : x.op = 7) (hz : v.r x.c.toNat = 0) :
    Calls Try.prog 35 #[.agg v.cells, .slice (some ⟨g, off, none⟩) p.length c] w fun e w' => e = .returned (stepVal2 (stepI v x p.length)) ∧ Below w.heap.size w w' := by
  have KN := Kn.start w
  have hxm := List.mem_of_getElem? hx
  obtain ⟨o0, o1, htg, ⟨xa0, xa1⟩, ⟨xb0, xb1⟩, ⟨xc0, xc1⟩⟩ := insErr_target (hp.ok x hxm)
  obtain ⟨pc0, pc1⟩ := hv.pc
  obtain ⟨pl0, pl1⟩ := hp.len
  have hlt : v.pc < p.length := by have := (List.getElem?_eq_some_iff.1 hx).1; omega
  have RNG := Lib.hid (hps.range hx)
  have hgl := hps.1
  have IM := Lib.hid (imm_mask x.imm v.width hv.wide)
  have im0 := Int.emod_nonneg x.imm (show pw2 v.width ≠ 0 by have := pw2_pos v.width; omega)
  have im1 := Int.emod_lt_of_pos x.imm (pw2_pos v.width).1
  have im2 := (pw2_pos v.width).2
  have ra := hv.reg x.a.toNat
  have rb := hv.reg x.b.toNat
  have rc := hv.reg x.c.toNat
  obtain ⟨ra0, ra1⟩ := ra
  obtain ⟨rb0, rb1⟩ := rb
  obtain ⟨rc0, rc1⟩ := rc
  obtain ⟨ii0, ii1⟩ := hp.imm x hxm
  have EQA := Lib.hid (Vm.cells_reg v x.a.toNat (by omega))
  have EQB := Lib.hid (Vm.cells_reg v x.b.toNat (by omega))
  have EQC := Lib.hid (Vm.cells_reg v x.c.toNat (by omega))
  have HLEN := Lib.hid hv.len
  have t0 : (x.op == 0) = false := by rw [beq_eq_false_iff_ne]; omega
  have t18 : (x.op == 18) = false := by rw [beq_eq_false_iff_ne]; omega
  have t19 : (x.op == 19) = false := by rw [beq_eq_false_iff_ne]; omega
  have t20 : (x.op == 20) = false := by rw [beq_eq_false_iff_ne]; omega
  have t21 : (x.op == 21) = false := by rw [beq_eq_false_iff_ne]; omega
  have t22 : (x.op == 22) = false := by rw [beq_eq_false_iff_ne]; omega
  have t23 : (x.op == 23) = false := by rw [beq_eq_false_iff_ne]; omega
  have t24 : (x.op == 24) = false := by rw [beq_eq_false_iff_ne]; omega
  have t25 : (x.op == 25) = false := by rw [beq_eq_false_iff_ne]; omega
  have t26 : (x.op == 26) = false := by rw [beq_eq_false_iff_ne]; omega
  have t27 : (x.op == 27) = false := by rw [beq_eq_false_iff_ne]; omega
  have u7 : (x.op == 7) = true := by rw [beq_iff_eq]; exact hok
  have u8 : (x.op == 8) = false := by rw [beq_eq_false_iff_ne]; omega
  have z1 : (v.r x.c.toNat == 0) = true := by rw [beq_iff_eq]; exact hz
  have RES : Hid (stepI v x p.length = ((v.trap 1).1, (v.trap 1).2)) := Lib.hid (by
    unfold stepI
    rw [if_neg (show ¬ x.op = 0 by omega)]
    rw [if_neg (show ¬ x.op = 18 by omega)]
    rw [if_neg (show ¬ x.op = 19 by omega)]
    rw [if_neg (show ¬ x.op = 20 by omega)]
    rw [if_neg (show ¬ x.op = 21 by omega)]
    rw [if_neg (show ¬ x.op = 22 by omega)]
    rw [if_neg (show ¬ x.op = 23 by omega)]
    rw [if_neg (show ¬ x.op = 24 by omega)]
    rw [if_neg (show ¬ x.op = 25 by omega)]
    rw [if_neg (show ¬ x.op = 26 by omega)]
    rw [if_neg (show ¬ x.op = 27 by omega)]
    rw [if_pos ⟨by omega, hz⟩])
  clear hz
  have HV := Lib.hid hv
  clear hx hp hps hv htg hxm
  go_enter Try.func35, Try.ntmps35
  go_wp2_with (first | ((with_reducible refine wpList_gate ?_); first | ((refine gate_load (by rfl) ?_); first | (refine wpList_kn_oldN KN (by rfl) 29 _ rfl g _ rfl x.cells RNG.out hgl (by simp) _ Try.underlying29 rfl (by kernel_rfl) ?_) | (refine wpList_kn_load1 KN (by rfl) 3 _ rfl _ _ rfl _ _ (by repeat (first | exact Has.here | refine Has.there ?_)) _ (by (repeat (first | ((with_reducible refine get_hit ?_); exact Nat.le_of_ble_eq_true (by kernel_rfl)) | ((with_reducible refine (get_miss ?_).trans ?_); (focus kernel_rfl)) | ((with_reducible refine (get_pmiss ?_).trans ?_); (focus kernel_rfl)))); all_goals (conv => lhs; whnf; arg 1; whnf)) _ Try.underlying3 rfl ?_) | (refine wpList_kn_loadW KN (by rfl) 35 _ rfl _ rfl _ _ (by repeat (first | exact Has.here | refine Has.there ?_)) _ Try.underlying35 rfl (by kernel_rfl) ?_) | (refine wpList_kn_loadW KN (by rfl) 29 _ rfl _ rfl _ _ (by repeat (first | exact Has.here | refine Has.there ?_)) _ Try.underlying29 rfl (by kernel_rfl) ?_) | (refine wpList_kn_load1 KN (by rfl) 30 _ rfl _ _ rfl _ _ (by repeat (first | exact Has.here | refine Has.there ?_)) _ (by (repeat (first | ((with_reducible refine get_hit ?_); exact Nat.le_of_ble_eq_true (by kernel_rfl)) | ((with_reducible refine (get_miss ?_).trans ?_); (focus kernel_rfl)) | ((with_reducible refine (get_pmiss ?_).trans ?_); (focus kernel_rfl)))); all_goals (conv => lhs; whnf; arg 1; whnf)) _ Try.underlying30 rfl ?_) | (refine wpList_kn_load1 KN (by rfl) 21 _ rfl _ _ rfl _ _ (by repeat (first | exact Has.here | refine Has.there ?_)) _ (by (repeat (first | ((with_reducible refine get_hit ?_); exact Nat.le_of_ble_eq_true (by kernel_rfl)) | ((with_reducible refine (get_miss ?_).trans ?_); (focus kernel_rfl)) | ((with_reducible refine (get_pmiss ?_).trans ?_); (focus kernel_rfl)))); all_goals (conv => lhs; whnf; arg 1; whnf)) _ Try.underlying21 rfl ?_) | (refine wpList_kn_loadW KN (by rfl) 33 _ rfl _ rfl _ _ (by repeat (first | exact Has.here | refine Has.there ?_)) _ Try.underlying33 rfl (by kernel_rfl) ?_)) | ((refine gate_store (by rfl) ?_); first | (refine wpList_kn_storeW KN (by rfl) 35 _ _ rfl _ rfl _ rfl _ _ (by repeat (first | exact Repl.here | apply Repl.there)) (by kernel_rfl) (by kernel_rfl) (by kernel_rfl) ?_; clear KN; intro wx KN) | (refine wpList_kn_storeA KN (by rfl) 35 _ _ rfl _ _ rfl _ rfl _ _ (by repeat (first | exact Repl.here | apply Repl.there)) (by (try simp only [Array.size_setIfInBounds, putL_size]); first | exact Nat.le_of_ble_eq_true rfl | (simp; omega)) (by kernel_rfl) (by kernel_rfl) ?_; clear KN; intro wx KN) | (refine wpList_kn_storeW KN (by rfl) 33 _ _ rfl _ rfl _ rfl _ _ (by repeat (first | exact Repl.here | apply Repl.there)) (by kernel_rfl) (by kernel_rfl) (by kernel_rfl) ?_; clear KN; intro wx KN) | (refine wpList_kn_storeA KN (by rfl) 33 _ _ rfl _ _ rfl _ rfl _ _ (by repeat (first | exact Repl.here | apply Repl.there)) (by (try simp only [Array.size_setIfInBounds, putL_size]); first | exact Nat.le_of_ble_eq_true rfl | (simp; omega)) (by kernel_rfl) (by kernel_rfl) ?_; clear KN; intro wx KN) | (refine wpList_kn_storeW KN (by rfl) 29 _ _ rfl _ rfl _ rfl _ _ (by repeat (first | exact Repl.here | apply Repl.there)) (by kernel_rfl) (by kernel_rfl) (by kernel_rfl) ?_; clear KN; intro wx KN) | (refine wpList_kn_storeA KN (by rfl) 29 _ _ rfl _ _ rfl _ rfl _ _ (by repeat (first | exact Repl.here | apply Repl.there)) (by (try simp only [Array.size_setIfInBounds, putL_size]); first | exact Nat.le_of_ble_eq_true rfl | (simp; omega)) (by kernel_rfl) (by kernel_rfl) ?_; clear KN; intro wx KN) | (refine wpList_kn_store1 KN (by rfl) 3 _ _ rfl _ _ rfl _ (by conv => lhs; whnf) (by rfl) _ _ (by repeat (first | exact Repl.here | apply Repl.there)) (by (try simp only [Array.size_setIfInBounds, putL_size]); first | exact Nat.le_of_ble_eq_true rfl | (simp; omega)) (by kernel_rfl) (by rfl) ?_; clear KN; intro wx KN) | (refine wpList_kn_store1 KN (by rfl) 30 _ _ rfl _ _ rfl _ (by conv => lhs; whnf) (by rfl) _ _ (by repeat (first | exact Repl.here | apply Repl.there)) (by (try simp only [Array.size_setIfInBounds, putL_size]); first | exact Nat.le_of_ble_eq_true rfl | (simp; omega)) (by kernel_rfl) (by rfl) ?_; clear KN; intro wx KN)) | ((refine gate_new (by rfl) ?_); first | (refine wpList_kn_boxA KN (by rfl) 35 _ rfl 2 rfl _ rfl ?_; clear KN; intro g2 wx hg2 KN) | (refine wpList_kn_alloc KN (by rfl) 35 rfl 4 rfl Vm.zero.cells (by kernel_rfl) ?_; clear KN; intro g4 wx hg4 KN) | (refine wpList_kn_alloc KN (by rfl) 33 rfl 5 rfl Eff.none.cells (by kernel_rfl) ?_; clear KN; intro g5 wx hg5 KN) | (refine wpList_kn_alloc KN (by rfl) 29 rfl 6 rfl (Ins.mk 0 0 0 0 0).cells (by kernel_rfl) ?_; clear KN; intro g6 wx hg6 KN) | (refine wpList_kn_alloc KN (by rfl) 35 rfl 11 rfl Vm.zero.cells (by kernel_rfl) ?_; clear KN; intro g11 wx hg11 KN) | (refine wpList_built rfl 33 #[] rfl Eff.none.cells (by kernel_rfl) ?_))))
  have c1 := KN.cell (g := g6) (by repeat (first | exact Has.here | refine Has.there ?_)) (x.get1)
  have c2 := KN.cell (g := g6) (by repeat (first | exact Has.here | refine Has.there ?_)) (x.get2)
  have c3 := KN.cell (g := g6) (by repeat (first | exact Has.here | refine Has.there ?_)) (x.get3)
  have c4 := KN.cell (g := g2) (by repeat (first | exact Has.here | refine Has.there ?_)) EQA.out
  have c5 := KN.cell (g := g2) (by repeat (first | exact Has.here | refine Has.there ?_)) EQB.out
  have c6 := KN.cell (g := g2) (by repeat (first | exact Has.here | refine Has.there ?_)) EQC.out
  go_quiet (fail)
  clear c1 c2 c3 c4 c5 c6
  replace KN := KN.drewN nq
  generalize hwq : World.drewN _ nq = w1 at KN ⊢
  clear hwq
  have c1 := KN.cell (g := g6) (by repeat (first | exact Has.here | refine Has.there ?_)) (x.get4)
  have c2 := KN.cell (g := g2) (by repeat (first | exact Has.here | refine Has.there ?_)) (v.get0)
  go_wp2_with fail
  have hm := IM.out
  go_quiet ((go_at_call 40; exact Calls.quiet_of_same ((mask_any _ _ HV.out.wide).mono fun _ _ h => ⟨h.1, h.2.symm⟩)))
  clear c1 c2 hm
  replace KN := KN.drewN nq
  generalize hwq : World.drewN _ nq = w2 at KN ⊢
  clear hwq
  obtain ⟨im, him⟩ : ∃ im, im = x.imm % pw2 v.width := ⟨_, rfl⟩
  rw [← him] at im0 im1 ⊢
  have HIM := Lib.hid him
  clear him
  go_wp2_with (first | (go_at_call 38; refine (trapv_any v 1 _).mono ?_; rintro e wx ⟨rfl, hb1⟩; replace KN := KN.below hb1; clear hb1) | ((with_reducible refine wpList_gate ?_); first | ((refine gate_load (by rfl) ?_); first | (refine wpList_kn_load1 KN (by rfl) 3 _ rfl _ _ rfl _ _ (by repeat (first | exact Has.here | refine Has.there ?_)) _ (by (repeat (first | ((with_reducible refine get_hit ?_); exact Nat.le_of_ble_eq_true (by kernel_rfl)) | ((with_reducible refine (get_miss ?_).trans ?_); (focus kernel_rfl)) | ((with_reducible refine (get_pmiss ?_).trans ?_); (focus kernel_rfl)))); all_goals (conv => lhs; whnf; arg 1; whnf)) _ Try.underlying3 rfl ?_) | (refine wpList_kn_loadW KN (by rfl) 35 _ rfl _ rfl _ _ (by repeat (first | exact Has.here | refine Has.there ?_)) _ Try.underlying35 rfl (by kernel_rfl) ?_) | (refine wpList_kn_loadW KN (by rfl) 29 _ rfl _ rfl _ _ (by repeat (first | exact Has.here | refine Has.there ?_)) _ Try.underlying29 rfl (by kernel_rfl) ?_) | (refine wpList_kn_load1 KN (by rfl) 30 _ rfl _ _ rfl _ _ (by repeat (first | exact Has.here | refine Has.there ?_)) _ (by (repeat (first | ((with_reducible refine get_hit ?_); exact Nat.le_of_ble_eq_true (by kernel_rfl)) | ((with_reducible refine (get_miss ?_).trans ?_); (focus kernel_rfl)) | ((with_reducible refine (get_pmiss ?_).trans ?_); (focus kernel_rfl)))); all_goals (conv => lhs; whnf; arg 1; whnf)) _ Try.underlying30 rfl ?_) | (refine wpList_kn_load1 KN (by rfl) 21 _ rfl _ _ rfl _ _ (by repeat (first | exact Has.here | refine Has.there ?_)) _ (by (repeat (first | ((with_reducible refine get_hit ?_); exact Nat.le_of_ble_eq_true (by kernel_rfl)) | ((with_reducible refine (get_miss ?_).trans ?_); (focus kernel_rfl)) | ((with_reducible refine (get_pmiss ?_).trans ?_); (focus kernel_rfl)))); all_goals (conv => lhs; whnf; arg 1; whnf)) _ Try.underlying21 rfl ?_) | (refine wpList_kn_loadW KN (by rfl) 33 _ rfl _ rfl _ _ (by repeat (first | exact Has.here | refine Has.there ?_)) _ Try.underlying33 rfl (by kernel_rfl) ?_)) | ((refine gate_store (by rfl) ?_); first | (refine wpList_kn_storeW KN (by rfl) 35 _ _ rfl _ rfl _ rfl _ _ (by repeat (first | exact Repl.here | apply Repl.there)) (by kernel_rfl) (by kernel_rfl) (by kernel_rfl) ?_; clear KN; intro wx KN) | (refine wpList_kn_storeA KN (by rfl) 35 _ _ rfl _ _ rfl _ rfl _ _ (by repeat (first | exact Repl.here | apply Repl.there)) (by (try simp only [Array.size_setIfInBounds, putL_size]); first | exact Nat.le_of_ble_eq_true rfl | (simp; omega)) (by kernel_rfl) (by kernel_rfl) ?_; clear KN; intro wx KN) | (refine wpList_kn_storeW KN (by rfl) 33 _ _ rfl _ rfl _ rfl _ _ (by repeat (first | exact Repl.here | apply Repl.there)) (by kernel_rfl) (by kernel_rfl) (by kernel_rfl) ?_; clear KN; intro wx KN) | (refine wpList_kn_storeA KN (by rfl) 33 _ _ rfl _ _ rfl _ rfl _ _ (by repeat (first | exact Repl.here | apply Repl.there)) (by (try simp only [Array.size_setIfInBounds, putL_size]); first | exact Nat.le_of_ble_eq_true rfl | (simp; omega)) (by kernel_rfl) (by kernel_rfl) ?_; clear KN; intro wx KN) | (refine wpList_kn_storeW KN (by rfl) 29 _ _ rfl _ rfl _ rfl _ _ (by repeat (first | exact Repl.here | apply Repl.there)) (by kernel_rfl) (by kernel_rfl) (by kernel_rfl) ?_; clear KN; intro wx KN) | (refine wpList_kn_storeA KN (by rfl) 29 _ _ rfl _ _ rfl _ rfl _ _ (by repeat (first | exact Repl.here | apply Repl.there)) (by (try simp only [Array.size_setIfInBounds, putL_size]); first | exact Nat.le_of_ble_eq_true rfl | (simp; omega)) (by kernel_rfl) (by kernel_rfl) ?_; clear KN; intro wx KN) | (refine wpList_kn_store1 KN (by rfl) 3 _ _ rfl _ _ rfl _ (by conv => lhs; whnf) (by rfl) _ _ (by repeat (first | exact Repl.here | apply Repl.there)) (by (try simp only [Array.size_setIfInBounds, putL_size]); first | exact Nat.le_of_ble_eq_true rfl | (simp; omega)) (by kernel_rfl) (by rfl) ?_; clear KN; intro wx KN) | (refine wpList_kn_store1 KN (by rfl) 30 _ _ rfl _ _ rfl _ (by conv => lhs; whnf) (by rfl) _ _ (by repeat (first | exact Repl.here | apply Repl.there)) (by (try simp only [Array.size_setIfInBounds, putL_size]); first | exact Nat.le_of_ble_eq_true rfl | (simp; omega)) (by kernel_rfl) (by rfl) ?_; clear KN; intro wx KN)) | ((refine gate_new (by rfl) ?_); first | (refine wpList_kn_boxA KN (by rfl) 35 _ rfl 2 rfl _ rfl ?_; clear KN; intro g2 wx hg2 KN) | (refine wpList_kn_alloc KN (by rfl) 35 rfl 4 rfl Vm.zero.cells (by kernel_rfl) ?_; clear KN; intro g4 wx hg4 KN) | (refine wpList_kn_alloc KN (by rfl) 33 rfl 5 rfl Eff.none.cells (by kernel_rfl) ?_; clear KN; intro g5 wx hg5 KN) | (refine wpList_kn_alloc KN (by rfl) 29 rfl 6 rfl (Ins.mk 0 0 0 0 0).cells (by kernel_rfl) ?_; clear KN; intro g6 wx hg6 KN) | (refine wpList_kn_alloc KN (by rfl) 35 rfl 11 rfl Vm.zero.cells (by kernel_rfl) ?_; clear KN; intro g11 wx hg11 KN) | (refine wpList_built rfl 33 #[] rfl Eff.none.cells (by kernel_rfl) ?_))))
  exact bodyPost_ret (results_cc Try.results35 _ _ _ _ ((v.trap 1).1).cells ((v.trap 1).2).cells rfl (load_vm (KN.at_ (by repeat (first | exact Has.here | refine Has.there ?_)))) rfl (load_eff (KN.at_ (by repeat (first | exact Has.here | refine Has.there ?_))))) rfl ⟨by rw [RES.out]; rfl, KN.toBelow⟩
set_option maxRecDepth 100000 in
set_option maxHeartbeats 2000000 in
theorem stepR_div8 (v : Vm) (p : List Ins) (x : Ins) (g off c : Nat) (w : World) (hv : v.fits) (hp : Good p) (hps : PS w g off p) (hx : p[v.pc.toNat]? = some x) (hop : 1 ≤ x.op ∧ x.op ≤ 17) (hok : x.op = 8) (hz : v.r x.c.toNat = 0) :
    Calls Try.prog 35 #[.agg v.cells, .slice (some ⟨g, off, none⟩) p.length c] w fun e w' => e = .returned (stepVal2 (stepI v x p.length)) ∧ Below w.heap.size w w' := by
  have KN := Kn.start w
  have hxm := List.mem_of_getElem? hx
  obtain ⟨o0, o1, htg, ⟨xa0, xa1⟩, ⟨xb0, xb1⟩, ⟨xc0, xc1⟩⟩ := insErr_target (hp.ok x hxm)
  obtain ⟨pc0, pc1⟩ := hv.pc
  obtain ⟨pl0, pl1⟩ := hp.len
  have hlt : v.pc < p.length := by have := (List.getElem?_eq_some_iff.1 hx).1; omega
  have RNG := Lib.hid (hps.range hx)
  have hgl := hps.1
  have IM := Lib.hid (imm_mask x.imm v.width hv.wide)
  have im0 := Int.emod_nonneg x.imm (show pw2 v.width ≠ 0 by have := pw2_pos v.width; omega)
  have im1 := Int.emod_lt_of_pos x.imm (pw2_pos v.width).1
  have im2 := (pw2_pos v.width).2
  have ra := hv.reg x.a.toNat
  have rb := hv.reg x.b.toNat
  have rc := hv.reg x.c.toNat
  obtain ⟨ra0, ra1⟩ := ra
  obtain ⟨rb0, rb1⟩ := rb
  obtain ⟨rc0, rc1⟩ := rc
  obtain ⟨ii0, ii1⟩ := hp.imm x hxm
  have EQA := Lib.hid (Vm.cells_reg v x.a.toNat (by omega))
  have EQB := Lib.hid (Vm.cells_reg v x.b.toNat (by omega))
  have EQC := Lib.hid (Vm.cells_reg v x.c.toNat (by omega))
  have HLEN := Lib.hid hv.len
  have t0 : (x.op == 0) = false := by rw [beq_eq_false_iff_ne]; omega
  have t18 : (x.op == 18) = false := by rw [beq_eq_false_iff_ne]; omega
  have t19 : (x.op == 19) = false := by rw [beq_eq_false_iff_ne]; omega
  have t20 : (x.op == 20) = false := by rw [beq_eq_false_iff_ne]; omega
  have t21 : (x.op == 21) = false := by rw [beq_eq_false_iff_ne]; omega
  have t22 : (x.op == 22) = false := by rw [beq_eq_false_iff_ne]; omega
  have t23 : (x.op == 23) = false := by rw [beq_eq_false_iff_ne]; omega
  have t24 : (x.op == 24) = false := by rw [beq_eq_false_iff_ne]; omega
  have t25 : (x.op == 25) = false := by rw [beq_eq_false_iff_ne]; omega
  have t26 : (x.op == 26) = false := by rw [beq_eq_false_iff_ne]; omega
  have t27 : (x.op == 27) = false := by rw [beq_eq_false_iff_ne]; omega
  have u7 : (x.op == 7) = false := by rw [beq_eq_false_iff_ne]; omega
  have u8 : (x.op == 8) = true := by rw [beq_iff_eq]; exact hok
  have z1 : (v.r x.c.toNat == 0) = true := by rw [beq_iff_eq]; exact hz
  have RES : Hid (stepI v x p.length = ((v.trap 1).1, (v.trap 1).2)) := Lib.hid (by
    unfold stepI
    rw [if_neg (show ¬ x.op = 0 by omega)]
    rw [if_neg (show ¬ x.op = 18 by omega)]
    rw [if_neg (show ¬ x.op = 19 by omega)]
    rw [if_neg (show ¬ x.op = 20 by omega)]
    rw [if_neg (show ¬ x.op = 21 by omega)]
    rw [if_neg (show ¬ x.op = 22 by omega)]
    rw [if_neg (show ¬ x.op = 23 by omega)]
    rw [if_neg (show ¬ x.op = 24 by omega)]
    rw [if_neg (show ¬ x.op = 25 by omega)]
    rw [if_neg (show ¬ x.op = 26 by omega)]
    rw [if_neg (show ¬ x.op = 27 by omega)]
    rw [if_pos ⟨by omega, hz⟩])
  clear hz
  have HV := Lib.hid hv
  clear hx hp hps hv htg hxm
  go_enter Try.func35, Try.ntmps35
  go_wp2_with (first | ((with_reducible refine wpList_gate ?_); first | ((refine gate_load (by rfl) ?_); first | (refine wpList_kn_oldN KN (by rfl) 29 _ rfl g _ rfl x.cells RNG.out hgl (by simp) _ Try.underlying29 rfl (by kernel_rfl) ?_) | (refine wpList_kn_load1 KN (by rfl) 3 _ rfl _ _ rfl _ _ (by repeat (first | exact Has.here | refine Has.there ?_)) _ (by (repeat (first | ((with_reducible refine get_hit ?_); exact Nat.le_of_ble_eq_true (by kernel_rfl)) | ((with_reducible refine (get_miss ?_).trans ?_); (focus kernel_rfl)) | ((with_reducible refine (get_pmiss ?_).trans ?_); (focus kernel_rfl)))); all_goals (conv => lhs; whnf; arg 1; whnf)) _ Try.underlying3 rfl ?_) | (refine wpList_kn_loadW KN (by rfl) 35 _ rfl _ rfl _ _ (by repeat (first | exact Has.here | refine Has.there ?_)) _ Try.underlying35 rfl (by kernel_rfl) ?_) | (refine wpList_kn_loadW KN (by rfl) 29 _ rfl _ rfl _ _ (by repeat (first | exact Has.here | refine Has.there ?_)) _ Try.underlying29 rfl (by kernel_rfl) ?_) | (refine wpList_kn_load1 KN (by rfl) 30 _ rfl _ _ rfl _ _ (by repeat (first | exact Has.here | refine Has.there ?_)) _ (by (repeat (first | ((with_reducible refine get_hit ?_); exact Nat.le_of_ble_eq_true (by kernel_rfl)) | ((with_reducible refine (get_miss ?_).trans ?_); (focus kernel_rfl)) | ((with_reducible refine (get_pmiss ?_).trans ?_); (focus kernel_rfl)))); all_goals (conv => lhs; whnf; arg 1; whnf)) _ Try.underlying30 rfl ?_) | (refine wpList_kn_load1 KN (by rfl) 21 _ rfl _ _ rfl _ _ (by repeat (first | exact Has.here | refine Has.there ?_)) _ (by (repeat (first | ((with_reducible refine get_hit ?_); exact Nat.le_of_ble_eq_true (by kernel_rfl)) | ((with_reducible refine (get_miss ?_).trans ?_); (focus kernel_rfl)) | ((with_reducible refine (get_pmiss ?_).trans ?_); (focus kernel_rfl)))); all_goals (conv => lhs; whnf; arg 1; whnf)) _ Try.underlying21 rfl ?_) | (refine wpList_kn_loadW KN (by rfl) 33 _ rfl _ rfl _ _ (by repeat (first | exact Has.here | refine Has.there ?_)) _ Try.underlying33 rfl (by kernel_rfl) ?_)) | ((refine gate_store (by rfl) ?_); first | (refine wpList_kn_storeW KN (by rfl) 35 _ _ rfl _ rfl _ rfl _ _ (by repeat (first | exact Repl.here | apply Repl.there)) (by kernel_rfl) (by kernel_rfl) (by kernel_rfl) ?_; clear KN; intro wx KN) | (refine wpList_kn_storeA KN (by rfl) 35 _ _ rfl _ _ rfl _ rfl _ _ (by repeat (first | exact Repl.here | apply Repl.there)) (by (try simp only [Array.size_setIfInBounds, putL_size]); first | exact Nat.le_of_ble_eq_true rfl | (simp; omega)) (by kernel_rfl) (by kernel_rfl) ?_; clear KN; intro wx KN) | (refine wpList_kn_storeW KN (by rfl) 33 _ _ rfl _ rfl _ rfl _ _ (by repeat (first | exact Repl.here | apply Repl.there)) (by kernel_rfl) (by kernel_rfl) (by kernel_rfl) ?_; clear KN; intro wx KN) | (refine wpList_kn_storeA KN (by rfl) 33 _ _ rfl _ _ rfl _ rfl _ _ (by repeat (first | exact Repl.here | apply Repl.there)) (by (try simp only [Array.size_setIfInBounds, putL_size]); first | exact Nat.le_of_ble_eq_true rfl | (simp; omega)) (by kernel_rfl) (by kernel_rfl) ?_; clear KN; intro wx KN) | (refine wpList_kn_storeW KN (by rfl) 29 _ _ rfl _ rfl _ rfl _ _ (by repeat (first | exact Repl.here | apply Repl.there)) (by kernel_rfl) (by kernel_rfl) (by kernel_rfl) ?_; clear KN; intro wx KN) | (refine wpList_kn_storeA KN (by rfl) 29 _ _ rfl _ _ rfl _ rfl _ _ (by repeat (first | exact Repl.here | apply Repl.there)) (by (try simp only [Array.size_setIfInBounds, putL_size]); first | exact Nat.le_of_ble_eq_true rfl | (simp; omega)) (by kernel_rfl) (by kernel_rfl) ?_; clear KN; intro wx KN) | (refine wpList_kn_store1 KN (by rfl) 3 _ _ rfl _ _ rfl _ (by conv => lhs; whnf) (by rfl) _ _ (by repeat (first | exact Repl.here | apply Repl.there)) (by (try simp only [Array.size_setIfInBounds, putL_size]); first | exact Nat.le_of_ble_eq_true rfl | (simp; omega)) (by kernel_rfl) (by rfl) ?_; clear KN; intro wx KN) | (refine wpList_kn_store1 KN (by rfl) 30 _ _ rfl _ _ rfl _ (by conv => lhs; whnf) (by rfl) _ _ (by repeat (first | exact Repl.here | apply Repl.there)) (by (try simp only [Array.size_setIfInBounds, putL_size]); first | exact Nat.le_of_ble_eq_true rfl | (simp; omega)) (by kernel_rfl) (by rfl) ?_; clear KN; intro wx KN)) | ((refine gate_new (by rfl) ?_); first | (refine wpList_kn_boxA KN (by rfl) 35 _ rfl 2 rfl _ rfl ?_; clear KN; intro g2 wx hg2 KN) | (refine wpList_kn_alloc KN (by rfl) 35 rfl 4 rfl Vm.zero.cells (by kernel_rfl) ?_; clear KN; intro g4 wx hg4 KN) | (refine wpList_kn_alloc KN (by rfl) 33 rfl 5 rfl Eff.none.cells (by kernel_rfl) ?_; clear KN; intro g5 wx hg5 KN) | (refine wpList_kn_alloc KN (by rfl) 29 rfl 6 rfl (Ins.mk 0 0 0 0 0).cells (by kernel_rfl) ?_; clear KN; intro g6 wx hg6 KN) | (refine wpList_kn_alloc KN (by rfl) 35 rfl 11 rfl Vm.zero.cells (by kernel_rfl) ?_; clear KN; intro g11 wx hg11 KN) | (refine wpList_built rfl 33 #[] rfl Eff.none.cells (by kernel_rfl) ?_))))
  have c1 := KN.cell (g := g6) (by repeat (first | exact Has.here | refine Has.there ?_)) (x.get1)
  have c2 := KN.cell (g := g6) (by repeat (first | exact Has.here | refine Has.there ?_)) (x.get2)
  have c3 := KN.cell (g := g6) (by repeat (first | exact Has.here | refine Has.there ?_)) (x.get3)
  have c4 := KN.cell (g := g2) (by repeat (first | exact Has.here | refine Has.there ?_)) EQA.out
  have c5 := KN.cell (g := g2) (by repeat (first | exact Has.here | refine Has.there ?_)) EQB.out
  have c6 := KN.cell (g := g2) (by repeat (first | exact Has.here | refine Has.there ?_)) EQC.out
  go_quiet (fail)
  clear c1 c2 c3 c4 c5 c6
  replace KN := KN.drewN nq
  generalize hwq : World.drewN _ nq = w1 at KN ⊢
  clear hwq
  have c1 := KN.cell (g := g6) (by repeat (first | exact Has.here | refine Has.there ?_)) (x.get4)
  have c2 := KN.cell (g := g2) (by repeat (first | exact Has.here | refine Has.there ?_)) (v.get0)
  go_wp2_with fail
  have hm := IM.out
  go_quiet ((go_at_call 40; exact Calls.quiet_of_same ((mask_any _ _ HV.out.wide).mono fun _ _ h => ⟨h.1, h.2.symm⟩)))
  clear c1 c2 hm
  replace KN := KN.drewN nq
  generalize hwq : World.drewN _ nq = w2 at KN ⊢
  clear hwq
  obtain ⟨im, him⟩ : ∃ im, im = x.imm % pw2 v.width := ⟨_, rfl⟩
  rw [← him] at im0 im1 ⊢
  have HIM := Lib.hid him
  clear him
  go_wp2_with (first | (go_at_call 38; refine (trapv_any v 1 _).mono ?_; rintro e wx ⟨rfl, hb1⟩; replace KN := KN.below hb1; clear hb1) | ((with_reducible refine wpList_gate ?_); first | ((refine gate_load (by rfl) ?_); first | (refine wpList_kn_load1 KN (by rfl) 3 _ rfl _ _ rfl _ _ (by repeat (first | exact Has.here | refine Has.there ?_)) _ (by (repeat (first | ((with_reducible refine get_hit ?_); exact Nat.le_of_ble_eq_true (by kernel_rfl)) | ((with_reducible refine (get_miss ?_).trans ?_); (focus kernel_rfl)) | ((with_reducible refine (get_pmiss ?_).trans ?_); (focus kernel_rfl)))); all_goals (conv => lhs; whnf; arg 1; whnf)) _ Try.underlying3 rfl ?_) | (refine wpList_kn_loadW KN (by rfl) 35 _ rfl _ rfl _ _ (by repeat (first | exact Has.here | refine Has.there ?_)) _ Try.underlying35 rfl (by kernel_rfl) ?_) | (refine wpList_kn_loadW KN (by rfl) 29 _ rfl _ rfl _ _ (by repeat (first | exact Has.here | refine Has.there ?_)) _ Try.underlying29 rfl (by kernel_rfl) ?_) | (refine wpList_kn_load1 KN (by rfl) 30 _ rfl _ _ rfl _ _ (by repeat (first | exact Has.here | refine Has.there ?_)) _ (by (repeat (first | ((with_reducible refine get_hit ?_); exact Nat.le_of_ble_eq_true (by kernel_rfl)) | ((with_reducible refine (get_miss ?_).trans ?_); (focus kernel_rfl)) | ((with_reducible refine (get_pmiss ?_).trans ?_); (focus kernel_rfl)))); all_goals (conv => lhs; whnf; arg 1; whnf)) _ Try.underlying30 rfl ?_) | (refine wpList_kn_load1 KN (by rfl) 21 _ rfl _ _ rfl _ _ (by repeat (first | exact Has.here | refine Has.there ?_)) _ (by (repeat (first | ((with_reducible refine get_hit ?_); exact Nat.le_of_ble_eq_true (by kernel_rfl)) | ((with_reducible refine (get_miss ?_).trans ?_); (focus kernel_rfl)) | ((with_reducible refine (get_pmiss ?_).trans ?_); (focus kernel_rfl)))); all_goals (conv => lhs; whnf; arg 1; whnf)) _ Try.underlying21 rfl ?_) | (refine wpList_kn_loadW KN (by rfl) 33 _ rfl _ rfl _ _ (by repeat (first | exact Has.here | refine Has.there ?_)) _ Try.underlying33 rfl (by kernel_rfl) ?_)) | ((refine gate_store (by rfl) ?_); first | (refine wpList_kn_storeW KN (by rfl) 35 _ _ rfl _ rfl _ rfl _ _ (by repeat (first | exact Repl.here | apply Repl.there)) (by kernel_rfl) (by kernel_rfl) (by kernel_rfl) ?_; clear KN; intro wx KN) | (refine wpList_kn_storeA KN (by rfl) 35 _ _ rfl _ _ rfl _ rfl _ _ (by repeat (first | exact Repl.here | apply Repl.there)) (by (try simp only [Array.size_setIfInBounds, putL_size]); first | exact Nat.le_of_ble_eq_true rfl | (simp; omega)) (by kernel_rfl) (by kernel_rfl) ?_; clear KN; intro wx KN) | (refine wpList_kn_storeW KN (by rfl) 33 _ _ rfl _ rfl _ rfl _ _ (by repeat (first | exact Repl.here | apply Repl.there)) (by kernel_rfl) (by kernel_rfl) (by kernel_rfl) ?_; clear KN; intro wx KN) | (refine wpList_kn_storeA KN (by rfl) 33 _ _ rfl _ _ rfl _ rfl _ _ (by repeat (first | exact Repl.here | apply Repl.there)) (by (try simp only [Array.size_setIfInBounds, putL_size]); first | exact Nat.le_of_ble_eq_true rfl | (simp; omega)) (by kernel_rfl) (by kernel_rfl) ?_; clear KN; intro wx KN) | (refine wpList_kn_storeW KN (by rfl) 29 _ _ rfl _ rfl _ rfl _ _ (by repeat (first | exact Repl.here | apply Repl.there)) (by kernel_rfl) (by kernel_rfl) (by kernel_rfl) ?_; clear KN; intro wx KN) | (refine wpList_kn_storeA KN (by rfl) 29 _ _ rfl _ _ rfl _ rfl _ _ (by repeat (first | exact Repl.here | apply Repl.there)) (by (try simp only [Array.size_setIfInBounds, putL_size]); first | exact Nat.le_of_ble_eq_true rfl | (simp; omega)) (by kernel_rfl) (by kernel_rfl) ?_; clear KN; intro wx KN) | (refine wpList_kn_store1 KN (by rfl) 3 _ _ rfl _ _ rfl _ (by conv => lhs; whnf) (by rfl) _ _ (by repeat (first | exact Repl.here | apply Repl.there)) (by (try simp only [Array.size_setIfInBounds, putL_size]); first | exact Nat.le_of_ble_eq_true rfl | (simp; omega)) (by kernel_rfl) (by rfl) ?_; clear KN; intro wx KN) | (refine wpList_kn_store1 KN (by rfl) 30 _ _ rfl _ _ rfl _ (by conv => lhs; whnf) (by rfl) _ _ (by repeat (first | exact Repl.here | apply Repl.there)) (by (try simp only [Array.size_setIfInBounds, putL_size]); first | exact Nat.le_of_ble_eq_true rfl | (simp; omega)) (by kernel_rfl) (by rfl) ?_; clear KN; intro wx KN)) | ((refine gate_new (by rfl) ?_); first | (refine wpList_kn_boxA KN (by rfl) 35 _ rfl 2 rfl _ rfl ?_; clear KN; intro g2 wx hg2 KN) | (refine wpList_kn_alloc KN (by rfl) 35 rfl 4 rfl Vm.zero.cells (by kernel_rfl) ?_; clear KN; intro g4 wx hg4 KN) | (refine wpList_kn_alloc KN (by rfl) 33 rfl 5 rfl Eff.none.cells (by kernel_rfl) ?_; clear KN; intro g5 wx hg5 KN) | (refine wpList_kn_alloc KN (by rfl) 29 rfl 6 rfl (Ins.mk 0 0 0 0 0).cells (by kernel_rfl) ?_; clear KN; intro g6 wx hg6 KN) | (refine wpList_kn_alloc KN (by rfl) 35 rfl 11 rfl Vm.zero.cells (by kernel_rfl) ?_; clear KN; intro g11 wx hg11 KN) | (refine wpList_built rfl 33 #[] rfl Eff.none.cells (by kernel_rfl) ?_))))
  exact bodyPost_ret (results_cc Try.results35 _ _ _ _ ((v.trap 1).1).cells ((v.trap 1).2).cells rfl (load_vm (KN.at_ (by repeat (first | exact Has.here | refine Has.there ?_)))) rfl (load_eff (KN.at_ (by repeat (first | exact Has.here | refine Has.there ?_))))) rfl ⟨by rw [RES.out]; rfl, KN.toBelow⟩
set_option maxRecDepth 100000 in
set_option maxHeartbeats 2000000 in
theorem stepR_alu (v : Vm) (p : List Ins) (x : Ins) (g off c : Nat) (w : World) (hv : v.fits) (hp : Good p) (hps : PS w g off p) (hx : p[v.pc.toNat]? = some x) (hop : 1 ≤ x.op ∧ x.op ≤ 17) (h7 : ¬ x.op = 7) (h8 : ¬ x.op = 8) :
    Calls Try.prog 35 #[.agg v.cells, .slice (some ⟨g, off, none⟩) p.length c] w fun e w' => e = .returned (stepVal2 (stepI v x p.length)) ∧ Below w.heap.size w w' := by
  have KN := Kn.start w
  have hxm := List.mem_of_getElem? hx
  obtain ⟨o0, o1, htg, ⟨xa0, xa1⟩, ⟨xb0, xb1⟩, ⟨xc0, xc1⟩⟩ := insErr_target (hp.ok x hxm)
  obtain ⟨pc0, pc1⟩ := hv.pc
  obtain ⟨pl0, pl1⟩ := hp.len
  have hlt : v.pc < p.length := by have := (List.getElem?_eq_some_iff.1 hx).1; omega
  have RNG := Lib.hid (hps.range hx)
  have hgl := hps.1
  have IM := Lib.hid (imm_mask x.imm v.width hv.wide)
  have im0 := Int.emod_nonneg x.imm (show pw2 v.width ≠ 0 by have := pw2_pos v.width; omega)
  have im1 := Int.emod_lt_of_pos x.imm (pw2_pos v.width).1
  have im2 := (pw2_pos v.width).2
  have ra := hv.reg x.a.toNat
  have rb := hv.reg x.b.toNat
  have rc := hv.reg x.c.toNat
  obtain ⟨ra0, ra1⟩ := ra
  obtain ⟨rb0, rb1⟩ := rb
  obtain ⟨rc0, rc1⟩ := rc
  obtain ⟨ii0, ii1⟩ := hp.imm x hxm
  have EQA := Lib.hid (Vm.cells_reg v x.a.toNat (by omega))
  have EQB := Lib.hid (Vm.cells_reg v x.b.toNat (by omega))
  have EQC := Lib.hid (Vm.cells_reg v x.c.toNat (by omega))
  have HLEN := Lib.hid hv.len
  have t0 : (x.op == 0) = false := by rw [beq_eq_false_iff_ne]; omega
  have t18 : (x.op == 18) = false := by rw [beq_eq_false_iff_ne]; omega
  have t19 : (x.op == 19) = false := by rw [beq_eq_false_iff_ne]; omega
  have t20 : (x.op == 20) = false := by rw [beq_eq_false_iff_ne]; omega
  have t21 : (x.op == 21) = false := by rw [beq_eq_false_iff_ne]; omega
  have t22 : (x.op == 22) = false := by rw [beq_eq_false_iff_ne]; omega
  have t23 : (x.op == 23) = false := by rw [beq_eq_false_iff_ne]; omega
  have t24 : (x.op == 24) = false := by rw [beq_eq_false_iff_ne]; omega
  have t25 : (x.op == 25) = false := by rw [beq_eq_false_iff_ne]; omega
  have t26 : (x.op == 26) = false := by rw [beq_eq_false_iff_ne]; omega
  have t27 : (x.op == 27) = false := by rw [beq_eq_false_iff_ne]; omega
  have u7 : (x.op == 7) = false := by rw [beq_eq_false_iff_ne]; omega
  have u8 : (x.op == 8) = false := by rw [beq_eq_false_iff_ne]; omega
  have hz : ¬ ((x.op = 7 ∨ x.op = 8) ∧ v.r x.c.toNat = 0) := fun q => by omega
  have HZ := Lib.hid hz
  have RES : Hid (stepI v x p.length = ({ v.setR x.a.toNat (compute v.width x.op (v.r x.a.toNat) (v.r x.b.toNat) (v.r x.c.toNat) (x.imm % pw2 v.width) % pw2 v.width) with pc := v.pc + 1 }, Eff.none)) := Lib.hid (by
    unfold stepI
    rw [if_neg (show ¬ x.op = 0 by omega)]
    rw [if_neg (show ¬ x.op = 18 by omega)]
    rw [if_neg (show ¬ x.op = 19 by omega)]
    rw [if_neg (show ¬ x.op = 20 by omega)]
    rw [if_neg (show ¬ x.op = 21 by omega)]
    rw [if_neg (show ¬ x.op = 22 by omega)]
    rw [if_neg (show ¬ x.op = 23 by omega)]
    rw [if_neg (show ¬ x.op = 24 by omega)]
    rw [if_neg (show ¬ x.op = 25 by omega)]
    rw [if_neg (show ¬ x.op = 26 by omega)]
    rw [if_neg (show ¬ x.op = 27 by omega)]
    rw [if_neg hz]
    rfl)
  clear hz
  have HV := Lib.hid hv
  clear hx hp hps hv htg hxm
  go_enter Try.func35, Try.ntmps35
  go_wp2_with (first | ((with_reducible refine wpList_gate ?_); first | ((refine gate_load (by rfl) ?_); first | (refine wpList_kn_oldN KN (by rfl) 29 _ rfl g _ rfl x.cells RNG.out hgl (by simp) _ Try.underlying29 rfl (by kernel_rfl) ?_) | (refine wpList_kn_load1 KN (by rfl) 3 _ rfl _ _ rfl _ _ (by repeat (first | exact Has.here | refine Has.there ?_)) _ (by (repeat (first | ((with_reducible refine get_hit ?_); exact Nat.le_of_ble_eq_true (by kernel_rfl)) | ((with_reducible refine (get_miss ?_).trans ?_); (focus kernel_rfl)) | ((with_reducible refine (get_pmiss ?_).trans ?_); (focus kernel_rfl)))); all_goals (conv => lhs; whnf; arg 1; whnf)) _ Try.underlying3 rfl ?_) | (refine wpList_kn_loadW KN (by rfl) 35 _ rfl _ rfl _ _ (by repeat (first | exact Has.here | refine Has.there ?_)) _ Try.underlying35 rfl (by kernel_rfl) ?_) | (refine wpList_kn_loadW KN (by rfl) 29 _ rfl _ rfl _ _ (by repeat (first | exact Has.here | refine Has.there ?_)) _ Try.underlying29 rfl (by kernel_rfl) ?_) | (refine wpList_kn_load1 KN (by rfl) 30 _ rfl _ _ rfl _ _ (by repeat (first | exact Has.here | refine Has.there ?_)) _ (by (repeat (first | ((with_reducible refine get_hit ?_); exact Nat.le_of_ble_eq_true (by kernel_rfl)) | ((with_reducible refine (get_miss ?_).trans ?_); (focus kernel_rfl)) | ((with_reducible refine (get_pmiss ?_).trans ?_); (focus kernel_rfl)))); all_goals (conv => lhs; whnf; arg 1; whnf)) _ Try.underlying30 rfl ?_) | (refine wpList_kn_load1 KN (by rfl) 21 _ rfl _ _ rfl _ _ (by repeat (first | exact Has.here | refine Has.there ?_)) _ (by (repeat (first | ((with_reducible refine get_hit ?_); exact Nat.le_of_ble_eq_true (by kernel_rfl)) | ((with_reducible refine (get_miss ?_).trans ?_); (focus kernel_rfl)) | ((with_reducible refine (get_pmiss ?_).trans ?_); (focus kernel_rfl)))); all_goals (conv => lhs; whnf; arg 1; whnf)) _ Try.underlying21 rfl ?_) | (refine wpList_kn_loadW KN (by rfl) 33 _ rfl _ rfl _ _ (by repeat (first | exact Has.here | refine Has.there ?_)) _ Try.underlying33 rfl (by kernel_rfl) ?_)) | ((refine gate_store (by rfl) ?_); first | (refine wpList_kn_storeW KN (by rfl) 35 _ _ rfl _ rfl _ rfl _ _ (by repeat (first | exact Repl.here | apply Repl.there)) (by kernel_rfl) (by kernel_rfl) (by kernel_rfl) ?_; clear KN; intro wx KN) | (refine wpList_kn_storeA KN (by rfl) 35 _ _ rfl _ _ rfl _ rfl _ _ (by repeat (first | exact Repl.here | apply Repl.there)) (by (try simp only [Array.size_setIfInBounds, putL_size]); first | exact Nat.le_of_ble_eq_true rfl | (simp; omega)) (by kernel_rfl) (by kernel_rfl) ?_; clear KN; intro wx KN) | (refine wpList_kn_storeW KN (by rfl) 33 _ _ rfl _ rfl _ rfl _ _ (by repeat (first | exact Repl.here | apply Repl.there)) (by kernel_rfl) (by kernel_rfl) (by kernel_rfl) ?_; clear KN; intro wx KN) | (refine wpList_kn_storeA KN (by rfl) 33 _ _ rfl _ _ rfl _ rfl _ _ (by repeat (first | exact Repl.here | apply Repl.there)) (by (try simp only [Array.size_setIfInBounds, putL_size]); first | exact Nat.le_of_ble_eq_true rfl | (simp; omega)) (by kernel_rfl) (by kernel_rfl) ?_; clear KN; intro wx KN) | (refine wpList_kn_storeW KN (by rfl) 29 _ _ rfl _ rfl _ rfl _ _ (by repeat (first | exact Repl.here | apply Repl.there)) (by kernel_rfl) (by kernel_rfl) (by kernel_rfl) ?_; clear KN; intro wx KN) | (refine wpList_kn_storeA KN (by rfl) 29 _ _ rfl _ _ rfl _ rfl _ _ (by repeat (first | exact Repl.here | apply Repl.there)) (by (try simp only [Array.size_setIfInBounds, putL_size]); first | exact Nat.le_of_ble_eq_true rfl | (simp; omega)) (by kernel_rfl) (by kernel_rfl) ?_; clear KN; intro wx KN) | (refine wpList_kn_store1 KN (by rfl) 3 _ _ rfl _ _ rfl _ (by conv => lhs; whnf) (by rfl) _ _ (by repeat (first | exact Repl.here | apply Repl.there)) (by (try simp only [Array.size_setIfInBounds, putL_size]); first | exact Nat.le_of_ble_eq_true rfl | (simp; omega)) (by kernel_rfl) (by rfl) ?_; clear KN; intro wx KN) | (refine wpList_kn_store1 KN (by rfl) 30 _ _ rfl _ _ rfl _ (by conv => lhs; whnf) (by rfl) _ _ (by repeat (first | exact Repl.here | apply Repl.there)) (by (try simp only [Array.size_setIfInBounds, putL_size]); first | exact Nat.le_of_ble_eq_true rfl | (simp; omega)) (by kernel_rfl) (by rfl) ?_; clear KN; intro wx KN)) | ((refine gate_new (by rfl) ?_); first | (refine wpList_kn_boxA KN (by rfl) 35 _ rfl 2 rfl _ rfl ?_; clear KN; intro g2 wx hg2 KN) | (refine wpList_kn_alloc KN (by rfl) 35 rfl 4 rfl Vm.zero.cells (by kernel_rfl) ?_; clear KN; intro g4 wx hg4 KN) | (refine wpList_kn_alloc KN (by rfl) 33 rfl 5 rfl Eff.none.cells (by kernel_rfl) ?_; clear KN; intro g5 wx hg5 KN) | (refine wpList_kn_alloc KN (by rfl) 29 rfl 6 rfl (Ins.mk 0 0 0 0 0).cells (by kernel_rfl) ?_; clear KN; intro g6 wx hg6 KN) | (refine wpList_kn_alloc KN (by rfl) 35 rfl 11 rfl Vm.zero.cells (by kernel_rfl) ?_; clear KN; intro g11 wx hg11 KN) | (refine wpList_built rfl 33 #[] rfl Eff.none.cells (by kernel_rfl) ?_))))
  have c1 := KN.cell (g := g6) (by repeat (first | exact Has.here | refine Has.there ?_)) (x.get1)
  have c2 := KN.cell (g := g6) (by repeat (first | exact Has.here | refine Has.there ?_)) (x.get2)
  have c3 := KN.cell (g := g6) (by repeat (first | exact Has.here | refine Has.there ?_)) (x.get3)
  have c4 := KN.cell (g := g2) (by repeat (first | exact Has.here | refine Has.there ?_)) EQA.out
  have c5 := KN.cell (g := g2) (by repeat (first | exact Has.here | refine Has.there ?_)) EQB.out
  have c6 := KN.cell (g := g2) (by repeat (first | exact Has.here | refine Has.there ?_)) EQC.out
  go_quiet (fail)
  clear c1 c2 c3 c4 c5 c6
  replace KN := KN.drewN nq
  generalize hwq : World.drewN _ nq = w1 at KN ⊢
  clear hwq
  have c1 := KN.cell (g := g6) (by repeat (first | exact Has.here | refine Has.there ?_)) (x.get4)
  have c2 := KN.cell (g := g2) (by repeat (first | exact Has.here | refine Has.there ?_)) (v.get0)
  go_wp2_with fail
  have hm := IM.out
  go_quiet ((go_at_call 40; exact Calls.quiet_of_same ((mask_any _ _ HV.out.wide).mono fun _ _ h => ⟨h.1, h.2.symm⟩)))
  clear c1 c2 hm
  replace KN := KN.drewN nq
  generalize hwq : World.drewN _ nq = w2 at KN ⊢
  clear hwq
  obtain ⟨im, him⟩ : ∃ im, im = x.imm % pw2 v.width := ⟨_, rfl⟩
  rw [← him] at im0 im1 ⊢
  have HIM := Lib.hid him
  clear him
  go_wp2_with (first | ((with_reducible refine wpList_gate ?_); first | ((refine gate_load (by rfl) ?_); first | (refine wpList_kn_load1 KN (by rfl) 3 _ rfl _ _ rfl _ _ (by repeat (first | exact Has.here | refine Has.there ?_)) _ (by (repeat (first | ((with_reducible refine get_hit ?_); exact Nat.le_of_ble_eq_true (by kernel_rfl)) | ((with_reducible refine (get_miss ?_).trans ?_); (focus kernel_rfl)) | ((with_reducible refine (get_pmiss ?_).trans ?_); (focus kernel_rfl)))); all_goals (conv => lhs; whnf; arg 1; whnf)) _ Try.underlying3 rfl ?_) | (refine wpList_kn_loadW KN (by rfl) 35 _ rfl _ rfl _ _ (by repeat (first | exact Has.here | refine Has.there ?_)) _ Try.underlying35 rfl (by kernel_rfl) ?_) | (refine wpList_kn_loadW KN (by rfl) 29 _ rfl _ rfl _ _ (by repeat (first | exact Has.here | refine Has.there ?_)) _ Try.underlying29 rfl (by kernel_rfl) ?_) | (refine wpList_kn_load1 KN (by rfl) 30 _ rfl _ _ rfl _ _ (by repeat (first | exact Has.here | refine Has.there ?_)) _ (by (repeat (first | ((with_reducible refine get_hit ?_); exact Nat.le_of_ble_eq_true (by kernel_rfl)) | ((with_reducible refine (get_miss ?_).trans ?_); (focus kernel_rfl)) | ((with_reducible refine (get_pmiss ?_).trans ?_); (focus kernel_rfl)))); all_goals (conv => lhs; whnf; arg 1; whnf)) _ Try.underlying30 rfl ?_) | (refine wpList_kn_load1 KN (by rfl) 21 _ rfl _ _ rfl _ _ (by repeat (first | exact Has.here | refine Has.there ?_)) _ (by (repeat (first | ((with_reducible refine get_hit ?_); exact Nat.le_of_ble_eq_true (by kernel_rfl)) | ((with_reducible refine (get_miss ?_).trans ?_); (focus kernel_rfl)) | ((with_reducible refine (get_pmiss ?_).trans ?_); (focus kernel_rfl)))); all_goals (conv => lhs; whnf; arg 1; whnf)) _ Try.underlying21 rfl ?_) | (refine wpList_kn_loadW KN (by rfl) 33 _ rfl _ rfl _ _ (by repeat (first | exact Has.here | refine Has.there ?_)) _ Try.underlying33 rfl (by kernel_rfl) ?_)) | ((refine gate_store (by rfl) ?_); first | (refine wpList_kn_storeW KN (by rfl) 35 _ _ rfl _ rfl _ rfl _ _ (by repeat (first | exact Repl.here | apply Repl.there)) (by kernel_rfl) (by kernel_rfl) (by kernel_rfl) ?_; clear KN; intro wx KN) | (refine wpList_kn_storeA KN (by rfl) 35 _ _ rfl _ _ rfl _ rfl _ _ (by repeat (first | exact Repl.here | apply Repl.there)) (by (try simp only [Array.size_setIfInBounds, putL_size]); first | exact Nat.le_of_ble_eq_true rfl | (simp; omega)) (by kernel_rfl) (by kernel_rfl) ?_; clear KN; intro wx KN) | (refine wpList_kn_storeW KN (by rfl) 33 _ _ rfl _ rfl _ rfl _ _ (by repeat (first | exact Repl.here | apply Repl.there)) (by kernel_rfl) (by kernel_rfl) (by kernel_rfl) ?_; clear KN; intro wx KN) | (refine wpList_kn_storeA KN (by rfl) 33 _ _ rfl _ _ rfl _ rfl _ _ (by repeat (first | exact Repl.here | apply Repl.there)) (by (try simp only [Array.size_setIfInBounds, putL_size]); first | exact Nat.le_of_ble_eq_true rfl | (simp; omega)) (by kernel_rfl) (by kernel_rfl) ?_; clear KN; intro wx KN) | (refine wpList_kn_storeW KN (by rfl) 29 _ _ rfl _ rfl _ rfl _ _ (by repeat (first | exact Repl.here | apply Repl.there)) (by kernel_rfl) (by kernel_rfl) (by kernel_rfl) ?_; clear KN; intro wx KN) | (refine wpList_kn_storeA KN (by rfl) 29 _ _ rfl _ _ rfl _ rfl _ _ (by repeat (first | exact Repl.here | apply Repl.there)) (by (try simp only [Array.size_setIfInBounds, putL_size]); first | exact Nat.le_of_ble_eq_true rfl | (simp; omega)) (by kernel_rfl) (by kernel_rfl) ?_; clear KN; intro wx KN) | (refine wpList_kn_store1 KN (by rfl) 3 _ _ rfl _ _ rfl _ (by conv => lhs; whnf) (by rfl) _ _ (by repeat (first | exact Repl.here | apply Repl.there)) (by (try simp only [Array.size_setIfInBounds, putL_size]); first | exact Nat.le_of_ble_eq_true rfl | (simp; omega)) (by kernel_rfl) (by rfl) ?_; clear KN; intro wx KN) | (refine wpList_kn_store1 KN (by rfl) 30 _ _ rfl _ _ rfl _ (by conv => lhs; whnf) (by rfl) _ _ (by repeat (first | exact Repl.here | apply Repl.there)) (by (try simp only [Array.size_setIfInBounds, putL_size]); first | exact Nat.le_of_ble_eq_true rfl | (simp; omega)) (by kernel_rfl) (by rfl) ?_; clear KN; intro wx KN)) | ((refine gate_new (by rfl) ?_); first | (refine wpList_kn_boxA KN (by rfl) 35 _ rfl 2 rfl _ rfl ?_; clear KN; intro g2 wx hg2 KN) | (refine wpList_kn_alloc KN (by rfl) 35 rfl 4 rfl Vm.zero.cells (by kernel_rfl) ?_; clear KN; intro g4 wx hg4 KN) | (refine wpList_kn_alloc KN (by rfl) 33 rfl 5 rfl Eff.none.cells (by kernel_rfl) ?_; clear KN; intro g5 wx hg5 KN) | (refine wpList_kn_alloc KN (by rfl) 29 rfl 6 rfl (Ins.mk 0 0 0 0 0).cells (by kernel_rfl) ?_; clear KN; intro g6 wx hg6 KN) | (refine wpList_kn_alloc KN (by rfl) 35 rfl 11 rfl Vm.zero.cells (by kernel_rfl) ?_; clear KN; intro g11 wx hg11 KN) | (refine wpList_built rfl 33 #[] rfl Eff.none.cells (by kernel_rfl) ?_))))
  replace KN := KN.drew
  refine wp_region_held_drew (S := (fun w' => BlkT w' g6 x.cells 29 ∧ BlkT w' g2 v.cells 35)) (by kernel_rfl) ?qhS (fun hHeld => ?qrest)
  case qhS => exact ⟨KN.at_ (by repeat (first | exact Has.here | refine Has.there ?_)), KN.at_ (by repeat (first | exact Has.here | refine Has.there ?_))⟩
  refine wpAnyH_take (i := 0) (oi := ⟨some 73, _, _, _, _, _⟩) (v := ?qv0) rfl (by kernel_rfl) (by kernel_rfl) (by kernel_rfl) (fun _ _ _ h => h) (Or.inl ⟨by rfl, ?qhy0⟩) hHeld ?qr0
  case qhy0 => (intro w hSw; (try dsimp only at hSw); go_simp; (try with_reducible rfl))
  (try simp only [Act.put, List.setIfInBounds_toArray, List.set_cons_zero, List.set_cons_succ])
  refine wpAnyH_take (i := 1) (oi := ⟨some 74, _, _, _, _, _⟩) (v := (.int .i64 x.a)) rfl (by kernel_rfl) (by kernel_rfl) (by kernel_rfl) (fun _ _ _ h => h) (kn_yields1 (by rfl) 3 _ rfl g6 1 rfl x.cells 29 (fun _ h => h.1) _ x.get1 _ Try.underlying3 rfl) hHeld ?qr1
  (try simp only [Act.put, List.setIfInBounds_toArray, List.set_cons_zero, List.set_cons_succ])
  refine wpAnyH_take (i := 2) (oi := ⟨some 75, _, _, _, _, _⟩) (v := ?qv2) rfl (by kernel_rfl) (by kernel_rfl) (by kernel_rfl) (fun _ _ _ h => h) (Or.inl ⟨by rfl, ?qhy2⟩) hHeld ?qr2
  case qhy2 => (intro w hSw; (try dsimp only at hSw); go_simp; (try with_reducible rfl))
  (try simp only [Act.put, List.setIfInBounds_toArray, List.set_cons_zero, List.set_cons_succ])
  refine wpAnyH_take (i := 3) (oi := ⟨some 76, _, _, _, _, _⟩) (v := (.int .i64 v.width)) rfl (by kernel_rfl) (by kernel_rfl) (by kernel_rfl) (fun _ _ _ h => h) (kn_yields1 (by rfl) 3 _ rfl g2 0 rfl v.cells 35 (fun _ h => h.2) _ v.get0 _ Try.underlying3 rfl) hHeld ?qr3
  (try simp only [Act.put, List.setIfInBounds_toArray, List.set_cons_zero, List.set_cons_succ])
  refine wpAnyH_take (i := 4) (oi := ⟨some 77, _, _, _, _, _⟩) (v := (.agg x.cells)) rfl (by kernel_rfl) (by kernel_rfl) (by kernel_rfl) (fun _ _ _ h => h) (kn_yieldsN (by rfl) 29 _ rfl g6 0 rfl _ 29 (fun _ h => h.1) _ (extract_whole _) _ Try.underlying29 rfl (by kernel_rfl)) hHeld ?qr4
  (try simp only [Act.put, List.setIfInBounds_toArray, List.set_cons_zero, List.set_cons_succ])
  refine wpAnyH_take (i := 5) (oi := ⟨some 78, _, _, _, _, _⟩) (v := ?qv5) rfl (by kernel_rfl) (by kernel_rfl) (by kernel_rfl) (fun _ _ _ h => h) (Or.inl ⟨by rfl, ?qhy5⟩) hHeld ?qr5
  case qhy5 => (intro w hSw; (try dsimp only at hSw); go_simp; (try with_reducible rfl))
  (try simp only [Act.put, List.setIfInBounds_toArray, List.set_cons_zero, List.set_cons_succ])
  refine wpAnyH_take (i := 6) (oi := ⟨some 79, _, _, _, _, _⟩) (v := ?qv6) rfl (by kernel_rfl) (by kernel_rfl) (by kernel_rfl) (fun _ _ _ h => h) (Or.inl ⟨by rfl, ?qhy6⟩) hHeld ?qr6
  case qhy6 => (intro w hSw; (try dsimp only at hSw); go_simp; (try with_reducible rfl))
  (try simp only [Act.put, List.setIfInBounds_toArray, List.set_cons_zero, List.set_cons_succ])
  refine wpAnyH_take (i := 7) (oi := ⟨some 80, _, _, _, _, _⟩) (v := ?qv7) rfl (by kernel_rfl) (by kernel_rfl) (by kernel_rfl) (fun _ _ _ h => h) (Or.inl ⟨by rfl, ?qhy7⟩) hHeld ?qr7
  case qhy7 => (intro w hSw; (try dsimp only at hSw); go_simp; (try with_reducible rfl))
  (try simp only [Act.put, List.setIfInBounds_toArray, List.set_cons_zero, List.set_cons_succ])
  refine wpAnyH_take (i := 8) (oi := ⟨some 81, _, _, _, _, _⟩) (v := ?qv8) rfl (by kernel_rfl) (by kernel_rfl) (by kernel_rfl) (fun _ _ _ h => h) (Or.inl ⟨by rfl, ?qhy8⟩) hHeld ?qr8
  case qhy8 => (intro w hSw; (try dsimp only at hSw); go_simp; (try with_reducible rfl))
  (try simp only [Act.put, List.setIfInBounds_toArray, List.set_cons_zero, List.set_cons_succ])
  refine wpAnyH_take (i := 10) (oi := ⟨some 83, _, _, _, _, _⟩) (v := ?qv10) rfl (by kernel_rfl) (by kernel_rfl) (by kernel_rfl) (fun _ _ _ h => h) (Or.inl ⟨by rfl, ?qhy10⟩) hHeld ?qr10
  case qhy10 => (intro w hSw; (try dsimp only at hSw); go_simp; (try with_reducible rfl))
  (try simp only [Act.put, List.setIfInBounds_toArray, List.set_cons_zero, List.set_cons_succ])
  refine wpAnyH_take (i := 11) (oi := ⟨some 84, _, _, _, _, _⟩) (v := (.int .i64 v.width)) rfl (by kernel_rfl) (by kernel_rfl) (by kernel_rfl) (fun _ _ _ h => h) (kn_yields1 (by rfl) 3 _ rfl g2 0 rfl v.cells 35 (fun _ h => h.2) _ v.get0 _ Try.underlying3 rfl) hHeld ?qr11
  (try simp only [Act.put, List.setIfInBounds_toArray, List.set_cons_zero, List.set_cons_succ])
  refine wpAnyH_take (i := 14) (oi := ⟨some 87, _, _, _, _, _⟩) (v := ?qv14) rfl (by kernel_rfl) (by kernel_rfl) (by kernel_rfl) (fun _ _ _ h => h) (Or.inl ⟨by rfl, ?qhy14⟩) hHeld ?qr14
  case qhy14 => (intro w hSw; (try dsimp only at hSw); go_simp; (try with_reducible rfl))
  (try simp only [Act.put, List.setIfInBounds_toArray, List.set_cons_zero, List.set_cons_succ])
  refine wpAnyH_ready (rs := [9]) (by kernel_rfl) (by simp) ?qc9
  refine AllReadyH.cons (o := ⟨some 82, _, _, _, _, _⟩) rfl (fun K hK => ?qst9) AllReadyH.nil
  go_simp
  (refine (compute_any v.width x _ _ _ _ _ HV.out.wide (by omega) (by omega) (by omega) (by omega) (by omega) (by omega) (by omega) (by omega) im0 (by omega) HZ.out).mono ?_; rintro e wx ⟨r, rfl, r0, r1, hr, hb1⟩; replace KN := KN.below hb1; clear hb1; have hmk := any_mask r v.width HV.out.wide r0 r1; have HR := Lib.hid hr; clear hr)
  refine hK.out _ _ ?qk9 (fun hHeld2 => ?qm9)
  case qk9 => exact ⟨KN.at_ (by repeat (first | exact Has.here | refine Has.there ?_)), KN.at_ (by repeat (first | exact Has.here | refine Has.there ?_))⟩
  clear hK K hHeld
  have hHeld := hHeld2; clear hHeld2
  (try simp only [Act.put, List.setIfInBounds_toArray, List.set_cons_zero, List.set_cons_succ])
  refine wpAnyH_ready (rs := [12]) (by kernel_rfl) (by simp) ?qc12
  refine AllReadyH.cons (o := ⟨some 85, _, _, _, _, _⟩) rfl (fun K hK => ?qst12) AllReadyH.nil
  go_simp
  (refine (mask_any _ _ HV.out.wide).mono ?_; rintro e w' ⟨rfl, rfl⟩)
  refine hK.out _ _ ?qk12 (fun hHeld2 => ?qm12)
  case qk12 => exact ⟨KN.at_ (by repeat (first | exact Has.here | refine Has.there ?_)), KN.at_ (by repeat (first | exact Has.here | refine Has.there ?_))⟩
  clear hK K hHeld
  have hHeld := hHeld2; clear hHeld2
  (try simp only [Act.put, List.setIfInBounds_toArray, List.set_cons_zero, List.set_cons_succ])
  refine wpAnyH_take (i := 13) (oi := ⟨some 86, _, _, _, _, _⟩) (v := ?qv13) rfl (by kernel_rfl) (by kernel_rfl) (by kernel_rfl) (fun _ _ _ h => h) (Or.inl ⟨by rfl, ?qhy13⟩) hHeld ?qr13
  case qhy13 => (intro w hSw; (try dsimp only at hSw); go_simp; (try with_reducible rfl))
  (try simp only [Act.put, List.setIfInBounds_toArray, List.set_cons_zero, List.set_cons_succ])
  refine wpAnyH_take (i := 15) (oi := ⟨some 88, _, _, _, _, _⟩) (v := ?qv15) rfl (by kernel_rfl) (by kernel_rfl) (by kernel_rfl) (fun _ _ _ h => h) (Or.inl ⟨by rfl, ?qhy15⟩) hHeld ?qr15
  case qhy15 => (intro w hSw; (try dsimp only at hSw); go_simp; (try with_reducible rfl))
  (try simp only [Act.put, List.setIfInBounds_toArray, List.set_cons_zero, List.set_cons_succ])
  refine wpAnyH_ready (rs := [16]) (by kernel_rfl) (by simp) ?qc16
  refine AllReadyH.cons (o := ⟨none, _, _, _, _, _⟩) rfl (fun K hK => ?qst16) AllReadyH.nil
  (rw [if_pos (by rfl)]; refine wp_kn_store1 KN 30 _ _ rfl _ _ rfl _ (by conv => lhs; whnf) (by rfl) _ _ (by repeat (first | exact Repl.here | apply Repl.there)) (by rw [Array.size_setIfInBounds, Vm.cells_size]; omega) (by kernel_rfl) (by rfl) ?_; clear KN; intro wx KN; replace KN := KN.as_ g11 _ (by repeat (first | exact Repl.here | apply Repl.there)) (cells_reg2 v x.a.toNat _ _ HLEN.out (by omega)))
  refine hK.out _ _ ?qk16 (fun hHeld2 => ?qm16)
  case qk16 => exact ⟨KN.at_ (by repeat (first | exact Has.here | refine Has.there ?_)), KN.at_ (by repeat (first | exact Has.here | refine Has.there ?_))⟩
  clear hK K hHeld
  have hHeld := hHeld2; clear hHeld2
  (try simp only [Act.put, List.setIfInBounds_toArray, List.set_cons_zero, List.set_cons_succ])
  refine wpAnyH_done (by kernel_rfl) ?qdone _
  clear hHeld hmk
  go_wp2_with (first | ((with_reducible refine wpList_gate ?_); first | ((refine gate_load (by rfl) ?_); first | (refine wpList_kn_load1 KN (by rfl) 3 _ rfl _ _ rfl _ _ (by repeat (first | exact Has.here | refine Has.there ?_)) _ (by (repeat (first | ((with_reducible refine get_hit ?_); exact Nat.le_of_ble_eq_true (by kernel_rfl)) | ((with_reducible refine (get_miss ?_).trans ?_); (focus kernel_rfl)) | ((with_reducible refine (get_pmiss ?_).trans ?_); (focus kernel_rfl)))); all_goals (conv => lhs; whnf; arg 1; whnf)) _ Try.underlying3 rfl ?_) | (refine wpList_kn_loadW KN (by rfl) 35 _ rfl _ rfl _ _ (by repeat (first | exact Has.here | refine Has.there ?_)) _ Try.underlying35 rfl (by kernel_rfl) ?_) | (refine wpList_kn_loadW KN (by rfl) 29 _ rfl _ rfl _ _ (by repeat (first | exact Has.here | refine Has.there ?_)) _ Try.underlying29 rfl (by kernel_rfl) ?_) | (refine wpList_kn_load1 KN (by rfl) 30 _ rfl _ _ rfl _ _ (by repeat (first | exact Has.here | refine Has.there ?_)) _ (by (repeat (first | ((with_reducible refine get_hit ?_); exact Nat.le_of_ble_eq_true (by kernel_rfl)) | ((with_reducible refine (get_miss ?_).trans ?_); (focus kernel_rfl)) | ((with_reducible refine (get_pmiss ?_).trans ?_); (focus kernel_rfl)))); all_goals (conv => lhs; whnf; arg 1; whnf)) _ Try.underlying30 rfl ?_) | (refine wpList_kn_load1 KN (by rfl) 21 _ rfl _ _ rfl _ _ (by repeat (first | exact Has.here | refine Has.there ?_)) _ (by (repeat (first | ((with_reducible refine get_hit ?_); exact Nat.le_of_ble_eq_true (by kernel_rfl)) | ((with_reducible refine (get_miss ?_).trans ?_); (focus kernel_rfl)) | ((with_reducible refine (get_pmiss ?_).trans ?_); (focus kernel_rfl)))); all_goals (conv => lhs; whnf; arg 1; whnf)) _ Try.underlying21 rfl ?_) | (refine wpList_kn_loadW KN (by rfl) 33 _ rfl _ rfl _ _ (by repeat (first | exact Has.here | refine Has.there ?_)) _ Try.underlying33 rfl (by kernel_rfl) ?_)) | ((refine gate_store (by rfl) ?_); first | (refine wpList_kn_storeW KN (by rfl) 35 _ _ rfl _ rfl _ rfl _ _ (by repeat (first | exact Repl.here | apply Repl.there)) (by kernel_rfl) (by kernel_rfl) (by kernel_rfl) ?_; clear KN; intro wx KN) | (refine wpList_kn_storeA KN (by rfl) 35 _ _ rfl _ _ rfl _ rfl _ _ (by repeat (first | exact Repl.here | apply Repl.there)) (by (try simp only [Array.size_setIfInBounds, putL_size]); first | exact Nat.le_of_ble_eq_true rfl | (simp; omega)) (by kernel_rfl) (by kernel_rfl) ?_; clear KN; intro wx KN) | (refine wpList_kn_storeW KN (by rfl) 33 _ _ rfl _ rfl _ rfl _ _ (by repeat (first | exact Repl.here | apply Repl.there)) (by kernel_rfl) (by kernel_rfl) (by kernel_rfl) ?_; clear KN; intro wx KN) | (refine wpList_kn_storeA KN (by rfl) 33 _ _ rfl _ _ rfl _ rfl _ _ (by repeat (first | exact Repl.here | apply Repl.there)) (by (try simp only [Array.size_setIfInBounds, putL_size]); first | exact Nat.le_of_ble_eq_true rfl | (simp; omega)) (by kernel_rfl) (by kernel_rfl) ?_; clear KN; intro wx KN) | (refine wpList_kn_storeW KN (by rfl) 29 _ _ rfl _ rfl _ rfl _ _ (by repeat (first | exact Repl.here | apply Repl.there)) (by kernel_rfl) (by kernel_rfl) (by kernel_rfl) ?_; clear KN; intro wx KN) | (refine wpList_kn_storeA KN (by rfl) 29 _ _ rfl _ _ rfl _ rfl _ _ (by repeat (first | exact Repl.here | apply Repl.there)) (by (try simp only [Array.size_setIfInBounds, putL_size]); first | exact Nat.le_of_ble_eq_true rfl | (simp; omega)) (by kernel_rfl) (by kernel_rfl) ?_; clear KN; intro wx KN) | (refine wpList_kn_store1 KN (by rfl) 3 _ _ rfl _ _ rfl _ (by conv => lhs; whnf) (by rfl) _ _ (by repeat (first | exact Repl.here | apply Repl.there)) (by (try simp only [Array.size_setIfInBounds, putL_size]); first | exact Nat.le_of_ble_eq_true rfl | (simp; omega)) (by kernel_rfl) (by rfl) ?_; clear KN; intro wx KN) | (refine wpList_kn_store1 KN (by rfl) 30 _ _ rfl _ _ rfl _ (by conv => lhs; whnf) (by rfl) _ _ (by repeat (first | exact Repl.here | apply Repl.there)) (by (try simp only [Array.size_setIfInBounds, putL_size]); first | exact Nat.le_of_ble_eq_true rfl | (simp; omega)) (by kernel_rfl) (by rfl) ?_; clear KN; intro wx KN)) | ((refine gate_new (by rfl) ?_); first | (refine wpList_kn_boxA KN (by rfl) 35 _ rfl 2 rfl _ rfl ?_; clear KN; intro g2 wx hg2 KN) | (refine wpList_kn_alloc KN (by rfl) 35 rfl 4 rfl Vm.zero.cells (by kernel_rfl) ?_; clear KN; intro g4 wx hg4 KN) | (refine wpList_kn_alloc KN (by rfl) 33 rfl 5 rfl Eff.none.cells (by kernel_rfl) ?_; clear KN; intro g5 wx hg5 KN) | (refine wpList_kn_alloc KN (by rfl) 29 rfl 6 rfl (Ins.mk 0 0 0 0 0).cells (by kernel_rfl) ?_; clear KN; intro g6 wx hg6 KN) | (refine wpList_kn_alloc KN (by rfl) 35 rfl 11 rfl Vm.zero.cells (by kernel_rfl) ?_; clear KN; intro g11 wx hg11 KN) | (refine wpList_built rfl 33 #[] rfl Eff.none.cells (by kernel_rfl) ?_))))
  replace KN := KN.as_ g4 ({ v.setR x.a.toNat (compute v.width x.op (v.r x.a.toNat) (v.r x.b.toNat) (v.r x.c.toNat) (x.imm % pw2 v.width) % pw2 v.width) with pc := v.pc + 1 }).cells (by repeat (first | exact Repl.here | apply Repl.there)) (by rw [HR.out, HIM.out])
  exact bodyPost_ret (results_cc Try.results35 _ _ _ _ ({ v.setR x.a.toNat (compute v.width x.op (v.r x.a.toNat) (v.r x.b.toNat) (v.r x.c.toNat) (x.imm % pw2 v.width) % pw2 v.width) with pc := v.pc + 1 }).cells (Eff.none).cells rfl (load_vm (KN.at_ (by repeat (first | exact Has.here | refine Has.there ?_)))) rfl (load_eff (KN.at_ (by repeat (first | exact Has.here | refine Has.there ?_))))) rfl ⟨by rw [RES.out]; rfl, KN.toBelow⟩
end Go.Proofs.Ytbllialcfmpkaaa
