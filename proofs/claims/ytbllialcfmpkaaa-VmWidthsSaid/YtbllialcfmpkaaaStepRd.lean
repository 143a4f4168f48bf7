/- The reference's step, some of its cases. (Printed by gen_stepr.py.) -/
import Derived.Test.YtbllialcfmpkaaaStepR0
import Derived.StillTailTactics
set_option linter.unusedVariables false
set_option linter.unusedSimpArgs false
set_option linter.unusedSectionVars false
namespace Go.Proofs.Ytbllialcfmpkaaa
open Go.RowKit
set_option maxRecDepth 100000 in
set_option maxHeartbeats 2000000 in
theorem stepR_st0 (v : Vm) (p : List Ins) (x : Ins) (g off c : Nat) (w : World) (hv : v.fits) (hp : Good p) (hps : PS w g off p) (hx : p[v.pc.toNat]? = some x) (hop : x.op = 24) (hz : (v.r x.b.toNat + x.imm) % pw2 v.width % 8 = 0) :
    Calls Try.prog 35 #[.agg v.cells, .slice (some ⟨g, off, none⟩) p.length c] w fun e w' => e = .returned (stepVal2 (stepI v x p.length)) ∧ Below w.heap.size w w' := by
  have KN := Kn.start w
  have hxm := List.mem_of_getElem? hx
  obtain ⟨o0, o1, htg, ⟨xa0, xa1⟩, ⟨xb0, xb1⟩, ⟨xc0, xc1⟩⟩ := insErr_target (hp.ok x hxm)
  obtain ⟨pc0, pc1⟩ := hv.pc
  obtain ⟨pl0, pl1⟩ := hp.len
  have hlt : v.pc < p.length := by have := (List.getElem?_eq_some_iff.1 hx).1; omega
  have RNG := Lib.hid (hps.range hx)
  have hgl := hps.1
  have IM := Lib.hid (imm_mask x.imm v.width hv.wide)
  have im0 := Int.emod_nonneg x.imm (show pw2 v.width ≠ 0 by have := pw2_pos v.width; omega)
  have im1 := Int.emod_lt_of_pos x.imm (pw2_pos v.width).1
  have im2 := (pw2_pos v.width).2
  have ra := hv.reg x.a.toNat
  have rb := hv.reg x.b.toNat
  have rc := hv.reg x.c.toNat
  obtain ⟨ra0, ra1⟩ := ra
  obtain ⟨rb0, rb1⟩ := rb
  obtain ⟨rc0, rc1⟩ := rc
  obtain ⟨ii0, ii1⟩ := hp.imm x hxm
  have EQA := Lib.hid (Vm.cells_reg v x.a.toNat (by omega))
  have EQB := Lib.hid (Vm.cells_reg v x.b.toNat (by omega))
  have EQC := Lib.hid (Vm.cells_reg v x.c.toNat (by omega))
  have HLEN := Lib.hid hv.len
  have t0 : (x.op == 0) = false := by rw [beq_eq_false_iff_ne]; omega
  have t18 : (x.op == 18) = false := by rw [beq_eq_false_iff_ne]; omega
  have t19 : (x.op == 19) = false := by rw [beq_eq_false_iff_ne]; omega
  have t20 : (x.op == 20) = false := by rw [beq_eq_false_iff_ne]; omega
  have t21 : (x.op == 21) = false := by rw [beq_eq_false_iff_ne]; omega
  have t22 : (x.op == 22) = false := by rw [beq_eq_false_iff_ne]; omega
  have t23 : (x.op == 23) = false := by rw [beq_eq_false_iff_ne]; omega
  have t24 : (x.op == 24) = true := by rw [beq_iff_eq]; exact hop
  have AD := Lib.hid (addr_mask (v.r x.b.toNat) x.imm v.width hv.wide rb0 (by omega))
  obtain ⟨ad, hadr⟩ : ∃ ad, ad = (v.r x.b.toNat + x.imm) % pw2 v.width := ⟨_, rfl⟩
  have ad0 : 0 ≤ ad := by rw [hadr]; exact Int.emod_nonneg _ (by have := pw2_pos v.width; omega)
  have ad1 : ad < 549755813888 := by rw [hadr]; exact Int.lt_of_lt_of_le (Int.emod_lt_of_pos _ (pw2_pos v.width).1) (pw2_pos v.width).2
  have tt : (x.op == 24) = true := by rw [beq_iff_eq]; exact hop
  have z1 : (ad % 8 != 0) = false := by rw [bne_eq_false_iff_eq, hadr]; exact hz
  have HAD := Lib.hid hadr
  have RES : Hid (stepI v x p.length = ({ v with pc := v.pc + 1, state := 1, wait := (⟨2, 0, 0, ad, v.r x.a.toNat⟩ : Eff) }, (⟨2, 0, 0, ad, v.r x.a.toNat⟩ : Eff))) := Lib.hid (by
    unfold stepI
    rw [if_neg (show ¬ x.op = 0 by omega)]
    rw [if_neg (show ¬ x.op = 18 by omega)]
    rw [if_neg (show ¬ x.op = 19 by omega)]
    rw [if_neg (show ¬ x.op = 20 by omega)]
    rw [if_neg (show ¬ x.op = 21 by omega)]
    rw [if_neg (show ¬ x.op = 22 by omega)]
    rw [if_neg (show ¬ x.op = 23 by omega)]
    rw [if_pos hop, if_neg (by rw [hz]; decide), ← hadr])
  clear hop hadr
  have HV := Lib.hid hv
  clear hx hp hps hv htg hxm
  go_enter Try.func35, Try.ntmps35
  go_wp2_with (first | ((with_reducible refine wpList_gate ?_); first | ((refine gate_load (by rfl) ?_); first | (refine wpList_kn_oldN KN (by rfl) 29 _ rfl g _ rfl x.cells RNG.out hgl (by simp) _ Try.underlying29 rfl (by kernel_rfl) ?_) | (refine wpList_kn_load1 KN (by rfl) 3 _ rfl _ _ rfl _ _ (by repeat (first | exact Has.here | refine Has.there ?_)) _ (by (repeat (first | ((with_reducible refine get_hit ?_); exact Nat.le_of_ble_eq_true (by kernel_rfl)) | ((with_reducible refine (get_miss ?_).trans ?_); (focus kernel_rfl)) | ((with_reducible refine (get_pmiss ?_).trans ?_); (focus kernel_rfl)))); all_goals (conv => lhs; whnf; arg 1; whnf)) _ Try.underlying3 rfl ?_) | (refine wpList_kn_loadW KN (by rfl) 35 _ rfl _ rfl _ _ (by repeat (first | exact Has.here | refine Has.there ?_)) _ Try.underlying35 rfl (by kernel_rfl) ?_) | (refine wpList_kn_loadW KN (by rfl) 29 _ rfl _ rfl _ _ (by repeat (first | exact Has.here | refine Has.there ?_)) _ Try.underlying29 rfl (by kernel_rfl) ?_) | (refine wpList_kn_load1 KN (by rfl) 30 _ rfl _ _ rfl _ _ (by repeat (first | exact Has.here | refine Has.there ?_)) _ (by (repeat (first | ((with_reducible refine get_hit ?_); exact Nat.le_of_ble_eq_true (by kernel_rfl)) | ((with_reducible refine (get_miss ?_).trans ?_); (focus kernel_rfl)) | ((with_reducible refine (get_pmiss ?_).trans ?_); (focus kernel_rfl)))); all_goals (conv => lhs; whnf; arg 1; whnf)) _ Try.underlying30 rfl ?_) | (refine wpList_kn_load1 KN (by rfl) 21 _ rfl _ _ rfl _ _ (by repeat (first | exact Has.here | refine Has.there ?_)) _ (by (repeat (first | ((with_reducible refine get_hit ?_); exact Nat.le_of_ble_eq_true (by kernel_rfl)) | ((with_reducible refine (get_miss ?_).trans ?_); (focus kernel_rfl)) | ((with_reducible refine (get_pmiss ?_).trans ?_); (focus kernel_rfl)))); all_goals (conv => lhs; whnf; arg 1; whnf)) _ Try.underlying21 rfl ?_) | (refine wpList_kn_loadW KN (by rfl) 33 _ rfl _ rfl _ _ (by repeat (first | exact Has.here | refine Has.there ?_)) _ Try.underlying33 rfl (by kernel_rfl) ?_)) | ((refine gate_store (by rfl) ?_); first | (refine wpList_kn_storeW KN (by rfl) 35 _ _ rfl _ rfl _ rfl _ _ (by repeat (first | exact Repl.here | apply Repl.there)) (by kernel_rfl) (by kernel_rfl) (by kernel_rfl) ?_; clear KN; intro wx KN) | (refine wpList_kn_storeA KN (by rfl) 35 _ _ rfl _ _ rfl _ rfl _ _ (by repeat (first | exact Repl.here | apply Repl.there)) (by (try simp only [Array.size_setIfInBounds, putL_size]); first | exact Nat.le_of_ble_eq_true rfl | (simp; omega)) (by kernel_rfl) (by kernel_rfl) ?_; clear KN; intro wx KN) | (refine wpList_kn_storeW KN (by rfl) 33 _ _ rfl _ rfl _ rfl _ _ (by repeat (first | exact Repl.here | apply Repl.there)) (by kernel_rfl) (by kernel_rfl) (by kernel_rfl) ?_; clear KN; intro wx KN) | (refine wpList_kn_storeA KN (by rfl) 33 _ _ rfl _ _ rfl _ rfl _ _ (by repeat (first | exact Repl.here | apply Repl.there)) (by (try simp only [Array.size_setIfInBounds, putL_size]); first | exact Nat.le_of_ble_eq_true rfl | (simp; omega)) (by kernel_rfl) (by kernel_rfl) ?_; clear KN; intro wx KN) | (refine wpList_kn_storeW KN (by rfl) 29 _ _ rfl _ rfl _ rfl _ _ (by repeat (first | exact Repl.here | apply Repl.there)) (by kernel_rfl) (by kernel_rfl) (by kernel_rfl) ?_; clear KN; intro wx KN) | (refine wpList_kn_storeA KN (by rfl) 29 _ _ rfl _ _ rfl _ rfl _ _ (by repeat (first | exact Repl.here | apply Repl.there)) (by (try simp only [Array.size_setIfInBounds, putL_size]); first | exact Nat.le_of_ble_eq_true rfl | (simp; omega)) (by kernel_rfl) (by kernel_rfl) ?_; clear KN; intro wx KN) | (refine wpList_kn_store1 KN (by rfl) 3 _ _ rfl _ _ rfl _ (by conv => lhs; whnf) (by rfl) _ _ (by repeat (first | exact Repl.here | apply Repl.there)) (by (try simp only [Array.size_setIfInBounds, putL_size]); first | exact Nat.le_of_ble_eq_true rfl | (simp; omega)) (by kernel_rfl) (by rfl) ?_; clear KN; intro wx KN) | (refine wpList_kn_store1 KN (by rfl) 30 _ _ rfl _ _ rfl _ (by conv => lhs; whnf) (by rfl) _ _ (by repeat (first | exact Repl.here | apply Repl.there)) (by (try simp only [Array.size_setIfInBounds, putL_size]); first | exact Nat.le_of_ble_eq_true rfl | (simp; omega)) (by kernel_rfl) (by rfl) ?_; clear KN; intro wx KN)) | ((refine gate_new (by rfl) ?_); first | (refine wpList_kn_boxA KN (by rfl) 35 _ rfl 2 rfl _ rfl ?_; clear KN; intro g2 wx hg2 KN) | (refine wpList_kn_alloc KN (by rfl) 35 rfl 4 rfl Vm.zero.cells (by kernel_rfl) ?_; clear KN; intro g4 wx hg4 KN) | (refine wpList_kn_alloc KN (by rfl) 33 rfl 5 rfl Eff.none.cells (by kernel_rfl) ?_; clear KN; intro g5 wx hg5 KN) | (refine wpList_kn_alloc KN (by rfl) 29 rfl 6 rfl (Ins.mk 0 0 0 0 0).cells (by kernel_rfl) ?_; clear KN; intro g6 wx hg6 KN) | (refine wpList_kn_alloc KN (by rfl) 35 rfl 11 rfl Vm.zero.cells (by kernel_rfl) ?_; clear KN; intro g11 wx hg11 KN) | (refine wpList_built rfl 33 #[] rfl Eff.none.cells (by kernel_rfl) ?_))))
  have c1 := KN.cell (g := g6) (by repeat (first | exact Has.here | refine Has.there ?_)) (x.get1)
  have c2 := KN.cell (g := g6) (by repeat (first | exact Has.here | refine Has.there ?_)) (x.get2)
  have c3 := KN.cell (g := g6) (by repeat (first | exact Has.here | refine Has.there ?_)) (x.get3)
  have c4 := KN.cell (g := g2) (by repeat (first | exact Has.here | refine Has.there ?_)) EQA.out
  have c5 := KN.cell (g := g2) (by repeat (first | exact Has.here | refine Has.there ?_)) EQB.out
  have c6 := KN.cell (g := g2) (by repeat (first | exact Has.here | refine Has.there ?_)) EQC.out
  go_quiet (fail)
  clear c1 c2 c3 c4 c5 c6
  replace KN := KN.drewN nq
  generalize hwq : World.drewN _ nq = w1 at KN ⊢
  clear hwq
  have c1 := KN.cell (g := g6) (by repeat (first | exact Has.here | refine Has.there ?_)) (x.get4)
  have c2 := KN.cell (g := g2) (by repeat (first | exact Has.here | refine Has.there ?_)) (v.get0)
  go_wp2_with fail
  have hm := IM.out
  go_quiet ((go_at_call 40; exact Calls.quiet_of_same ((mask_any _ _ HV.out.wide).mono fun _ _ h => ⟨h.1, h.2.symm⟩)))
  clear c1 c2 hm
  replace KN := KN.drewN nq
  generalize hwq : World.drewN _ nq = w2 at KN ⊢
  clear hwq
  obtain ⟨im, him⟩ : ∃ im, im = x.imm % pw2 v.width := ⟨_, rfl⟩
  rw [← him] at im0 im1 ⊢
  have HIM := Lib.hid him
  clear him
  have hmk : bits BinOp.and IntKind.u64 (v.r x.b.toNat + im) (pw2 v.width - 1) = ad := by rw [HIM.out, AD.out, HAD.out]
  go_wp2_with (first | (go_at_call 40; refine (mask_any _ _ HV.out.wide).mono ?_; rintro e w' ⟨rfl, rfl⟩) | ((with_reducible refine wpList_gate ?_); first | ((refine gate_load (by rfl) ?_); first | (refine wpList_kn_load1 KN (by rfl) 3 _ rfl _ _ rfl _ _ (by repeat (first | exact Has.here | refine Has.there ?_)) _ (by (repeat (first | ((with_reducible refine get_hit ?_); exact Nat.le_of_ble_eq_true (by kernel_rfl)) | ((with_reducible refine (get_miss ?_).trans ?_); (focus kernel_rfl)) | ((with_reducible refine (get_pmiss ?_).trans ?_); (focus kernel_rfl)))); all_goals (conv => lhs; whnf; arg 1; whnf)) _ Try.underlying3 rfl ?_) | (refine wpList_kn_loadW KN (by rfl) 35 _ rfl _ rfl _ _ (by repeat (first | exact Has.here | refine Has.there ?_)) _ Try.underlying35 rfl (by kernel_rfl) ?_) | (refine wpList_kn_loadW KN (by rfl) 29 _ rfl _ rfl _ _ (by repeat (first | exact Has.here | refine Has.there ?_)) _ Try.underlying29 rfl (by kernel_rfl) ?_) | (refine wpList_kn_load1 KN (by rfl) 30 _ rfl _ _ rfl _ _ (by repeat (first | exact Has.here | refine Has.there ?_)) _ (by (repeat (first | ((with_reducible refine get_hit ?_); exact Nat.le_of_ble_eq_true (by kernel_rfl)) | ((with_reducible refine (get_miss ?_).trans ?_); (focus kernel_rfl)) | ((with_reducible refine (get_pmiss ?_).trans ?_); (focus kernel_rfl)))); all_goals (conv => lhs; whnf; arg 1; whnf)) _ Try.underlying30 rfl ?_) | (refine wpList_kn_load1 KN (by rfl) 21 _ rfl _ _ rfl _ _ (by repeat (first | exact Has.here | refine Has.there ?_)) _ (by (repeat (first | ((with_reducible refine get_hit ?_); exact Nat.le_of_ble_eq_true (by kernel_rfl)) | ((with_reducible refine (get_miss ?_).trans ?_); (focus kernel_rfl)) | ((with_reducible refine (get_pmiss ?_).trans ?_); (focus kernel_rfl)))); all_goals (conv => lhs; whnf; arg 1; whnf)) _ Try.underlying21 rfl ?_) | (refine wpList_kn_loadW KN (by rfl) 33 _ rfl _ rfl _ _ (by repeat (first | exact Has.here | refine Has.there ?_)) _ Try.underlying33 rfl (by kernel_rfl) ?_)) | ((refine gate_store (by rfl) ?_); first | (refine wpList_kn_storeW KN (by rfl) 35 _ _ rfl _ rfl _ rfl _ _ (by repeat (first | exact Repl.here | apply Repl.there)) (by kernel_rfl) (by kernel_rfl) (by kernel_rfl) ?_; clear KN; intro wx KN) | (refine wpList_kn_storeA KN (by rfl) 35 _ _ rfl _ _ rfl _ rfl _ _ (by repeat (first | exact Repl.here | apply Repl.there)) (by (try simp only [Array.size_setIfInBounds, putL_size]); first | exact Nat.le_of_ble_eq_true rfl | (simp; omega)) (by kernel_rfl) (by kernel_rfl) ?_; clear KN; intro wx KN) | (refine wpList_kn_storeW KN (by rfl) 33 _ _ rfl _ rfl _ rfl _ _ (by repeat (first | exact Repl.here | apply Repl.there)) (by kernel_rfl) (by kernel_rfl) (by kernel_rfl) ?_; clear KN; intro wx KN) | (refine wpList_kn_storeA KN (by rfl) 33 _ _ rfl _ _ rfl _ rfl _ _ (by repeat (first | exact Repl.here | apply Repl.there)) (by (try simp only [Array.size_setIfInBounds, putL_size]); first | exact Nat.le_of_ble_eq_true rfl | (simp; omega)) (by kernel_rfl) (by kernel_rfl) ?_; clear KN; intro wx KN) | (refine wpList_kn_storeW KN (by rfl) 29 _ _ rfl _ rfl _ rfl _ _ (by repeat (first | exact Repl.here | apply Repl.there)) (by kernel_rfl) (by kernel_rfl) (by kernel_rfl) ?_; clear KN; intro wx KN) | (refine wpList_kn_storeA KN (by rfl) 29 _ _ rfl _ _ rfl _ rfl _ _ (by repeat (first | exact Repl.here | apply Repl.there)) (by (try simp only [Array.size_setIfInBounds, putL_size]); first | exact Nat.le_of_ble_eq_true rfl | (simp; omega)) (by kernel_rfl) (by kernel_rfl) ?_; clear KN; intro wx KN) | (refine wpList_kn_store1 KN (by rfl) 3 _ _ rfl _ _ rfl _ (by conv => lhs; whnf) (by rfl) _ _ (by repeat (first | exact Repl.here | apply Repl.there)) (by (try simp only [Array.size_setIfInBounds, putL_size]); first | exact Nat.le_of_ble_eq_true rfl | (simp; omega)) (by kernel_rfl) (by rfl) ?_; clear KN; intro wx KN) | (refine wpList_kn_store1 KN (by rfl) 30 _ _ rfl _ _ rfl _ (by conv => lhs; whnf) (by rfl) _ _ (by repeat (first | exact Repl.here | apply Repl.there)) (by (try simp only [Array.size_setIfInBounds, putL_size]); first | exact Nat.le_of_ble_eq_true rfl | (simp; omega)) (by kernel_rfl) (by rfl) ?_; clear KN; intro wx KN)) | ((refine gate_new (by rfl) ?_); first | (refine wpList_built rfl 33 #[(0, .const (.int .i64 1)), (1, _), (3, _)] rfl (⟨1, x.a, 0, ad, 0⟩ : Eff).cells (by kernel_rfl) ?_) | (refine wpList_built rfl 33 #[(0, .const (.int .i64 2)), (3, _), (4, _)] rfl (⟨2, 0, 0, ad, v.r x.a.toNat⟩ : Eff).cells (by kernel_rfl) ?_) | (refine wpList_kn_boxA KN (by rfl) 35 _ rfl 2 rfl _ rfl ?_; clear KN; intro g2 wx hg2 KN) | (refine wpList_kn_alloc KN (by rfl) 35 rfl 4 rfl Vm.zero.cells (by kernel_rfl) ?_; clear KN; intro g4 wx hg4 KN) | (refine wpList_kn_alloc KN (by rfl) 33 rfl 5 rfl Eff.none.cells (by kernel_rfl) ?_; clear KN; intro g5 wx hg5 KN) | (refine wpList_kn_alloc KN (by rfl) 29 rfl 6 rfl (Ins.mk 0 0 0 0 0).cells (by kernel_rfl) ?_; clear KN; intro g6 wx hg6 KN) | (refine wpList_kn_alloc KN (by rfl) 35 rfl 11 rfl Vm.zero.cells (by kernel_rfl) ?_; clear KN; intro g11 wx hg11 KN) | (refine wpList_built rfl 33 #[] rfl Eff.none.cells (by kernel_rfl) ?_))))
  replace KN := KN.as_ g11 ({ v with pc := v.pc + 1, state := 1, wait := (⟨2, 0, 0, ad, v.r x.a.toNat⟩ : Eff) } : Vm).cells (by repeat (first | exact Repl.here | apply Repl.there)) (by kernel_rfl)
  replace KN := KN.drew
  refine wp_region_held_drew (S := (fun w' => BlkT w' g11 ({ v with pc := v.pc + 1, state := 1, wait := (⟨2, 0, 0, ad, v.r x.a.toNat⟩ : Eff) } : Vm).cells 35)) (by kernel_rfl) ?qhS (fun hHeld => ?qrest)
  case qhS => exact KN.at_ (by repeat (first | exact Has.here | refine Has.there ?_))
  refine wpAnyH_take (i := 0) (oi := ⟨some 174, _, _, _, _, _⟩) (v := (.agg ({ v with pc := v.pc + 1, state := 1, wait := (⟨2, 0, 0, ad, v.r x.a.toNat⟩ : Eff) } : Vm).cells)) rfl (by kernel_rfl) (by kernel_rfl) (by kernel_rfl) (fun _ _ _ h => h) (kn_yieldsN (by rfl) 35 _ rfl g11 0 rfl _ 35 (fun _ h => h) _ (extract_whole _) _ Try.underlying35 rfl vm_size) hHeld ?qr0
  (try simp only [Act.put, List.setIfInBounds_toArray, List.set_cons_zero, List.set_cons_succ])
  refine wpAnyH_take (i := 1) (oi := ⟨some 175, _, _, _, _, _⟩) (v := ?qv1) rfl (by kernel_rfl) (by kernel_rfl) (by kernel_rfl) (fun _ _ _ h => h) (Or.inl ⟨by rfl, ?qhy1⟩) hHeld ?qr1
  case qhy1 => (intro w hSw; (try dsimp only at hSw); go_simp; (try with_reducible rfl))
  (try simp only [Act.put, List.setIfInBounds_toArray, List.set_cons_zero, List.set_cons_succ])
  refine wpAnyH_take (i := 2) (oi := ⟨some 176, _, _, _, _, _⟩) (v := (.agg ((⟨2, 0, 0, ad, v.r x.a.toNat⟩ : Eff)).cells)) rfl (by kernel_rfl) (by kernel_rfl) (by kernel_rfl) (fun _ _ _ h => h) (kn_yieldsN (by rfl) 33 _ rfl g11 20 rfl _ 35 (fun _ h => h) _ (by kernel_rfl) _ Try.underlying33 rfl eff_size) hHeld ?qr2
  (try simp only [Act.put, List.setIfInBounds_toArray, List.set_cons_zero, List.set_cons_succ])
  refine wpAnyH_ready (rs := [3]) (by kernel_rfl) (by simp) ?qc3
  refine AllReadyH.cons (o := ⟨none, _, _, _, _, _⟩) rfl (fun K hK => ?qst3) AllReadyH.nil
  (rw [if_pos (by rfl)]; refine wp_kn_storeW KN 35 _ _ rfl _ rfl _ rfl _ _ (by repeat (first | exact Repl.here | apply Repl.there)) (by kernel_rfl) (by kernel_rfl) (by kernel_rfl) ?_; clear KN; intro wx KN)
  refine hK.out _ _ ?qk3 (fun hHeld2 => ?qm3)
  case qk3 => exact KN.at_ (by repeat (first | exact Has.here | refine Has.there ?_))
  clear hK K hHeld
  have hHeld := hHeld2; clear hHeld2
  (try simp only [Act.put, List.setIfInBounds_toArray, List.set_cons_zero, List.set_cons_succ])
  refine wpAnyH_ready (rs := [4]) (by kernel_rfl) (by simp) ?qc4
  refine AllReadyH.cons (o := ⟨none, _, _, _, _, _⟩) rfl (fun K hK => ?qst4) AllReadyH.nil
  (rw [if_pos (by rfl)]; refine wp_kn_storeW KN 33 _ _ rfl _ rfl _ rfl _ _ (by repeat (first | exact Repl.here | apply Repl.there)) (by kernel_rfl) (by kernel_rfl) (by kernel_rfl) ?_; clear KN; intro wx KN)
  refine hK.out _ _ ?qk4 (fun hHeld2 => ?qm4)
  case qk4 => exact KN.at_ (by repeat (first | exact Has.here | refine Has.there ?_))
  clear hK K hHeld
  have hHeld := hHeld2; clear hHeld2
  (try simp only [Act.put, List.setIfInBounds_toArray, List.set_cons_zero, List.set_cons_succ])
  refine wpAnyH_done (by kernel_rfl) ?qdone _
  clear hHeld
  go_wp2_with fail
  exact bodyPost_ret (results_cc Try.results35 _ _ _ _ ({ v with pc := v.pc + 1, state := 1, wait := (⟨2, 0, 0, ad, v.r x.a.toNat⟩ : Eff) }).cells ((⟨2, 0, 0, ad, v.r x.a.toNat⟩ : Eff)).cells rfl (load_vm (KN.at_ (by repeat (first | exact Has.here | refine Has.there ?_)))) rfl (load_eff (KN.at_ (by repeat (first | exact Has.here | refine Has.there ?_))))) rfl ⟨by rw [RES.out]; rfl, KN.toBelow⟩
set_option maxRecDepth 100000 in
set_option maxHeartbeats 2000000 in
theorem stepR_sys1 (v : Vm) (p : List Ins) (x : Ins) (g off c : Nat) (w : World) (hv : v.fits) (hp : Good p) (hps : PS w g off p) (hx : p[v.pc.toNat]? = some x) (hop : x.op = 25) (hz : x.imm < 0) :
    Calls Try.prog 35 #[.agg v.cells, .slice (some ⟨g, off, none⟩) p.length c] w fun e w' => e = .returned (stepVal2 (stepI v x p.length)) ∧ Below w.heap.size w w' := by
  have KN := Kn.start w
  have hxm := List.mem_of_getElem? hx
  obtain ⟨o0, o1, htg, ⟨xa0, xa1⟩, ⟨xb0, xb1⟩, ⟨xc0, xc1⟩⟩ := insErr_target (hp.ok x hxm)
  obtain ⟨pc0, pc1⟩ := hv.pc
  obtain ⟨pl0, pl1⟩ := hp.len
  have hlt : v.pc < p.length := by have := (List.getElem?_eq_some_iff.1 hx).1; omega
  have RNG := Lib.hid (hps.range hx)
  have hgl := hps.1
  have IM := Lib.hid (imm_mask x.imm v.width hv.wide)
  have im0 := Int.emod_nonneg x.imm (show pw2 v.width ≠ 0 by have := pw2_pos v.width; omega)
  have im1 := Int.emod_lt_of_pos x.imm (pw2_pos v.width).1
  have im2 := (pw2_pos v.width).2
  have ra := hv.reg x.a.toNat
  have rb := hv.reg x.b.toNat
  have rc := hv.reg x.c.toNat
  obtain ⟨ra0, ra1⟩ := ra
  obtain ⟨rb0, rb1⟩ := rb
  obtain ⟨rc0, rc1⟩ := rc
  obtain ⟨ii0, ii1⟩ := hp.imm x hxm
  have EQA := Lib.hid (Vm.cells_reg v x.a.toNat (by omega))
  have EQB := Lib.hid (Vm.cells_reg v x.b.toNat (by omega))
  have EQC := Lib.hid (Vm.cells_reg v x.c.toNat (by omega))
  have HLEN := Lib.hid hv.len
  have t0 : (x.op == 0) = false := by rw [beq_eq_false_iff_ne]; omega
  have t18 : (x.op == 18) = false := by rw [beq_eq_false_iff_ne]; omega
  have t19 : (x.op == 19) = false := by rw [beq_eq_false_iff_ne]; omega
  have t20 : (x.op == 20) = false := by rw [beq_eq_false_iff_ne]; omega
  have t21 : (x.op == 21) = false := by rw [beq_eq_false_iff_ne]; omega
  have t22 : (x.op == 22) = false := by rw [beq_eq_false_iff_ne]; omega
  have t23 : (x.op == 23) = false := by rw [beq_eq_false_iff_ne]; omega
  have t24 : (x.op == 24) = false := by rw [beq_eq_false_iff_ne]; omega
  have t25 : (x.op == 25) = true := by rw [beq_iff_eq]; exact hop
  have RES : Hid (stepI v x p.length = ((v.trap 4).1, (v.trap 4).2)) := Lib.hid (by
    unfold stepI
    rw [if_neg (show ¬ x.op = 0 by omega)]
    rw [if_neg (show ¬ x.op = 18 by omega)]
    rw [if_neg (show ¬ x.op = 19 by omega)]
    rw [if_neg (show ¬ x.op = 20 by omega)]
    rw [if_neg (show ¬ x.op = 21 by omega)]
    rw [if_neg (show ¬ x.op = 22 by omega)]
    rw [if_neg (show ¬ x.op = 23 by omega)]
    rw [if_neg (show ¬ x.op = 24 by omega)]
    rw [if_pos hop]
    rw [if_pos hz])
  clear hop
  have HV := Lib.hid hv
  clear hx hp hps hv htg hxm
  go_enter Try.func35, Try.ntmps35
  go_wp2_with (first | ((with_reducible refine wpList_gate ?_); first | ((refine gate_load (by rfl) ?_); first | (refine wpList_kn_oldN KN (by rfl) 29 _ rfl g _ rfl x.cells RNG.out hgl (by simp) _ Try.underlying29 rfl (by kernel_rfl) ?_) | (refine wpList_kn_load1 KN (by rfl) 3 _ rfl _ _ rfl _ _ (by repeat (first | exact Has.here | refine Has.there ?_)) _ (by (repeat (first | ((with_reducible refine get_hit ?_); exact Nat.le_of_ble_eq_true (by kernel_rfl)) | ((with_reducible refine (get_miss ?_).trans ?_); (focus kernel_rfl)) | ((with_reducible refine (get_pmiss ?_).trans ?_); (focus kernel_rfl)))); all_goals (conv => lhs; whnf; arg 1; whnf)) _ Try.underlying3 rfl ?_) | (refine wpList_kn_loadW KN (by rfl) 35 _ rfl _ rfl _ _ (by repeat (first | exact Has.here | refine Has.there ?_)) _ Try.underlying35 rfl (by kernel_rfl) ?_) | (refine wpList_kn_loadW KN (by rfl) 29 _ rfl _ rfl _ _ (by repeat (first | exact Has.here | refine Has.there ?_)) _ Try.underlying29 rfl (by kernel_rfl) ?_) | (refine wpList_kn_load1 KN (by rfl) 30 _ rfl _ _ rfl _ _ (by repeat (first | exact Has.here | refine Has.there ?_)) _ (by (repeat (first | ((with_reducible refine get_hit ?_); exact Nat.le_of_ble_eq_true (by kernel_rfl)) | ((with_reducible refine (get_miss ?_).trans ?_); (focus kernel_rfl)) | ((with_reducible refine (get_pmiss ?_).trans ?_); (focus kernel_rfl)))); all_goals (conv => lhs; whnf; arg 1; whnf)) _ Try.underlying30 rfl ?_) | (refine wpList_kn_load1 KN (by rfl) 21 _ rfl _ _ rfl _ _ (by repeat (first | exact Has.here | refine Has.there ?_)) _ (by (repeat (first | ((with_reducible refine get_hit ?_); exact Nat.le_of_ble_eq_true (by kernel_rfl)) | ((with_reducible refine (get_miss ?_).trans ?_); (focus kernel_rfl)) | ((with_reducible refine (get_pmiss ?_).trans ?_); (focus kernel_rfl)))); all_goals (conv => lhs; whnf; arg 1; whnf)) _ Try.underlying21 rfl ?_) | (refine wpList_kn_loadW KN (by rfl) 33 _ rfl _ rfl _ _ (by repeat (first | exact Has.here | refine Has.there ?_)) _ Try.underlying33 rfl (by kernel_rfl) ?_)) | ((refine gate_store (by rfl) ?_); first | (refine wpList_kn_storeW KN (by rfl) 35 _ _ rfl _ rfl _ rfl _ _ (by repeat (first | exact Repl.here | apply Repl.there)) (by kernel_rfl) (by kernel_rfl) (by kernel_rfl) ?_; clear KN; intro wx KN) | (refine wpList_kn_storeA KN (by rfl) 35 _ _ rfl _ _ rfl _ rfl _ _ (by repeat (first | exact Repl.here | apply Repl.there)) (by (try simp only [Array.size_setIfInBounds, putL_size]); first | exact Nat.le_of_ble_eq_true rfl | (simp; omega)) (by kernel_rfl) (by kernel_rfl) ?_; clear KN; intro wx KN) | (refine wpList_kn_storeW KN (by rfl) 33 _ _ rfl _ rfl _ rfl _ _ (by repeat (first | exact Repl.here | apply Repl.there)) (by kernel_rfl) (by kernel_rfl) (by kernel_rfl) ?_; clear KN; intro wx KN) | (refine wpList_kn_storeA KN (by rfl) 33 _ _ rfl _ _ rfl _ rfl _ _ (by repeat (first | exact Repl.here | apply Repl.there)) (by (try simp only [Array.size_setIfInBounds, putL_size]); first | exact Nat.le_of_ble_eq_true rfl | (simp; omega)) (by kernel_rfl) (by kernel_rfl) ?_; clear KN; intro wx KN) | (refine wpList_kn_storeW KN (by rfl) 29 _ _ rfl _ rfl _ rfl _ _ (by repeat (first | exact Repl.here | apply Repl.there)) (by kernel_rfl) (by kernel_rfl) (by kernel_rfl) ?_; clear KN; intro wx KN) | (refine wpList_kn_storeA KN (by rfl) 29 _ _ rfl _ _ rfl _ rfl _ _ (by repeat (first | exact Repl.here | apply Repl.there)) (by (try simp only [Array.size_setIfInBounds, putL_size]); first | exact Nat.le_of_ble_eq_true rfl | (simp; omega)) (by kernel_rfl) (by kernel_rfl) ?_; clear KN; intro wx KN) | (refine wpList_kn_store1 KN (by rfl) 3 _ _ rfl _ _ rfl _ (by conv => lhs; whnf) (by rfl) _ _ (by repeat (first | exact Repl.here | apply Repl.there)) (by (try simp only [Array.size_setIfInBounds, putL_size]); first | exact Nat.le_of_ble_eq_true rfl | (simp; omega)) (by kernel_rfl) (by rfl) ?_; clear KN; intro wx KN) | (refine wpList_kn_store1 KN (by rfl) 30 _ _ rfl _ _ rfl _ (by conv => lhs; whnf) (by rfl) _ _ (by repeat (first | exact Repl.here | apply Repl.there)) (by (try simp only [Array.size_setIfInBounds, putL_size]); first | exact Nat.le_of_ble_eq_true rfl | (simp; omega)) (by kernel_rfl) (by rfl) ?_; clear KN; intro wx KN)) | ((refine gate_new (by rfl) ?_); first | (refine wpList_kn_boxA KN (by rfl) 35 _ rfl 2 rfl _ rfl ?_; clear KN; intro g2 wx hg2 KN) | (refine wpList_kn_alloc KN (by rfl) 35 rfl 4 rfl Vm.zero.cells (by kernel_rfl) ?_; clear KN; intro g4 wx hg4 KN) | (refine wpList_kn_alloc KN (by rfl) 33 rfl 5 rfl Eff.none.cells (by kernel_rfl) ?_; clear KN; intro g5 wx hg5 KN) | (refine wpList_kn_alloc KN (by rfl) 29 rfl 6 rfl (Ins.mk 0 0 0 0 0).cells (by kernel_rfl) ?_; clear KN; intro g6 wx hg6 KN) | (refine wpList_kn_alloc KN (by rfl) 35 rfl 11 rfl Vm.zero.cells (by kernel_rfl) ?_; clear KN; intro g11 wx hg11 KN) | (refine wpList_built rfl 33 #[] rfl Eff.none.cells (by kernel_rfl) ?_))))
  have c1 := KN.cell (g := g6) (by repeat (first | exact Has.here | refine Has.there ?_)) (x.get1)
  have c2 := KN.cell (g := g6) (by repeat (first | exact Has.here | refine Has.there ?_)) (x.get2)
  have c3 := KN.cell (g := g6) (by repeat (first | exact Has.here | refine Has.there ?_)) (x.get3)
  have c4 := KN.cell (g := g2) (by repeat (first | exact Has.here | refine Has.there ?_)) EQA.out
  have c5 := KN.cell (g := g2) (by repeat (first | exact Has.here | refine Has.there ?_)) EQB.out
  have c6 := KN.cell (g := g2) (by repeat (first | exact Has.here | refine Has.there ?_)) EQC.out
  go_quiet (fail)
  clear c1 c2 c3 c4 c5 c6
  replace KN := KN.drewN nq
  generalize hwq : World.drewN _ nq = w1 at KN ⊢
  clear hwq
  have c1 := KN.cell (g := g6) (by repeat (first | exact Has.here | refine Has.there ?_)) (x.get4)
  have c2 := KN.cell (g := g2) (by repeat (first | exact Has.here | refine Has.there ?_)) (v.get0)
  go_wp2_with fail
  have hm := IM.out
  go_quiet ((go_at_call 40; exact Calls.quiet_of_same ((mask_any _ _ HV.out.wide).mono fun _ _ h => ⟨h.1, h.2.symm⟩)))
  clear c1 c2 hm
  replace KN := KN.drewN nq
  generalize hwq : World.drewN _ nq = w2 at KN ⊢
  clear hwq
  obtain ⟨im, him⟩ : ∃ im, im = x.imm % pw2 v.width := ⟨_, rfl⟩
  rw [← him] at im0 im1 ⊢
  have HIM := Lib.hid him
  clear him
  go_wp2_with (first | (go_at_call 38; refine (trapv_any v 4 _).mono ?_; rintro e wx ⟨rfl, hb1⟩; replace KN := KN.below hb1; clear hb1) | ((with_reducible refine wpList_gate ?_); first | ((refine gate_load (by rfl) ?_); first | (refine wpList_kn_load1 KN (by rfl) 3 _ rfl _ _ rfl _ _ (by repeat (first | exact Has.here | refine Has.there ?_)) _ (by (repeat (first | ((with_reducible refine get_hit ?_); exact Nat.le_of_ble_eq_true (by kernel_rfl)) | ((with_reducible refine (get_miss ?_).trans ?_); (focus kernel_rfl)) | ((with_reducible refine (get_pmiss ?_).trans ?_); (focus kernel_rfl)))); all_goals (conv => lhs; whnf; arg 1; whnf)) _ Try.underlying3 rfl ?_) | (refine wpList_kn_loadW KN (by rfl) 35 _ rfl _ rfl _ _ (by repeat (first | exact Has.here | refine Has.there ?_)) _ Try.underlying35 rfl (by kernel_rfl) ?_) | (refine wpList_kn_loadW KN (by rfl) 29 _ rfl _ rfl _ _ (by repeat (first | exact Has.here | refine Has.there ?_)) _ Try.underlying29 rfl (by kernel_rfl) ?_) | (refine wpList_kn_load1 KN (by rfl) 30 _ rfl _ _ rfl _ _ (by repeat (first | exact Has.here | refine Has.there ?_)) _ (by (repeat (first | ((with_reducible refine get_hit ?_); exact Nat.le_of_ble_eq_true (by kernel_rfl)) | ((with_reducible refine (get_miss ?_).trans ?_); (focus kernel_rfl)) | ((with_reducible refine (get_pmiss ?_).trans ?_); (focus kernel_rfl)))); all_goals (conv => lhs; whnf; arg 1; whnf)) _ Try.underlying30 rfl ?_) | (refine wpList_kn_load1 KN (by rfl) 21 _ rfl _ _ rfl _ _ (by repeat (first | exact Has.here | refine Has.there ?_)) _ (by (repeat (first | ((with_reducible refine get_hit ?_); exact Nat.le_of_ble_eq_true (by kernel_rfl)) | ((with_reducible refine (get_miss ?_).trans ?_); (focus kernel_rfl)) | ((with_reducible refine (get_pmiss ?_).trans ?_); (focus kernel_rfl)))); all_goals (conv => lhs; whnf; arg 1; whnf)) _ Try.underlying21 rfl ?_) | (refine wpList_kn_loadW KN (by rfl) 33 _ rfl _ rfl _ _ (by repeat (first | exact Has.here | refine Has.there ?_)) _ Try.underlying33 rfl (by kernel_rfl) ?_)) | ((refine gate_store (by rfl) ?_); first | (refine wpList_kn_storeW KN (by rfl) 35 _ _ rfl _ rfl _ rfl _ _ (by repeat (first | exact Repl.here | apply Repl.there)) (by kernel_rfl) (by kernel_rfl) (by kernel_rfl) ?_; clear KN; intro wx KN) | (refine wpList_kn_storeA KN (by rfl) 35 _ _ rfl _ _ rfl _ rfl _ _ (by repeat (first | exact Repl.here | apply Repl.there)) (by (try simp only [Array.size_setIfInBounds, putL_size]); first | exact Nat.le_of_ble_eq_true rfl | (simp; omega)) (by kernel_rfl) (by kernel_rfl) ?_; clear KN; intro wx KN) | (refine wpList_kn_storeW KN (by rfl) 33 _ _ rfl _ rfl _ rfl _ _ (by repeat (first | exact Repl.here | apply Repl.there)) (by kernel_rfl) (by kernel_rfl) (by kernel_rfl) ?_; clear KN; intro wx KN) | (refine wpList_kn_storeA KN (by rfl) 33 _ _ rfl _ _ rfl _ rfl _ _ (by repeat (first | exact Repl.here | apply Repl.there)) (by (try simp only [Array.size_setIfInBounds, putL_size]); first | exact Nat.le_of_ble_eq_true rfl | (simp; omega)) (by kernel_rfl) (by kernel_rfl) ?_; clear KN; intro wx KN) | (refine wpList_kn_storeW KN (by rfl) 29 _ _ rfl _ rfl _ rfl _ _ (by repeat (first | exact Repl.here | apply Repl.there)) (by kernel_rfl) (by kernel_rfl) (by kernel_rfl) ?_; clear KN; intro wx KN) | (refine wpList_kn_storeA KN (by rfl) 29 _ _ rfl _ _ rfl _ rfl _ _ (by repeat (first | exact Repl.here | apply Repl.there)) (by (try simp only [Array.size_setIfInBounds, putL_size]); first | exact Nat.le_of_ble_eq_true rfl | (simp; omega)) (by kernel_rfl) (by kernel_rfl) ?_; clear KN; intro wx KN) | (refine wpList_kn_store1 KN (by rfl) 3 _ _ rfl _ _ rfl _ (by conv => lhs; whnf) (by rfl) _ _ (by repeat (first | exact Repl.here | apply Repl.there)) (by (try simp only [Array.size_setIfInBounds, putL_size]); first | exact Nat.le_of_ble_eq_true rfl | (simp; omega)) (by kernel_rfl) (by rfl) ?_; clear KN; intro wx KN) | (refine wpList_kn_store1 KN (by rfl) 30 _ _ rfl _ _ rfl _ (by conv => lhs; whnf) (by rfl) _ _ (by repeat (first | exact Repl.here | apply Repl.there)) (by (try simp only [Array.size_setIfInBounds, putL_size]); first | exact Nat.le_of_ble_eq_true rfl | (simp; omega)) (by kernel_rfl) (by rfl) ?_; clear KN; intro wx KN)) | ((refine gate_new (by rfl) ?_); first | (refine wpList_kn_boxA KN (by rfl) 35 _ rfl 2 rfl _ rfl ?_; clear KN; intro g2 wx hg2 KN) | (refine wpList_kn_alloc KN (by rfl) 35 rfl 4 rfl Vm.zero.cells (by kernel_rfl) ?_; clear KN; intro g4 wx hg4 KN) | (refine wpList_kn_alloc KN (by rfl) 33 rfl 5 rfl Eff.none.cells (by kernel_rfl) ?_; clear KN; intro g5 wx hg5 KN) | (refine wpList_kn_alloc KN (by rfl) 29 rfl 6 rfl (Ins.mk 0 0 0 0 0).cells (by kernel_rfl) ?_; clear KN; intro g6 wx hg6 KN) | (refine wpList_kn_alloc KN (by rfl) 35 rfl 11 rfl Vm.zero.cells (by kernel_rfl) ?_; clear KN; intro g11 wx hg11 KN) | (refine wpList_built rfl 33 #[] rfl Eff.none.cells (by kernel_rfl) ?_))))
  exact bodyPost_ret (results_cc Try.results35 _ _ _ _ ((v.trap 4).1).cells ((v.trap 4).2).cells rfl (load_vm (KN.at_ (by repeat (first | exact Has.here | refine Has.there ?_)))) rfl (load_eff (KN.at_ (by repeat (first | exact Has.here | refine Has.there ?_))))) rfl ⟨by rw [RES.out]; rfl, KN.toBelow⟩
set_option maxRecDepth 100000 in
set_option maxHeartbeats 2000000 in
theorem stepR_sys0 (v : Vm) (p : List Ins) (x : Ins) (g off c : Nat) (w : World) (hv : v.fits) (hp : Good p) (hps : PS w g off p) (hx : p[v.pc.toNat]? = some x) (hop : x.op = 25) (hz : ¬ x.imm < 0) :
    Calls Try.prog 35 #[.agg v.cells, .slice (some ⟨g, off, none⟩) p.length c] w fun e w' => e = .returned (stepVal2 (stepI v x p.length)) ∧ Below w.heap.size w w' := by
  have KN := Kn.start w
  have hxm := List.mem_of_getElem? hx
  obtain ⟨o0, o1, htg, ⟨xa0, xa1⟩, ⟨xb0, xb1⟩, ⟨xc0, xc1⟩⟩ := insErr_target (hp.ok x hxm)
  obtain ⟨pc0, pc1⟩ := hv.pc
  obtain ⟨pl0, pl1⟩ := hp.len
  have hlt : v.pc < p.length := by have := (List.getElem?_eq_some_iff.1 hx).1; omega
  have RNG := Lib.hid (hps.range hx)
  have hgl := hps.1
  have IM := Lib.hid (imm_mask x.imm v.width hv.wide)
  have im0 := Int.emod_nonneg x.imm (show pw2 v.width ≠ 0 by have := pw2_pos v.width; omega)
  have im1 := Int.emod_lt_of_pos x.imm (pw2_pos v.width).1
  have im2 := (pw2_pos v.width).2
  have ra := hv.reg x.a.toNat
  have rb := hv.reg x.b.toNat
  have rc := hv.reg x.c.toNat
  obtain ⟨ra0, ra1⟩ := ra
  obtain ⟨rb0, rb1⟩ := rb
  obtain ⟨rc0, rc1⟩ := rc
  obtain ⟨ii0, ii1⟩ := hp.imm x hxm
  have EQA := Lib.hid (Vm.cells_reg v x.a.toNat (by omega))
  have EQB := Lib.hid (Vm.cells_reg v x.b.toNat (by omega))
  have EQC := Lib.hid (Vm.cells_reg v x.c.toNat (by omega))
  have HLEN := Lib.hid hv.len
  have t0 : (x.op == 0) = false := by rw [beq_eq_false_iff_ne]; omega
  have t18 : (x.op == 18) = false := by rw [beq_eq_false_iff_ne]; omega
  have t19 : (x.op == 19) = false := by rw [beq_eq_false_iff_ne]; omega
  have t20 : (x.op == 20) = false := by rw [beq_eq_false_iff_ne]; omega
  have t21 : (x.op == 21) = false := by rw [beq_eq_false_iff_ne]; omega
  have t22 : (x.op == 22) = false := by rw [beq_eq_false_iff_ne]; omega
  have t23 : (x.op == 23) = false := by rw [beq_eq_false_iff_ne]; omega
  have t24 : (x.op == 24) = false := by rw [beq_eq_false_iff_ne]; omega
  have t25 : (x.op == 25) = true := by rw [beq_iff_eq]; exact hop
  have HZ := Lib.hid hz
  have RES : Hid (stepI v x p.length = ({ v with pc := v.pc + 1, state := 1, wait := (⟨3, 0, x.imm, 0, 0⟩ : Eff) }, (⟨3, 0, x.imm, 0, 0⟩ : Eff))) := Lib.hid (by
    unfold stepI
    rw [if_neg (show ¬ x.op = 0 by omega)]
    rw [if_neg (show ¬ x.op = 18 by omega)]
    rw [if_neg (show ¬ x.op = 19 by omega)]
    rw [if_neg (show ¬ x.op = 20 by omega)]
    rw [if_neg (show ¬ x.op = 21 by omega)]
    rw [if_neg (show ¬ x.op = 22 by omega)]
    rw [if_neg (show ¬ x.op = 23 by omega)]
    rw [if_neg (show ¬ x.op = 24 by omega)]
    rw [if_pos hop]
    rw [if_neg hz])
  clear hop
  clear hz
  have HV := Lib.hid hv
  clear hx hp hps hv htg hxm
  go_enter Try.func35, Try.ntmps35
  go_wp2_with (first | ((with_reducible refine wpList_gate ?_); first | ((refine gate_load (by rfl) ?_); first | (refine wpList_kn_oldN KN (by rfl) 29 _ rfl g _ rfl x.cells RNG.out hgl (by simp) _ Try.underlying29 rfl (by kernel_rfl) ?_) | (refine wpList_kn_load1 KN (by rfl) 3 _ rfl _ _ rfl _ _ (by repeat (first | exact Has.here | refine Has.there ?_)) _ (by (repeat (first | ((with_reducible refine get_hit ?_); exact Nat.le_of_ble_eq_true (by kernel_rfl)) | ((with_reducible refine (get_miss ?_).trans ?_); (focus kernel_rfl)) | ((with_reducible refine (get_pmiss ?_).trans ?_); (focus kernel_rfl)))); all_goals (conv => lhs; whnf; arg 1; whnf)) _ Try.underlying3 rfl ?_) | (refine wpList_kn_loadW KN (by rfl) 35 _ rfl _ rfl _ _ (by repeat (first | exact Has.here | refine Has.there ?_)) _ Try.underlying35 rfl (by kernel_rfl) ?_) | (refine wpList_kn_loadW KN (by rfl) 29 _ rfl _ rfl _ _ (by repeat (first | exact Has.here | refine Has.there ?_)) _ Try.underlying29 rfl (by kernel_rfl) ?_) | (refine wpList_kn_load1 KN (by rfl) 30 _ rfl _ _ rfl _ _ (by repeat (first | exact Has.here | refine Has.there ?_)) _ (by (repeat (first | ((with_reducible refine get_hit ?_); exact Nat.le_of_ble_eq_true (by kernel_rfl)) | ((with_reducible refine (get_miss ?_).trans ?_); (focus kernel_rfl)) | ((with_reducible refine (get_pmiss ?_).trans ?_); (focus kernel_rfl)))); all_goals (conv => lhs; whnf; arg 1; whnf)) _ Try.underlying30 rfl ?_) | (refine wpList_kn_load1 KN (by rfl) 21 _ rfl _ _ rfl _ _ (by repeat (first | exact Has.here | refine Has.there ?_)) _ (by (repeat (first | ((with_reducible refine get_hit ?_); exact Nat.le_of_ble_eq_true (by kernel_rfl)) | ((with_reducible refine (get_miss ?_).trans ?_); (focus kernel_rfl)) | ((with_reducible refine (get_pmiss ?_).trans ?_); (focus kernel_rfl)))); all_goals (conv => lhs; whnf; arg 1; whnf)) _ Try.underlying21 rfl ?_) | (refine wpList_kn_loadW KN (by rfl) 33 _ rfl _ rfl _ _ (by repeat (first | exact Has.here | refine Has.there ?_)) _ Try.underlying33 rfl (by kernel_rfl) ?_)) | ((refine gate_store (by rfl) ?_); first | (refine wpList_kn_storeW KN (by rfl) 35 _ _ rfl _ rfl _ rfl _ _ (by repeat (first | exact Repl.here | apply Repl.there)) (by kernel_rfl) (by kernel_rfl) (by kernel_rfl) ?_; clear KN; intro wx KN) | (refine wpList_kn_storeA KN (by rfl) 35 _ _ rfl _ _ rfl _ rfl _ _ (by repeat (first | exact Repl.here | apply Repl.there)) (by (try simp only [Array.size_setIfInBounds, putL_size]); first | exact Nat.le_of_ble_eq_true rfl | (simp; omega)) (by kernel_rfl) (by kernel_rfl) ?_; clear KN; intro wx KN) | (refine wpList_kn_storeW KN (by rfl) 33 _ _ rfl _ rfl _ rfl _ _ (by repeat (first | exact Repl.here | apply Repl.there)) (by kernel_rfl) (by kernel_rfl) (by kernel_rfl) ?_; clear KN; intro wx KN) | (refine wpList_kn_storeA KN (by rfl) 33 _ _ rfl _ _ rfl _ rfl _ _ (by repeat (first | exact Repl.here | apply Repl.there)) (by (try simp only [Array.size_setIfInBounds, putL_size]); first | exact Nat.le_of_ble_eq_true rfl | (simp; omega)) (by kernel_rfl) (by kernel_rfl) ?_; clear KN; intro wx KN) | (refine wpList_kn_storeW KN (by rfl) 29 _ _ rfl _ rfl _ rfl _ _ (by repeat (first | exact Repl.here | apply Repl.there)) (by kernel_rfl) (by kernel_rfl) (by kernel_rfl) ?_; clear KN; intro wx KN) | (refine wpList_kn_storeA KN (by rfl) 29 _ _ rfl _ _ rfl _ rfl _ _ (by repeat (first | exact Repl.here | apply Repl.there)) (by (try simp only [Array.size_setIfInBounds, putL_size]); first | exact Nat.le_of_ble_eq_true rfl | (simp; omega)) (by kernel_rfl) (by kernel_rfl) ?_; clear KN; intro wx KN) | (refine wpList_kn_store1 KN (by rfl) 3 _ _ rfl _ _ rfl _ (by conv => lhs; whnf) (by rfl) _ _ (by repeat (first | exact Repl.here | apply Repl.there)) (by (try simp only [Array.size_setIfInBounds, putL_size]); first | exact Nat.le_of_ble_eq_true rfl | (simp; omega)) (by kernel_rfl) (by rfl) ?_; clear KN; intro wx KN) | (refine wpList_kn_store1 KN (by rfl) 30 _ _ rfl _ _ rfl _ (by conv => lhs; whnf) (by rfl) _ _ (by repeat (first | exact Repl.here | apply Repl.there)) (by (try simp only [Array.size_setIfInBounds, putL_size]); first | exact Nat.le_of_ble_eq_true rfl | (simp; omega)) (by kernel_rfl) (by rfl) ?_; clear KN; intro wx KN)) | ((refine gate_new (by rfl) ?_); first | (refine wpList_kn_boxA KN (by rfl) 35 _ rfl 2 rfl _ rfl ?_; clear KN; intro g2 wx hg2 KN) | (refine wpList_kn_alloc KN (by rfl) 35 rfl 4 rfl Vm.zero.cells (by kernel_rfl) ?_; clear KN; intro g4 wx hg4 KN) | (refine wpList_kn_alloc KN (by rfl) 33 rfl 5 rfl Eff.none.cells (by kernel_rfl) ?_; clear KN; intro g5 wx hg5 KN) | (refine wpList_kn_alloc KN (by rfl) 29 rfl 6 rfl (Ins.mk 0 0 0 0 0).cells (by kernel_rfl) ?_; clear KN; intro g6 wx hg6 KN) | (refine wpList_kn_alloc KN (by rfl) 35 rfl 11 rfl Vm.zero.cells (by kernel_rfl) ?_; clear KN; intro g11 wx hg11 KN) | (refine wpList_built rfl 33 #[] rfl Eff.none.cells (by kernel_rfl) ?_))))
  have c1 := KN.cell (g := g6) (by repeat (first | exact Has.here | refine Has.there ?_)) (x.get1)
  have c2 := KN.cell (g := g6) (by repeat (first | exact Has.here | refine Has.there ?_)) (x.get2)
  have c3 := KN.cell (g := g6) (by repeat (first | exact Has.here | refine Has.there ?_)) (x.get3)
  have c4 := KN.cell (g := g2) (by repeat (first | exact Has.here | refine Has.there ?_)) EQA.out
  have c5 := KN.cell (g := g2) (by repeat (first | exact Has.here | refine Has.there ?_)) EQB.out
  have c6 := KN.cell (g := g2) (by repeat (first | exact Has.here | refine Has.there ?_)) EQC.out
  go_quiet (fail)
  clear c1 c2 c3 c4 c5 c6
  replace KN := KN.drewN nq
  generalize hwq : World.drewN _ nq = w1 at KN ⊢
  clear hwq
  have c1 := KN.cell (g := g6) (by repeat (first | exact Has.here | refine Has.there ?_)) (x.get4)
  have c2 := KN.cell (g := g2) (by repeat (first | exact Has.here | refine Has.there ?_)) (v.get0)
  go_wp2_with fail
  have hm := IM.out
  go_quiet ((go_at_call 40; exact Calls.quiet_of_same ((mask_any _ _ HV.out.wide).mono fun _ _ h => ⟨h.1, h.2.symm⟩)))
  clear c1 c2 hm
  replace KN := KN.drewN nq
  generalize hwq : World.drewN _ nq = w2 at KN ⊢
  clear hwq
  obtain ⟨im, him⟩ : ∃ im, im = x.imm % pw2 v.width := ⟨_, rfl⟩
  rw [← him] at im0 im1 ⊢
  have HIM := Lib.hid him
  clear him
  have hz := HZ.out
  go_wp2_with (first | ((with_reducible refine wpList_gate ?_); first | ((refine gate_load (by rfl) ?_); first | (refine wpList_kn_load1 KN (by rfl) 3 _ rfl _ _ rfl _ _ (by repeat (first | exact Has.here | refine Has.there ?_)) _ (by (repeat (first | ((with_reducible refine get_hit ?_); exact Nat.le_of_ble_eq_true (by kernel_rfl)) | ((with_reducible refine (get_miss ?_).trans ?_); (focus kernel_rfl)) | ((with_reducible refine (get_pmiss ?_).trans ?_); (focus kernel_rfl)))); all_goals (conv => lhs; whnf; arg 1; whnf)) _ Try.underlying3 rfl ?_) | (refine wpList_kn_loadW KN (by rfl) 35 _ rfl _ rfl _ _ (by repeat (first | exact Has.here | refine Has.there ?_)) _ Try.underlying35 rfl (by kernel_rfl) ?_) | (refine wpList_kn_loadW KN (by rfl) 29 _ rfl _ rfl _ _ (by repeat (first | exact Has.here | refine Has.there ?_)) _ Try.underlying29 rfl (by kernel_rfl) ?_) | (refine wpList_kn_load1 KN (by rfl) 30 _ rfl _ _ rfl _ _ (by repeat (first | exact Has.here | refine Has.there ?_)) _ (by (repeat (first | ((with_reducible refine get_hit ?_); exact Nat.le_of_ble_eq_true (by kernel_rfl)) | ((with_reducible refine (get_miss ?_).trans ?_); (focus kernel_rfl)) | ((with_reducible refine (get_pmiss ?_).trans ?_); (focus kernel_rfl)))); all_goals (conv => lhs; whnf; arg 1; whnf)) _ Try.underlying30 rfl ?_) | (refine wpList_kn_load1 KN (by rfl) 21 _ rfl _ _ rfl _ _ (by repeat (first | exact Has.here | refine Has.there ?_)) _ (by (repeat (first | ((with_reducible refine get_hit ?_); exact Nat.le_of_ble_eq_true (by kernel_rfl)) | ((with_reducible refine (get_miss ?_).trans ?_); (focus kernel_rfl)) | ((with_reducible refine (get_pmiss ?_).trans ?_); (focus kernel_rfl)))); all_goals (conv => lhs; whnf; arg 1; whnf)) _ Try.underlying21 rfl ?_) | (refine wpList_kn_loadW KN (by rfl) 33 _ rfl _ rfl _ _ (by repeat (first | exact Has.here | refine Has.there ?_)) _ Try.underlying33 rfl (by kernel_rfl) ?_)) | ((refine gate_store (by rfl) ?_); first | (refine wpList_kn_storeW KN (by rfl) 35 _ _ rfl _ rfl _ rfl _ _ (by repeat (first | exact Repl.here | apply Repl.there)) (by kernel_rfl) (by kernel_rfl) (by kernel_rfl) ?_; clear KN; intro wx KN) | (refine wpList_kn_storeA KN (by rfl) 35 _ _ rfl _ _ rfl _ rfl _ _ (by repeat (first | exact Repl.here | apply Repl.there)) (by (try simp only [Array.size_setIfInBounds, putL_size]); first | exact Nat.le_of_ble_eq_true rfl | (simp; omega)) (by kernel_rfl) (by kernel_rfl) ?_; clear KN; intro wx KN) | (refine wpList_kn_storeW KN (by rfl) 33 _ _ rfl _ rfl _ rfl _ _ (by repeat (first | exact Repl.here | apply Repl.there)) (by kernel_rfl) (by kernel_rfl) (by kernel_rfl) ?_; clear KN; intro wx KN) | (refine wpList_kn_storeA KN (by rfl) 33 _ _ rfl _ _ rfl _ rfl _ _ (by repeat (first | exact Repl.here | apply Repl.there)) (by (try simp only [Array.size_setIfInBounds, putL_size]); first | exact Nat.le_of_ble_eq_true rfl | (simp; omega)) (by kernel_rfl) (by kernel_rfl) ?_; clear KN; intro wx KN) | (refine wpList_kn_storeW KN (by rfl) 29 _ _ rfl _ rfl _ rfl _ _ (by repeat (first | exact Repl.here | apply Repl.there)) (by kernel_rfl) (by kernel_rfl) (by kernel_rfl) ?_; clear KN; intro wx KN) | (refine wpList_kn_storeA KN (by rfl) 29 _ _ rfl _ _ rfl _ rfl _ _ (by repeat (first | exact Repl.here | apply Repl.there)) (by (try simp only [Array.size_setIfInBounds, putL_size]); first | exact Nat.le_of_ble_eq_true rfl | (simp; omega)) (by kernel_rfl) (by kernel_rfl) ?_; clear KN; intro wx KN) | (refine wpList_kn_store1 KN (by rfl) 3 _ _ rfl _ _ rfl _ (by conv => lhs; whnf) (by rfl) _ _ (by repeat (first | exact Repl.here | apply Repl.there)) (by (try simp only [Array.size_setIfInBounds, putL_size]); first | exact Nat.le_of_ble_eq_true rfl | (simp; omega)) (by kernel_rfl) (by rfl) ?_; clear KN; intro wx KN) | (refine wpList_kn_store1 KN (by rfl) 30 _ _ rfl _ _ rfl _ (by conv => lhs; whnf) (by rfl) _ _ (by repeat (first | exact Repl.here | apply Repl.there)) (by (try simp only [Array.size_setIfInBounds, putL_size]); first | exact Nat.le_of_ble_eq_true rfl | (simp; omega)) (by kernel_rfl) (by rfl) ?_; clear KN; intro wx KN)) | ((refine gate_new (by rfl) ?_); first | (refine wpList_built rfl 33 _ rfl (⟨3, 0, x.imm, 0, 0⟩ : Eff).cells (by kernel_rfl) ?_) | (refine wpList_kn_boxA KN (by rfl) 35 _ rfl 2 rfl _ rfl ?_; clear KN; intro g2 wx hg2 KN) | (refine wpList_kn_alloc KN (by rfl) 35 rfl 4 rfl Vm.zero.cells (by kernel_rfl) ?_; clear KN; intro g4 wx hg4 KN) | (refine wpList_kn_alloc KN (by rfl) 33 rfl 5 rfl Eff.none.cells (by kernel_rfl) ?_; clear KN; intro g5 wx hg5 KN) | (refine wpList_kn_alloc KN (by rfl) 29 rfl 6 rfl (Ins.mk 0 0 0 0 0).cells (by kernel_rfl) ?_; clear KN; intro g6 wx hg6 KN) | (refine wpList_kn_alloc KN (by rfl) 35 rfl 11 rfl Vm.zero.cells (by kernel_rfl) ?_; clear KN; intro g11 wx hg11 KN) | (refine wpList_built rfl 33 #[] rfl Eff.none.cells (by kernel_rfl) ?_))))
  replace KN := KN.as_ g11 ({ v with pc := v.pc + 1, state := 1, wait := (⟨3, 0, x.imm, 0, 0⟩ : Eff) } : Vm).cells (by repeat (first | exact Repl.here | apply Repl.there)) (by kernel_rfl)
  replace KN := KN.drew
  refine wp_region_held_drew (S := (fun w' => BlkT w' g11 ({ v with pc := v.pc + 1, state := 1, wait := (⟨3, 0, x.imm, 0, 0⟩ : Eff) } : Vm).cells 35)) (by kernel_rfl) ?qhS (fun hHeld => ?qrest)
  case qhS => exact KN.at_ (by repeat (first | exact Has.here | refine Has.there ?_))
  refine wpAnyH_take (i := 0) (oi := ⟨some 192, _, _, _, _, _⟩) (v := (.agg ({ v with pc := v.pc + 1, state := 1, wait := (⟨3, 0, x.imm, 0, 0⟩ : Eff) } : Vm).cells)) rfl (by kernel_rfl) (by kernel_rfl) (by kernel_rfl) (fun _ _ _ h => h) (kn_yieldsN (by rfl) 35 _ rfl g11 0 rfl _ 35 (fun _ h => h) _ (extract_whole _) _ Try.underlying35 rfl vm_size) hHeld ?qr0
  (try simp only [Act.put, List.setIfInBounds_toArray, List.set_cons_zero, List.set_cons_succ])
  refine wpAnyH_take (i := 1) (oi := ⟨some 193, _, _, _, _, _⟩) (v := ?qv1) rfl (by kernel_rfl) (by kernel_rfl) (by kernel_rfl) (fun _ _ _ h => h) (Or.inl ⟨by rfl, ?qhy1⟩) hHeld ?qr1
  case qhy1 => (intro w hSw; (try dsimp only at hSw); go_simp; (try with_reducible rfl))
  (try simp only [Act.put, List.setIfInBounds_toArray, List.set_cons_zero, List.set_cons_succ])
  refine wpAnyH_take (i := 2) (oi := ⟨some 194, _, _, _, _, _⟩) (v := (.agg ((⟨3, 0, x.imm, 0, 0⟩ : Eff)).cells)) rfl (by kernel_rfl) (by kernel_rfl) (by kernel_rfl) (fun _ _ _ h => h) (kn_yieldsN (by rfl) 33 _ rfl g11 20 rfl _ 35 (fun _ h => h) _ (by kernel_rfl) _ Try.underlying33 rfl eff_size) hHeld ?qr2
  (try simp only [Act.put, List.setIfInBounds_toArray, List.set_cons_zero, List.set_cons_succ])
  refine wpAnyH_ready (rs := [3]) (by kernel_rfl) (by simp) ?qc3
  refine AllReadyH.cons (o := ⟨none, _, _, _, _, _⟩) rfl (fun K hK => ?qst3) AllReadyH.nil
  (rw [if_pos (by rfl)]; refine wp_kn_storeW KN 35 _ _ rfl _ rfl _ rfl _ _ (by repeat (first | exact Repl.here | apply Repl.there)) (by kernel_rfl) (by kernel_rfl) (by kernel_rfl) ?_; clear KN; intro wx KN)
  refine hK.out _ _ ?qk3 (fun hHeld2 => ?qm3)
  case qk3 => exact KN.at_ (by repeat (first | exact Has.here | refine Has.there ?_))
  clear hK K hHeld
  have hHeld := hHeld2; clear hHeld2
  (try simp only [Act.put, List.setIfInBounds_toArray, List.set_cons_zero, List.set_cons_succ])
  refine wpAnyH_ready (rs := [4]) (by kernel_rfl) (by simp) ?qc4
  refine AllReadyH.cons (o := ⟨none, _, _, _, _, _⟩) rfl (fun K hK => ?qst4) AllReadyH.nil
  (rw [if_pos (by rfl)]; refine wp_kn_storeW KN 33 _ _ rfl _ rfl _ rfl _ _ (by repeat (first | exact Repl.here | apply Repl.there)) (by kernel_rfl) (by kernel_rfl) (by kernel_rfl) ?_; clear KN; intro wx KN)
  refine hK.out _ _ ?qk4 (fun hHeld2 => ?qm4)
  case qk4 => exact KN.at_ (by repeat (first | exact Has.here | refine Has.there ?_))
  clear hK K hHeld
  have hHeld := hHeld2; clear hHeld2
  (try simp only [Act.put, List.setIfInBounds_toArray, List.set_cons_zero, List.set_cons_succ])
  refine wpAnyH_done (by kernel_rfl) ?qdone _
  clear hHeld
  go_wp2_with fail
  exact bodyPost_ret (results_cc Try.results35 _ _ _ _ ({ v with pc := v.pc + 1, state := 1, wait := (⟨3, 0, x.imm, 0, 0⟩ : Eff) }).cells ((⟨3, 0, x.imm, 0, 0⟩ : Eff)).cells rfl (load_vm (KN.at_ (by repeat (first | exact Has.here | refine Has.there ?_)))) rfl (load_eff (KN.at_ (by repeat (first | exact Has.here | refine Has.there ?_))))) rfl ⟨by rw [RES.out]; rfl, KN.toBelow⟩
end Go.Proofs.Ytbllialcfmpkaaa
