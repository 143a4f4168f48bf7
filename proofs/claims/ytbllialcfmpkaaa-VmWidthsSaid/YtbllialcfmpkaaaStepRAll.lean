/- The reference's step, usable, Step and Run. -/
import Derived.Test.YtbllialcfmpkaaaStepRa
import Derived.Test.YtbllialcfmpkaaaStepRb
import Derived.Test.YtbllialcfmpkaaaStepRc
import Derived.Test.YtbllialcfmpkaaaStepRd
import Derived.Test.YtbllialcfmpkaaaStepRe
import Derived.Test.YtbllialcfmpkaaaStepRf
set_option linter.unusedVariables false
set_option linter.unusedSimpArgs false
set_option linter.unusedSectionVars false
namespace Go.Proofs.Ytbllialcfmpkaaa
open Go.RowKit
set_option maxRecDepth 100000 in
theorem stepR_end (v : Vm) (p : List Ins) (va : Value) (w : World) (hf : ∃ a c, va = .slice a p.length c) (hl : p.length ≤ v.pc) (hn : p.length ≤ 4096) :
    Calls Try.prog 35 #[.agg v.cells, va] w fun e w' => e = .returned (stepVal2 (v.trap 2)) ∧ Below w.heap.size w w' := by
  have KN := Kn.start w
  obtain ⟨a, c, rfl⟩ := hf
  go_enter Try.func35, Try.ntmps35
  go_wp2_with (first | (go_at_call 38; refine (trapv_any v 2 _).mono ?_; rintro e wx ⟨rfl, hb1⟩; replace KN := KN.below hb1; clear hb1) | ((with_reducible refine wpList_gate ?_); first | ((refine gate_load (by rfl) ?_); first | (refine wpList_kn_load1 KN (by rfl) 3 _ rfl _ _ rfl _ _ (by repeat (first | exact Has.here | refine Has.there ?_)) _ (by (repeat (first | ((with_reducible refine get_hit ?_); exact Nat.le_of_ble_eq_true (by kernel_rfl)) | ((with_reducible refine (get_miss ?_).trans ?_); (focus kernel_rfl)) | ((with_reducible refine (get_pmiss ?_).trans ?_); (focus kernel_rfl)))); all_goals (conv => lhs; whnf; arg 1; whnf)) _ Try.underlying3 rfl ?_) | (refine wpList_kn_loadW KN (by rfl) 35 _ rfl _ rfl _ _ (by repeat (first | exact Has.here | refine Has.there ?_)) _ Try.underlying35 rfl (by kernel_rfl) ?_) | (refine wpList_kn_loadW KN (by rfl) 29 _ rfl _ rfl _ _ (by repeat (first | exact Has.here | refine Has.there ?_)) _ Try.underlying29 rfl (by kernel_rfl) ?_) | (refine wpList_kn_load1 KN (by rfl) 30 _ rfl _ _ rfl _ _ (by repeat (first | exact Has.here | refine Has.there ?_)) _ (by (repeat (first | ((with_reducible refine get_hit ?_); exact Nat.le_of_ble_eq_true (by kernel_rfl)) | ((with_reducible refine (get_miss ?_).trans ?_); (focus kernel_rfl)) | ((with_reducible refine (get_pmiss ?_).trans ?_); (focus kernel_rfl)))); all_goals (conv => lhs; whnf; arg 1; whnf)) _ Try.underlying30 rfl ?_) | (refine wpList_kn_load1 KN (by rfl) 21 _ rfl _ _ rfl _ _ (by repeat (first | exact Has.here | refine Has.there ?_)) _ (by (repeat (first | ((with_reducible refine get_hit ?_); exact Nat.le_of_ble_eq_true (by kernel_rfl)) | ((with_reducible refine (get_miss ?_).trans ?_); (focus kernel_rfl)) | ((with_reducible refine (get_pmiss ?_).trans ?_); (focus kernel_rfl)))); all_goals (conv => lhs; whnf; arg 1; whnf)) _ Try.underlying21 rfl ?_) | (refine wpList_kn_loadW KN (by rfl) 33 _ rfl _ rfl _ _ (by repeat (first | exact Has.here | refine Has.there ?_)) _ Try.underlying33 rfl (by kernel_rfl) ?_)) | ((refine gate_store (by rfl) ?_); first | (refine wpList_kn_storeW KN (by rfl) 35 _ _ rfl _ rfl _ rfl _ _ (by repeat (first | exact Repl.here | apply Repl.there)) (by kernel_rfl) (by kernel_rfl) (by kernel_rfl) ?_; clear KN; intro wx KN) | (refine wpList_kn_storeA KN (by rfl) 35 _ _ rfl _ _ rfl _ rfl _ _ (by repeat (first | exact Repl.here | apply Repl.there)) (by (try simp only [Array.size_setIfInBounds, putL_size]); first | exact Nat.le_of_ble_eq_true rfl | (simp; omega)) (by kernel_rfl) (by kernel_rfl) ?_; clear KN; intro wx KN) | (refine wpList_kn_storeW KN (by rfl) 33 _ _ rfl _ rfl _ rfl _ _ (by repeat (first | exact Repl.here | apply Repl.there)) (by kernel_rfl) (by kernel_rfl) (by kernel_rfl) ?_; clear KN; intro wx KN) | (refine wpList_kn_storeA KN (by rfl) 33 _ _ rfl _ _ rfl _ rfl _ _ (by repeat (first | exact Repl.here | apply Repl.there)) (by (try simp only [Array.size_setIfInBounds, putL_size]); first | exact Nat.le_of_ble_eq_true rfl | (simp; omega)) (by kernel_rfl) (by kernel_rfl) ?_; clear KN; intro wx KN) | (refine wpList_kn_storeW KN (by rfl) 29 _ _ rfl _ rfl _ rfl _ _ (by repeat (first | exact Repl.here | apply Repl.there)) (by kernel_rfl) (by kernel_rfl) (by kernel_rfl) ?_; clear KN; intro wx KN) | (refine wpList_kn_storeA KN (by rfl) 29 _ _ rfl _ _ rfl _ rfl _ _ (by repeat (first | exact Repl.here | apply Repl.there)) (by (try simp only [Array.size_setIfInBounds, putL_size]); first | exact Nat.le_of_ble_eq_true rfl | (simp; omega)) (by kernel_rfl) (by kernel_rfl) ?_; clear KN; intro wx KN) | (refine wpList_kn_store1 KN (by rfl) 3 _ _ rfl _ _ rfl _ (by conv => lhs; whnf) (by rfl) _ _ (by repeat (first | exact Repl.here | apply Repl.there)) (by (try simp only [Array.size_setIfInBounds, putL_size]); first | exact Nat.le_of_ble_eq_true rfl | (simp; omega)) (by kernel_rfl) (by rfl) ?_; clear KN; intro wx KN) | (refine wpList_kn_store1 KN (by rfl) 30 _ _ rfl _ _ rfl _ (by conv => lhs; whnf) (by rfl) _ _ (by repeat (first | exact Repl.here | apply Repl.there)) (by (try simp only [Array.size_setIfInBounds, putL_size]); first | exact Nat.le_of_ble_eq_true rfl | (simp; omega)) (by kernel_rfl) (by rfl) ?_; clear KN; intro wx KN)) | ((refine gate_new (by rfl) ?_); first | (refine wpList_kn_boxA KN (by rfl) 35 _ rfl 2 rfl _ rfl ?_; clear KN; intro g2 wx hg2 KN) | (refine wpList_kn_alloc KN (by rfl) 35 rfl 4 rfl Vm.zero.cells (by kernel_rfl) ?_; clear KN; intro g4 wx hg4 KN) | (refine wpList_kn_alloc KN (by rfl) 33 rfl 5 rfl Eff.none.cells (by kernel_rfl) ?_; clear KN; intro g5 wx hg5 KN) | (refine wpList_kn_alloc KN (by rfl) 29 rfl 6 rfl (Ins.mk 0 0 0 0 0).cells (by kernel_rfl) ?_; clear KN; intro g6 wx hg6 KN) | (refine wpList_kn_alloc KN (by rfl) 35 rfl 11 rfl Vm.zero.cells (by kernel_rfl) ?_; clear KN; intro g11 wx hg11 KN) | (refine wpList_built rfl 33 #[] rfl Eff.none.cells (by kernel_rfl) ?_))))
  exact bodyPost_ret (results_cc Try.results35 _ _ _ _ (v.trap 2).1.cells (v.trap 2).2.cells rfl (load_vm (KN.at_ (by repeat (first | exact Has.here | refine Has.there ?_)))) rfl (load_eff (KN.at_ (by repeat (first | exact Has.here | refine Has.there ?_))))) rfl ⟨rfl, KN.toBelow⟩
theorem stepR_any (v : Vm) (p : List Ins) (g off c : Nat) (w : World) (hv : v.fits) (hp : Good p) (hps : PS w g off p) :
    Calls Try.prog 35 #[.agg v.cells, .slice (some ⟨g, off, none⟩) p.length c] w fun e w' => e = .returned (stepVal2 (stepS v p)) ∧ Below w.heap.size w w' := by
  have hpc := hv.pc
  cases hx : p[v.pc.toNat]? with
  | none =>
    have e : stepS v p = v.trap 2 := by unfold stepS; rw [hx]
    rw [e]
    exact stepR_end v p _ w ⟨_, _, rfl⟩ (by have := List.getElem?_eq_none_iff.1 hx; omega) hp.len.2
  | some x =>
    have e : stepS v p = stepI v x p.length := by unfold stepS; rw [hx]
    rw [e]
    obtain ⟨o0, o1, -⟩ := insErr_target (hp.ok x (List.mem_of_getElem? hx))
    have ho : x.op = 0 ∨ (1 ≤ x.op ∧ x.op ≤ 17) ∨ x.op = 18 ∨ x.op = 19 ∨ x.op = 20 ∨ x.op = 21 ∨ x.op = 22 ∨ x.op = 23 ∨ x.op = 24 ∨ x.op = 25 ∨ x.op = 26 ∨ x.op = 27 := by omega
    rcases ho with ho | ho | ho | ho | ho | ho | ho | ho | ho | ho | ho | ho
    · exact stepR_halt v p x g off c w hv hp hps hx ho
    · by_cases h7 : x.op = 7
      · by_cases hz : v.r x.c.toNat = 0
        · exact stepR_div7 v p x g off c w hv hp hps hx ho h7 hz
        · exact stepR_quo7 v p x g off c w hv hp hps hx ho h7 hz
      · by_cases h8 : x.op = 8
        · by_cases hz : v.r x.c.toNat = 0
          · exact stepR_div8 v p x g off c w hv hp hps hx ho h8 hz
          · exact stepR_quo8 v p x g off c w hv hp hps hx ho h8 hz
        · exact stepR_alu v p x g off c w hv hp hps hx ho h7 h8
    · exact stepR_jmp v p x g off c w hv hp hps hx ho
    · by_cases hz : v.r x.a.toNat = 0
      · exact stepR_beqz1 v p x g off c w hv hp hps hx ho hz
      · exact stepR_beqz0 v p x g off c w hv hp hps hx ho hz
    · by_cases hz : v.r x.a.toNat = 0
      · exact stepR_bnez1 v p x g off c w hv hp hps hx ho hz
      · exact stepR_bnez0 v p x g off c w hv hp hps hx ho hz
    · exact stepR_jal v p x g off c w hv hp hps hx ho
    · by_cases hz : (p.length : Int) ≤ v.r x.a.toNat
      · exact stepR_jr1 v p x g off c w hv hp hps hx ho hz
      · exact stepR_jr0 v p x g off c w hv hp hps hx ho hz
    · by_cases hz : (v.r x.b.toNat + x.imm) % pw2 v.width % 8 = 0
      · exact stepR_ld0 v p x g off c w hv hp hps hx ho hz
      · exact stepR_ld1 v p x g off c w hv hp hps hx ho hz
    · by_cases hz : (v.r x.b.toNat + x.imm) % pw2 v.width % 8 = 0
      · exact stepR_st0 v p x g off c w hv hp hps hx ho hz
      · exact stepR_st1 v p x g off c w hv hp hps hx ho hz
    · by_cases hz : x.imm < 0
      · exact stepR_sys1 v p x g off c w hv hp hps hx ho hz
      · exact stepR_sys0 v p x g off c w hv hp hps hx ho hz
    · exact stepR_yield v p x g off c w hv hp hps hx ho
    · exact stepR_nop v p x g off c w hv hp hps hx ho

/-! ### Step -/
theorem checkE_0 {v : Vm} {p : List Ins} : checkE v p 0 = if v.ok = false then 74 else if ¬ progErr p = 0 then progErr p else if v.state = 0 then 0 else 4 := by
  unfold checkE
  rw [if_neg (show ¬ ¬ (0 : Int) = 0 by decide)]
set_option maxRecDepth 100000 in
set_option maxHeartbeats 1000000 in
theorem RStep_no (v : Vm) (va : Value) (p : List Ins) (w : World) (ht : v.typed) (hp : Instrs w va p) (hc : ¬ checkE v p 0 = 0) :
    Calls Try.prog 17 #[.agg v.cells, va] w fun en w' => en = .returned (stepVal (Vm.zero, Eff.none, checkE v p 0)) ∧ Below w.heap.size w w' := by
  have KN := Kn.start w
  obtain ⟨a, c, rfl, _⟩ := hp.form
  have HP := Lib.hid hp
  have hcases : (¬ (if v.ok = false then 74 else progErr p) = 0 ∧ checkE v p 0 = (if v.ok = false then 74 else progErr p)) ∨ ((if v.ok = false then 74 else progErr p) = 0 ∧ ¬ v.state = 0 ∧ checkE v p 0 = 4) := by
    rw [checkE_0] at hc ⊢
    by_cases h1 : v.ok = false
    · simp [h1]
    · by_cases h2 : progErr p = 0
      · by_cases h3 : v.state = 0
        · simp [h1, h2, h3] at hc
        · simp [h1, h2, h3]
      · simp [h1, h2]
  clear hp hc
  obtain ⟨us, hus⟩ : ∃ us : Int, us = (if v.ok = false then 74 else progErr p) := ⟨_, rfl⟩
  rw [← hus] at hcases
  have HUS := Lib.hid hus
  clear hus
  rcases hcases with ⟨h1, h2⟩ | ⟨h1, h2, h3⟩
  · rw [h2]; clear h2
    have n1 : (us != 0) = true := by rw [bne_iff_ne]; exact h1
    clear h1
    go_enter Try.func17, Try.ntmps17
    go_wp2_with (first | (go_at_call 34; refine (usable_any v _ p _ ht (HP.out.below KN.toBelow)).mono ?_; rintro e wx ⟨rfl, hb1⟩; replace KN := KN.below hb1; clear hb1; rw [← HUS.out]) | ((with_reducible refine wpList_gate ?_); first | ((refine gate_load (by rfl) ?_); first | (refine wpList_kn_loadW KN (by rfl) 35 _ rfl _ rfl _ _ (by repeat (first | exact Has.here | refine Has.there ?_)) _ Try.underlying35 rfl (by kernel_rfl) ?_) | (refine wpList_kn_load1 KN (by rfl) 3 _ rfl _ _ rfl _ _ (by repeat (first | exact Has.here | refine Has.there ?_)) _ (by (repeat (first | ((with_reducible refine get_hit ?_); exact Nat.le_of_ble_eq_true (by kernel_rfl)) | ((with_reducible refine (get_miss ?_).trans ?_); (focus kernel_rfl)) | ((with_reducible refine (get_pmiss ?_).trans ?_); (focus kernel_rfl)))); all_goals (conv => lhs; whnf; arg 1; whnf)) _ Try.underlying3 rfl ?_) | (refine wpList_kn_loadW KN (by rfl) 33 _ rfl _ rfl _ _ (by repeat (first | exact Has.here | refine Has.there ?_)) _ Try.underlying33 rfl (by kernel_rfl) ?_)) | ((refine gate_store (by rfl) ?_); first | (refine wpList_kn_storeW KN (by rfl) 35 _ _ rfl _ rfl _ rfl _ _ (by repeat (first | exact Repl.here | apply Repl.there)) (by kernel_rfl) (by kernel_rfl) (by kernel_rfl) ?_; clear KN; intro wx KN) | (refine wpList_kn_storeA KN (by rfl) 35 _ _ rfl _ _ rfl _ rfl _ _ (by repeat (first | exact Repl.here | apply Repl.there)) (by (try simp only [Array.size_setIfInBounds, putL_size]); first | exact Nat.le_of_ble_eq_true rfl | (simp; omega)) (by kernel_rfl) (by kernel_rfl) ?_; clear KN; intro wx KN) | (refine wpList_kn_storeW KN (by rfl) 33 _ _ rfl _ rfl _ rfl _ _ (by repeat (first | exact Repl.here | apply Repl.there)) (by kernel_rfl) (by kernel_rfl) (by kernel_rfl) ?_; clear KN; intro wx KN) | (refine wpList_kn_storeA KN (by rfl) 33 _ _ rfl _ _ rfl _ rfl _ _ (by repeat (first | exact Repl.here | apply Repl.there)) (by (try simp only [Array.size_setIfInBounds, putL_size]); first | exact Nat.le_of_ble_eq_true rfl | (simp; omega)) (by kernel_rfl) (by kernel_rfl) ?_; clear KN; intro wx KN)) | ((refine gate_new (by rfl) ?_); first | (refine wpList_kn_boxA KN (by rfl) 35 _ rfl 2 rfl _ rfl ?_; clear KN; intro g2 wx hg2 KN) | (refine wpList_kn_alloc KN (by rfl) 35 rfl 4 rfl Vm.zero.cells (by kernel_rfl) ?_; clear KN; intro g4 wx hg4 KN) | (refine wpList_kn_alloc KN (by rfl) 33 rfl 5 rfl Eff.none.cells (by kernel_rfl) ?_; clear KN; intro g5 wx hg5 KN) | (refine wpList_built rfl 35 #[] rfl Vm.zero.cells (by kernel_rfl) ?_) | (refine wpList_built rfl 33 #[] rfl Eff.none.cells (by kernel_rfl) ?_) | (refine wpList_kn_alloc KN (by rfl) 35 rfl 8 rfl Vm.zero.cells (by kernel_rfl) ?_; clear KN; intro g8 wx hg8 KN) | (refine wpList_kn_alloc KN (by rfl) 33 rfl 9 rfl Eff.none.cells (by kernel_rfl) ?_; clear KN; intro g9 wx hg9 KN))))
    exact bodyPost_ret (results_cct Try.results17 _ _ _ _ Vm.zero.cells Eff.none.cells _ rfl (load_vm (KN.at_ (by repeat (first | exact Has.here | refine Has.there ?_)))) rfl (load_eff (KN.at_ (by repeat (first | exact Has.here | refine Has.there ?_)))) rfl) rfl ⟨rfl, KN.toBelow⟩
  · rw [h3]; clear h3
    subst h1
    have n1 : (v.state != 0) = true := by rw [bne_iff_ne]; exact h2
    clear h2
    go_enter Try.func17, Try.ntmps17
    go_wp2_with (first | (go_at_call 34; refine (usable_any v _ p _ ht (HP.out.below KN.toBelow)).mono ?_; rintro e wx ⟨rfl, hb1⟩; replace KN := KN.below hb1; clear hb1; rw [← HUS.out]) | ((with_reducible refine wpList_gate ?_); first | ((refine gate_load (by rfl) ?_); first | (refine wpList_kn_loadW KN (by rfl) 35 _ rfl _ rfl _ _ (by repeat (first | exact Has.here | refine Has.there ?_)) _ Try.underlying35 rfl (by kernel_rfl) ?_) | (refine wpList_kn_load1 KN (by rfl) 3 _ rfl _ _ rfl _ _ (by repeat (first | exact Has.here | refine Has.there ?_)) _ (by (repeat (first | ((with_reducible refine get_hit ?_); exact Nat.le_of_ble_eq_true (by kernel_rfl)) | ((with_reducible refine (get_miss ?_).trans ?_); (focus kernel_rfl)) | ((with_reducible refine (get_pmiss ?_).trans ?_); (focus kernel_rfl)))); all_goals (conv => lhs; whnf; arg 1; whnf)) _ Try.underlying3 rfl ?_) | (refine wpList_kn_loadW KN (by rfl) 33 _ rfl _ rfl _ _ (by repeat (first | exact Has.here | refine Has.there ?_)) _ Try.underlying33 rfl (by kernel_rfl) ?_)) | ((refine gate_store (by rfl) ?_); first | (refine wpList_kn_storeW KN (by rfl) 35 _ _ rfl _ rfl _ rfl _ _ (by repeat (first | exact Repl.here | apply Repl.there)) (by kernel_rfl) (by kernel_rfl) (by kernel_rfl) ?_; clear KN; intro wx KN) | (refine wpList_kn_storeA KN (by rfl) 35 _ _ rfl _ _ rfl _ rfl _ _ (by repeat (first | exact Repl.here | apply Repl.there)) (by (try simp only [Array.size_setIfInBounds, putL_size]); first | exact Nat.le_of_ble_eq_true rfl | (simp; omega)) (by kernel_rfl) (by kernel_rfl) ?_; clear KN; intro wx KN) | (refine wpList_kn_storeW KN (by rfl) 33 _ _ rfl _ rfl _ rfl _ _ (by repeat (first | exact Repl.here | apply Repl.there)) (by kernel_rfl) (by kernel_rfl) (by kernel_rfl) ?_; clear KN; intro wx KN) | (refine wpList_kn_storeA KN (by rfl) 33 _ _ rfl _ _ rfl _ rfl _ _ (by repeat (first | exact Repl.here | apply Repl.there)) (by (try simp only [Array.size_setIfInBounds, putL_size]); first | exact Nat.le_of_ble_eq_true rfl | (simp; omega)) (by kernel_rfl) (by kernel_rfl) ?_; clear KN; intro wx KN)) | ((refine gate_new (by rfl) ?_); first | (refine wpList_kn_boxA KN (by rfl) 35 _ rfl 2 rfl _ rfl ?_; clear KN; intro g2 wx hg2 KN) | (refine wpList_kn_alloc KN (by rfl) 35 rfl 4 rfl Vm.zero.cells (by kernel_rfl) ?_; clear KN; intro g4 wx hg4 KN) | (refine wpList_kn_alloc KN (by rfl) 33 rfl 5 rfl Eff.none.cells (by kernel_rfl) ?_; clear KN; intro g5 wx hg5 KN) | (refine wpList_built rfl 35 #[] rfl Vm.zero.cells (by kernel_rfl) ?_) | (refine wpList_built rfl 33 #[] rfl Eff.none.cells (by kernel_rfl) ?_) | (refine wpList_kn_alloc KN (by rfl) 35 rfl 8 rfl Vm.zero.cells (by kernel_rfl) ?_; clear KN; intro g8 wx hg8 KN) | (refine wpList_kn_alloc KN (by rfl) 33 rfl 9 rfl Eff.none.cells (by kernel_rfl) ?_; clear KN; intro g9 wx hg9 KN))))
    exact bodyPost_ret (results_cct Try.results17 _ _ _ _ Vm.zero.cells Eff.none.cells _ rfl (load_vm (KN.at_ (by repeat (first | exact Has.here | refine Has.there ?_)))) rfl (load_eff (KN.at_ (by repeat (first | exact Has.here | refine Has.there ?_)))) rfl) rfl ⟨rfl, KN.toBelow⟩
set_option maxRecDepth 100000 in
set_option maxHeartbeats 1000000 in
theorem RStep_ok (v : Vm) (va : Value) (p : List Ins) (w : World) (ht : v.typed) (hp : Instrs w va p) (hc : checkE v p 0 = 0) :
    Calls Try.prog 17 #[.agg v.cells, va] w fun en w' => en = .returned (stepVal ((stepS v p).1, (stepS v p).2, 0)) ∧ Below w.heap.size w w' := by
  have KN := Kn.start w
  obtain ⟨ok, pe, _, st⟩ := checkE_ok hc
  have FT := Lib.hid (Vm.ok_fits ok ht)
  have GP := Lib.hid (progErr_good pe hp.2)
  obtain ⟨g, off, c, rfl, ps⟩ := hp.ps GP.out.len.1
  have HP := Lib.hid hp
  have PP := Lib.hid ps
  have HUS : Hid ((if v.ok = false then 74 else progErr p) = 0) := Lib.hid (by rw [ok, pe]; rfl)
  have n1 : (v.state != 0) = false := by rw [bne_eq_false_iff_eq]; exact st
  obtain ⟨r, hr⟩ : ∃ r, r = stepS v p := ⟨_, rfl⟩
  rw [← hr]
  have HR := Lib.hid hr
  clear hp hc ok pe ps st hr
  go_enter Try.func17, Try.ntmps17
  go_wp2_with (first | (go_at_call 34; refine (usable_any v _ p _ ht (HP.out.below KN.toBelow)).mono ?_; rintro e wx ⟨rfl, hb1⟩; replace KN := KN.below hb1; clear hb1; rw [HUS.out]) | (go_at_call 35; refine (stepR_any v p g off c _ FT.out GP.out (PP.out.below KN.toBelow)).mono ?_; rintro e wx ⟨rfl, hb1⟩; replace KN := KN.below hb1; clear hb1; rw [← HR.out]; unfold stepVal2) | ((with_reducible refine wpList_gate ?_); first | ((refine gate_load (by rfl) ?_); first | (refine wpList_kn_loadW KN (by rfl) 35 _ rfl _ rfl _ _ (by repeat (first | exact Has.here | refine Has.there ?_)) _ Try.underlying35 rfl (by kernel_rfl) ?_) | (refine wpList_kn_load1 KN (by rfl) 3 _ rfl _ _ rfl _ _ (by repeat (first | exact Has.here | refine Has.there ?_)) _ (by (repeat (first | ((with_reducible refine get_hit ?_); exact Nat.le_of_ble_eq_true (by kernel_rfl)) | ((with_reducible refine (get_miss ?_).trans ?_); (focus kernel_rfl)) | ((with_reducible refine (get_pmiss ?_).trans ?_); (focus kernel_rfl)))); all_goals (conv => lhs; whnf; arg 1; whnf)) _ Try.underlying3 rfl ?_) | (refine wpList_kn_loadW KN (by rfl) 33 _ rfl _ rfl _ _ (by repeat (first | exact Has.here | refine Has.there ?_)) _ Try.underlying33 rfl (by kernel_rfl) ?_)) | ((refine gate_store (by rfl) ?_); first | (refine wpList_kn_storeW KN (by rfl) 35 _ _ rfl _ rfl _ rfl _ _ (by repeat (first | exact Repl.here | apply Repl.there)) (by kernel_rfl) (by kernel_rfl) (by kernel_rfl) ?_; clear KN; intro wx KN) | (refine wpList_kn_storeA KN (by rfl) 35 _ _ rfl _ _ rfl _ rfl _ _ (by repeat (first | exact Repl.here | apply Repl.there)) (by (try simp only [Array.size_setIfInBounds, putL_size]); first | exact Nat.le_of_ble_eq_true rfl | (simp; omega)) (by kernel_rfl) (by kernel_rfl) ?_; clear KN; intro wx KN) | (refine wpList_kn_storeW KN (by rfl) 33 _ _ rfl _ rfl _ rfl _ _ (by repeat (first | exact Repl.here | apply Repl.there)) (by kernel_rfl) (by kernel_rfl) (by kernel_rfl) ?_; clear KN; intro wx KN) | (refine wpList_kn_storeA KN (by rfl) 33 _ _ rfl _ _ rfl _ rfl _ _ (by repeat (first | exact Repl.here | apply Repl.there)) (by (try simp only [Array.size_setIfInBounds, putL_size]); first | exact Nat.le_of_ble_eq_true rfl | (simp; omega)) (by kernel_rfl) (by kernel_rfl) ?_; clear KN; intro wx KN)) | ((refine gate_new (by rfl) ?_); first | (refine wpList_kn_boxA KN (by rfl) 35 _ rfl 2 rfl _ rfl ?_; clear KN; intro g2 wx hg2 KN) | (refine wpList_kn_alloc KN (by rfl) 35 rfl 4 rfl Vm.zero.cells (by kernel_rfl) ?_; clear KN; intro g4 wx hg4 KN) | (refine wpList_kn_alloc KN (by rfl) 33 rfl 5 rfl Eff.none.cells (by kernel_rfl) ?_; clear KN; intro g5 wx hg5 KN) | (refine wpList_built rfl 35 #[] rfl Vm.zero.cells (by kernel_rfl) ?_) | (refine wpList_built rfl 33 #[] rfl Eff.none.cells (by kernel_rfl) ?_) | (refine wpList_kn_alloc KN (by rfl) 35 rfl 8 rfl Vm.zero.cells (by kernel_rfl) ?_; clear KN; intro g8 wx hg8 KN) | (refine wpList_kn_alloc KN (by rfl) 33 rfl 9 rfl Eff.none.cells (by kernel_rfl) ?_; clear KN; intro g9 wx hg9 KN))))
  replace KN := KN.drew
  refine wp_region_held_drew (S := (fun w' => BlkT w' g8 r.1.cells 35 ∧ BlkT w' g9 r.2.cells 33)) (by kernel_rfl) ?qhS (fun hHeld => ?qrest)
  case qhS => exact ⟨KN.at_ (by repeat (first | exact Has.here | refine Has.there ?_)), KN.at_ (by repeat (first | exact Has.here | refine Has.there ?_))⟩
  refine wpAnyH_take (i := 0) (oi := ⟨some 29, _, _, _, _, _⟩) (v := (.agg r.1.cells)) rfl (by kernel_rfl) (by kernel_rfl) (by kernel_rfl) (fun _ _ _ h => h) (kn_yieldsN (by rfl) 35 _ rfl g8 0 rfl _ 35 (fun _ h => h.1) _ (extract_whole _) _ Try.underlying35 rfl vm_size) hHeld ?qr0
  (try simp only [Act.put, List.setIfInBounds_toArray, List.set_cons_zero, List.set_cons_succ])
  refine wpAnyH_take (i := 1) (oi := ⟨some 30, _, _, _, _, _⟩) (v := (.agg r.2.cells)) rfl (by kernel_rfl) (by kernel_rfl) (by kernel_rfl) (fun _ _ _ h => h) (kn_yieldsN (by rfl) 33 _ rfl g9 0 rfl _ 33 (fun _ h => h.2) _ (extract_whole _) _ Try.underlying33 rfl eff_size) hHeld ?qr1
  (try simp only [Act.put, List.setIfInBounds_toArray, List.set_cons_zero, List.set_cons_succ])
  refine wpAnyH_ready (rs := [2]) (by kernel_rfl) (by simp) ?qc2
  refine AllReadyH.cons (o := ⟨none, _, _, _, _, _⟩) rfl (fun K hK => ?qst2) AllReadyH.nil
  (rw [if_pos (by rfl)]; refine wp_kn_storeW KN 35 _ _ rfl _ rfl _ rfl _ _ (by repeat (first | exact Repl.here | apply Repl.there)) (by kernel_rfl) (by kernel_rfl) (by kernel_rfl) ?_; clear KN; intro wx KN)
  refine hK.out _ _ ?qk2 (fun hHeld2 => ?qm2)
  case qk2 => exact ⟨KN.at_ (by repeat (first | exact Has.here | refine Has.there ?_)), KN.at_ (by repeat (first | exact Has.here | refine Has.there ?_))⟩
  clear hK K hHeld
  have hHeld := hHeld2; clear hHeld2
  (try simp only [Act.put, List.setIfInBounds_toArray, List.set_cons_zero, List.set_cons_succ])
  refine wpAnyH_ready (rs := [3]) (by kernel_rfl) (by simp) ?qc3
  refine AllReadyH.cons (o := ⟨none, _, _, _, _, _⟩) rfl (fun K hK => ?qst3) AllReadyH.nil
  (rw [if_pos (by rfl)]; refine wp_kn_storeW KN 33 _ _ rfl _ rfl _ rfl _ _ (by repeat (first | exact Repl.here | apply Repl.there)) (by kernel_rfl) (by kernel_rfl) (by kernel_rfl) ?_; clear KN; intro wx KN)
  refine hK.out _ _ ?qk3 (fun hHeld2 => ?qm3)
  case qk3 => exact ⟨KN.at_ (by repeat (first | exact Has.here | refine Has.there ?_)), KN.at_ (by repeat (first | exact Has.here | refine Has.there ?_))⟩
  clear hK K hHeld
  have hHeld := hHeld2; clear hHeld2
  (try simp only [Act.put, List.setIfInBounds_toArray, List.set_cons_zero, List.set_cons_succ])
  refine wpAnyH_take (i := 4) (oi := ⟨some 6, _, _, _, _, _⟩) (v := ?qv4) rfl (by kernel_rfl) (by kernel_rfl) (by kernel_rfl) (fun _ _ _ h => h) (Or.inl ⟨by rfl, ?qhy4⟩) hHeld ?qr4
  case qhy4 => (intro w hSw; (try dsimp only at hSw); go_simp; (try with_reducible rfl))
  (try simp only [Act.put, List.setIfInBounds_toArray, List.set_cons_zero, List.set_cons_succ])
  refine wpAnyH_done (by kernel_rfl) ?qdone _
  clear hHeld
  go_wp2_with fail
  exact bodyPost_ret (results_cct Try.results17 _ _ _ _ r.1.cells r.2.cells _ rfl (load_vm (KN.at_ (by repeat (first | exact Has.here | refine Has.there ?_)))) rfl (load_eff (KN.at_ (by repeat (first | exact Has.here | refine Has.there ?_)))) rfl) rfl ⟨rfl, KN.toBelow⟩
theorem RStep_any (v : Vm) (va : Value) (p : List Ins) (w : World) (ht : v.typed) (hp : Instrs w va p) :
    Calls Try.prog 17 #[.agg v.cells, va] w fun en w' => en = .returned (stepVal (stepRes v p)) ∧ Below w.heap.size w w' := by
  by_cases h : checkE v p 0 = 0
  · rw [stepRes_ok h]; exact RStep_ok v va p w ht hp h
  · rw [stepRes_no h]; exact RStep_no v va p w ht hp h
end Go.Proofs.Ytbllialcfmpkaaa
