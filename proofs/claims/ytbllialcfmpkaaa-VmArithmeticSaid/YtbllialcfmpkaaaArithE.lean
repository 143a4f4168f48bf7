/- The arithmetic law, some of its cases. (Printed by gen_arith.py.) -/
import Derived.Test.YtbllialcfmpkaaaArithPlain
set_option linter.unusedVariables false
set_option linter.unusedSimpArgs false
set_option linter.unusedSectionVars false
namespace Go.Proofs.Ytbllialcfmpkaaa
open Go.RowKit
set_option maxRecDepth 100000 in
set_option maxHeartbeats 4000000 in
theorem arith39_div0 (b0 c0 op b c : Int) (w : World) (hb : b = b0 % 549755813888) (hc : c = c0 % 549755813888) (x0 : 0 ≤ b0) (x1 : b0 ≤ 18446744073709551615) (y0 : 0 ≤ c0) (y1 : c0 ≤ 18446744073709551615) (hop : op % 10 = 3) (p0 : -9223372036854775808 ≤ op) (p1 : op ≤ 9223372036854775807) (hz : c = 0) :
    Calls Try.prog 4 #[.bool true, .int .u64 b0, .int .u64 c0, .int .i64 op] w fun e w' => e = .returned (.bool true) ∧ Below w.heap.size w w' := by
  have KN := Kn.start w
  have mb := mask39 b0 x0 x1
  have mc := mask39 c0 y0 y1
  rw [← hb] at mb
  rw [← hc] at mc
  have bb0 : 0 ≤ b := by omega
  have bb1 : b < 549755813888 := by omega
  have cc0 : 0 ≤ c := by omega
  have cc1 : c < 549755813888 := by omega
  have HJ := Lib.hid hop
  clear hb hc hop
  subst hz
  go_enter Try.func4, Try.ntmps4
  go_wp2_with (first | (go_at_call 12; refine (Place_any _ _ _ p0 p1 (by decide) (by decide)).mono ?_; rintro e w' ⟨rfl, rfl⟩; rw [HJ.out]) | (go_at_call 13; refine (Step_arith0 39 b 7 g51 _ (by decide) bb0 bb1 (by decide) (KN.at_ (by repeat (first | exact Has.here | refine Has.there ?_)))).mono ?_; rintro e wx ⟨rfl, hb1⟩; replace KN := KN.below hb1; clear hb1) | (go_at_call 14; refine (Signed_any _ _ _ bb0 (by omega)).mono ?_; rintro e w' ⟨rfl, rfl⟩) | (go_at_call 9; refine (awake_any _).mono ?_; rintro e wx ⟨rfl, hb1⟩; replace KN := KN.below hb1; clear hb1) | ((with_reducible refine wpList_gate ?_); first | (refine wpList_kn_lit KN rfl 25 29 1 _ rfl 51 rfl Try.underlying25 (cellsOf (pK 7)) (by kernel_rfl) ?_; clear KN; intro g51 wx hg51 KN) | ((refine gate_load (by rfl) ?_); first | (refine wpList_kn_loadN KN (by rfl) 35 (.tmp 12) rfl g12 0 rfl _ _ (by repeat (first | exact Has.here | refine Has.there ?_)) (xA 39 0 0 0 0 b 0) (by kernel_rfl) _ Try.underlying35 rfl (by kernel_rfl) ?_) | (refine wpList_kn_loadW KN (by rfl) 35 _ rfl _ rfl _ _ (by repeat (first | exact Has.here | refine Has.there ?_)) _ Try.underlying35 rfl (by kernel_rfl) ?_) | (refine wpList_kn_load1 KN (by rfl) 3 _ rfl _ _ rfl _ _ (by repeat (first | exact Has.here | refine Has.there ?_)) _ (by (repeat (first | ((with_reducible refine get_hit ?_); exact Nat.le_of_ble_eq_true (by kernel_rfl)) | ((with_reducible refine (get_miss ?_).trans ?_); (focus kernel_rfl)) | ((with_reducible refine (get_pmiss ?_).trans ?_); (focus kernel_rfl)))); all_goals (conv => lhs; whnf; arg 1; whnf)) _ Try.underlying3 rfl ?_) | (refine wpList_kn_load1 KN (by rfl) 30 _ rfl _ _ rfl _ _ (by repeat (first | exact Has.here | refine Has.there ?_)) _ (by (repeat (first | ((with_reducible refine get_hit ?_); exact Nat.le_of_ble_eq_true (by kernel_rfl)) | ((with_reducible refine (get_miss ?_).trans ?_); (focus kernel_rfl)) | ((with_reducible refine (get_pmiss ?_).trans ?_); (focus kernel_rfl)))); all_goals (conv => lhs; whnf; arg 1; whnf)) _ Try.underlying30 rfl ?_) | (refine wpList_kn_loadW KN (by rfl) 33 _ rfl _ rfl _ _ (by repeat (first | exact Has.here | refine Has.there ?_)) _ Try.underlying33 rfl (by kernel_rfl) ?_)) | ((refine gate_store (by rfl) ?_); first | (refine wpList_kn_storeW KN (by rfl) 35 _ _ rfl _ rfl _ rfl _ _ (by repeat (first | exact Repl.here | apply Repl.there)) (by kernel_rfl) (by kernel_rfl) (by kernel_rfl) ?_; clear KN; intro wx KN) | (refine wpList_kn_storeA KN (by rfl) 35 _ _ rfl _ _ rfl _ rfl _ _ (by repeat (first | exact Repl.here | apply Repl.there)) (by (try simp only [Array.size_setIfInBounds, putL_size]); first | exact Nat.le_of_ble_eq_true rfl | (simp; omega)) (by kernel_rfl) (by kernel_rfl) ?_; clear KN; intro wx KN) | (refine wpList_kn_store1 KN (by rfl) 30 _ _ rfl _ _ rfl _ (by conv => lhs; whnf) (by rfl) _ _ (by repeat (first | exact Repl.here | apply Repl.there)) (by (try simp only [Array.size_setIfInBounds, putL_size]); first | exact Nat.le_of_ble_eq_true rfl | (simp; omega)) (by kernel_rfl) (by rfl) ?_; clear KN; intro wx KN) | (refine wpList_kn_storeW KN (by rfl) 33 _ _ rfl _ rfl _ rfl _ _ (by repeat (first | exact Repl.here | apply Repl.there)) (by kernel_rfl) (by kernel_rfl) (by kernel_rfl) ?_; clear KN; intro wx KN) | (refine wpList_kn_storeA KN (by rfl) 33 _ _ rfl _ _ rfl _ rfl _ _ (by repeat (first | exact Repl.here | apply Repl.there)) (by (try simp only [Array.size_setIfInBounds, putL_size]); first | exact Nat.le_of_ble_eq_true rfl | (simp; omega)) (by kernel_rfl) (by kernel_rfl) ?_; clear KN; intro wx KN)) | ((refine gate_new (by rfl) ?_); first | (refine wpList_built rfl 35 #[(0, _)] rfl (xA 39 0 0 0 0 0 0) (by kernel_rfl) ?_) | (refine wpList_built rfl 29 _ rfl (Ins.mk 7 1 2 3 0).cells (by kernel_rfl) ?_) | (refine wpList_kn_alloc KN (by rfl) 35 rfl 12 rfl Vm.zero.cells (by kernel_rfl) ?_; clear KN; intro g12 wx hg12 KN) | (refine wpList_kn_alloc KN (by rfl) 35 rfl 13 rfl Vm.zero.cells (by kernel_rfl) ?_; clear KN; intro g13 wx hg13 KN) | (refine wpList_kn_alloc KN (by rfl) 33 rfl 14 rfl Eff.none.cells (by kernel_rfl) ?_; clear KN; intro g14 wx hg14 KN) | (refine wpList_built rfl 33 #[] rfl Eff.none.cells (by kernel_rfl) ?_)) | ((refine gate_cmp (by rfl) ?_); first | (refine wpList_kn_neq (by rfl) 33 _ _ _ rfl _ rfl rfl (by kernel_rfl) (by kernel_rfl) ?_))))
  go_ret
  exact ⟨rfl, KN.toBelow⟩
set_option maxRecDepth 100000 in
set_option maxHeartbeats 4000000 in
theorem arith39_rem (b0 c0 op b c : Int) (w : World) (hb : b = b0 % 549755813888) (hc : c = c0 % 549755813888) (x0 : 0 ≤ b0) (x1 : b0 ≤ 18446744073709551615) (y0 : 0 ≤ c0) (y1 : c0 ≤ 18446744073709551615) (hop : op % 10 = 4) (p0 : -9223372036854775808 ≤ op) (p1 : op ≤ 9223372036854775807) (hz : ¬ c = 0) :
    Calls Try.prog 4 #[.bool true, .int .u64 b0, .int .u64 c0, .int .i64 op] w fun e w' => e = .returned (.bool true) ∧ Below w.heap.size w w' := by
  have KN := Kn.start w
  have mb := mask39 b0 x0 x1
  have mc := mask39 c0 y0 y1
  rw [← hb] at mb
  rw [← hc] at mc
  have bb0 : 0 ≤ b := by omega
  have bb1 : b < 549755813888 := by omega
  have cc0 : 0 ≤ c := by omega
  have cc1 : c < 549755813888 := by omega
  have HJ := Lib.hid hop
  clear hb hc hop
  obtain ⟨r, hr⟩ : ∃ r, r = compute 39 8 0 b c 0 % pw2 39 := ⟨_, rfl⟩
  have rr0 : 0 ≤ r := by rw [hr]; exact Int.emod_nonneg _ (by decide)
  have rr1 : r < 549755813888 := by rw [hr]; exact Int.emod_lt_of_pos _ (pw2_pos 39).1
  have hr2 := ar39_rem b c r bb0 bb1 cc0 cc1 hz hr
  obtain ⟨f1, f2, f3⟩ := hr2
  obtain ⟨sg, hsg⟩ : ∃ sg, sg = signed 39 b := ⟨_, rfl⟩
  have hs1 := sgn39_a b bb0 bb1
  have hs2 := sgn39_b b bb0 bb1
  rw [← hsg] at hs1 hs2
  have HSG := Lib.hid hsg
  have HR := Lib.hid hr
  clear hsg hr
  have d0 : decide (549755813887 < r) = false := by simp; omega
  have d1 : decide (r < c) = true := by simp; omega
  have d2 : decide (r ≤ b) = true := by simp; omega
  have zb : (c == 0) = false := by rw [beq_eq_false_iff_ne]; exact hz
  have HZ := Lib.hid hz
  clear hz
  go_enter Try.func4, Try.ntmps4
  go_wp2_with (first | (go_at_call 12; refine (Place_any _ _ _ p0 p1 (by decide) (by decide)).mono ?_; rintro e w' ⟨rfl, rfl⟩; rw [HJ.out]) | (go_at_call 13; refine (Step_arith 39 b c 8 r g51 _ (by decide) bb0 bb1 cc0 cc1 (by decide) (by decide) (fun q => HZ.out q.2) HR.out (KN.at_ (by repeat (first | exact Has.here | refine Has.there ?_)))).mono ?_; rintro e wx ⟨rfl, hb1⟩; replace KN := KN.below hb1; clear hb1) | (go_at_call 14; refine (Signed_any _ _ _ bb0 (by omega)).mono ?_; rintro e w' ⟨rfl, rfl⟩; rw [← HSG.out]) | (go_at_call 9; refine (awake_any _).mono ?_; rintro e wx ⟨rfl, hb1⟩; replace KN := KN.below hb1; clear hb1) | ((with_reducible refine wpList_gate ?_); first | (refine wpList_kn_lit KN rfl 25 29 1 _ rfl 51 rfl Try.underlying25 (cellsOf (pK 8)) (by kernel_rfl) ?_; clear KN; intro g51 wx hg51 KN) | ((refine gate_load (by rfl) ?_); first | (refine wpList_kn_loadN KN (by rfl) 35 (.tmp 12) rfl g12 0 rfl _ _ (by repeat (first | exact Has.here | refine Has.there ?_)) (xA 39 0 0 0 0 b c) (by kernel_rfl) _ Try.underlying35 rfl (by kernel_rfl) ?_) | (refine wpList_kn_loadW KN (by rfl) 35 _ rfl _ rfl _ _ (by repeat (first | exact Has.here | refine Has.there ?_)) _ Try.underlying35 rfl (by kernel_rfl) ?_) | (refine wpList_kn_load1 KN (by rfl) 3 _ rfl _ _ rfl _ _ (by repeat (first | exact Has.here | refine Has.there ?_)) _ (by (repeat (first | ((with_reducible refine get_hit ?_); exact Nat.le_of_ble_eq_true (by kernel_rfl)) | ((with_reducible refine (get_miss ?_).trans ?_); (focus kernel_rfl)) | ((with_reducible refine (get_pmiss ?_).trans ?_); (focus kernel_rfl)))); all_goals (conv => lhs; whnf; arg 1; whnf)) _ Try.underlying3 rfl ?_) | (refine wpList_kn_load1 KN (by rfl) 30 _ rfl _ _ rfl _ _ (by repeat (first | exact Has.here | refine Has.there ?_)) _ (by (repeat (first | ((with_reducible refine get_hit ?_); exact Nat.le_of_ble_eq_true (by kernel_rfl)) | ((with_reducible refine (get_miss ?_).trans ?_); (focus kernel_rfl)) | ((with_reducible refine (get_pmiss ?_).trans ?_); (focus kernel_rfl)))); all_goals (conv => lhs; whnf; arg 1; whnf)) _ Try.underlying30 rfl ?_) | (refine wpList_kn_loadW KN (by rfl) 33 _ rfl _ rfl _ _ (by repeat (first | exact Has.here | refine Has.there ?_)) _ Try.underlying33 rfl (by kernel_rfl) ?_)) | ((refine gate_store (by rfl) ?_); first | (refine wpList_kn_storeW KN (by rfl) 35 _ _ rfl _ rfl _ rfl _ _ (by repeat (first | exact Repl.here | apply Repl.there)) (by kernel_rfl) (by kernel_rfl) (by kernel_rfl) ?_; clear KN; intro wx KN) | (refine wpList_kn_storeA KN (by rfl) 35 _ _ rfl _ _ rfl _ rfl _ _ (by repeat (first | exact Repl.here | apply Repl.there)) (by (try simp only [Array.size_setIfInBounds, putL_size]); first | exact Nat.le_of_ble_eq_true rfl | (simp; omega)) (by kernel_rfl) (by kernel_rfl) ?_; clear KN; intro wx KN) | (refine wpList_kn_store1 KN (by rfl) 30 _ _ rfl _ _ rfl _ (by conv => lhs; whnf) (by rfl) _ _ (by repeat (first | exact Repl.here | apply Repl.there)) (by (try simp only [Array.size_setIfInBounds, putL_size]); first | exact Nat.le_of_ble_eq_true rfl | (simp; omega)) (by kernel_rfl) (by rfl) ?_; clear KN; intro wx KN) | (refine wpList_kn_storeW KN (by rfl) 33 _ _ rfl _ rfl _ rfl _ _ (by repeat (first | exact Repl.here | apply Repl.there)) (by kernel_rfl) (by kernel_rfl) (by kernel_rfl) ?_; clear KN; intro wx KN) | (refine wpList_kn_storeA KN (by rfl) 33 _ _ rfl _ _ rfl _ rfl _ _ (by repeat (first | exact Repl.here | apply Repl.there)) (by (try simp only [Array.size_setIfInBounds, putL_size]); first | exact Nat.le_of_ble_eq_true rfl | (simp; omega)) (by kernel_rfl) (by kernel_rfl) ?_; clear KN; intro wx KN)) | ((refine gate_new (by rfl) ?_); first | (refine wpList_built rfl 35 #[(0, _)] rfl (xA 39 0 0 0 0 0 0) (by kernel_rfl) ?_) | (refine wpList_built rfl 29 _ rfl (Ins.mk 8 1 2 3 0).cells (by kernel_rfl) ?_) | (refine wpList_kn_alloc KN (by rfl) 35 rfl 12 rfl Vm.zero.cells (by kernel_rfl) ?_; clear KN; intro g12 wx hg12 KN) | (refine wpList_kn_alloc KN (by rfl) 35 rfl 13 rfl Vm.zero.cells (by kernel_rfl) ?_; clear KN; intro g13 wx hg13 KN) | (refine wpList_kn_alloc KN (by rfl) 33 rfl 14 rfl Eff.none.cells (by kernel_rfl) ?_; clear KN; intro g14 wx hg14 KN) | (refine wpList_built rfl 33 #[] rfl Eff.none.cells (by kernel_rfl) ?_)) | ((refine gate_cmp (by rfl) ?_); first | (refine wpList_kn_neq (by rfl) 33 _ _ _ rfl _ rfl rfl (by kernel_rfl) (by kernel_rfl) ?_))))
  go_ret
  exact ⟨rfl, KN.toBelow⟩
set_option maxRecDepth 100000 in
set_option maxHeartbeats 4000000 in
theorem arith39_rem0 (b0 c0 op b c : Int) (w : World) (hb : b = b0 % 549755813888) (hc : c = c0 % 549755813888) (x0 : 0 ≤ b0) (x1 : b0 ≤ 18446744073709551615) (y0 : 0 ≤ c0) (y1 : c0 ≤ 18446744073709551615) (hop : op % 10 = 4) (p0 : -9223372036854775808 ≤ op) (p1 : op ≤ 9223372036854775807) (hz : c = 0) :
    Calls Try.prog 4 #[.bool true, .int .u64 b0, .int .u64 c0, .int .i64 op] w fun e w' => e = .returned (.bool true) ∧ Below w.heap.size w w' := by
  have KN := Kn.start w
  have mb := mask39 b0 x0 x1
  have mc := mask39 c0 y0 y1
  rw [← hb] at mb
  rw [← hc] at mc
  have bb0 : 0 ≤ b := by omega
  have bb1 : b < 549755813888 := by omega
  have cc0 : 0 ≤ c := by omega
  have cc1 : c < 549755813888 := by omega
  have HJ := Lib.hid hop
  clear hb hc hop
  subst hz
  go_enter Try.func4, Try.ntmps4
  go_wp2_with (first | (go_at_call 12; refine (Place_any _ _ _ p0 p1 (by decide) (by decide)).mono ?_; rintro e w' ⟨rfl, rfl⟩; rw [HJ.out]) | (go_at_call 13; refine (Step_arith0 39 b 8 g51 _ (by decide) bb0 bb1 (by decide) (KN.at_ (by repeat (first | exact Has.here | refine Has.there ?_)))).mono ?_; rintro e wx ⟨rfl, hb1⟩; replace KN := KN.below hb1; clear hb1) | (go_at_call 14; refine (Signed_any _ _ _ bb0 (by omega)).mono ?_; rintro e w' ⟨rfl, rfl⟩) | (go_at_call 9; refine (awake_any _).mono ?_; rintro e wx ⟨rfl, hb1⟩; replace KN := KN.below hb1; clear hb1) | ((with_reducible refine wpList_gate ?_); first | (refine wpList_kn_lit KN rfl 25 29 1 _ rfl 51 rfl Try.underlying25 (cellsOf (pK 8)) (by kernel_rfl) ?_; clear KN; intro g51 wx hg51 KN) | ((refine gate_load (by rfl) ?_); first | (refine wpList_kn_loadN KN (by rfl) 35 (.tmp 12) rfl g12 0 rfl _ _ (by repeat (first | exact Has.here | refine Has.there ?_)) (xA 39 0 0 0 0 b 0) (by kernel_rfl) _ Try.underlying35 rfl (by kernel_rfl) ?_) | (refine wpList_kn_loadW KN (by rfl) 35 _ rfl _ rfl _ _ (by repeat (first | exact Has.here | refine Has.there ?_)) _ Try.underlying35 rfl (by kernel_rfl) ?_) | (refine wpList_kn_load1 KN (by rfl) 3 _ rfl _ _ rfl _ _ (by repeat (first | exact Has.here | refine Has.there ?_)) _ (by (repeat (first | ((with_reducible refine get_hit ?_); exact Nat.le_of_ble_eq_true (by kernel_rfl)) | ((with_reducible refine (get_miss ?_).trans ?_); (focus kernel_rfl)) | ((with_reducible refine (get_pmiss ?_).trans ?_); (focus kernel_rfl)))); all_goals (conv => lhs; whnf; arg 1; whnf)) _ Try.underlying3 rfl ?_) | (refine wpList_kn_load1 KN (by rfl) 30 _ rfl _ _ rfl _ _ (by repeat (first | exact Has.here | refine Has.there ?_)) _ (by (repeat (first | ((with_reducible refine get_hit ?_); exact Nat.le_of_ble_eq_true (by kernel_rfl)) | ((with_reducible refine (get_miss ?_).trans ?_); (focus kernel_rfl)) | ((with_reducible refine (get_pmiss ?_).trans ?_); (focus kernel_rfl)))); all_goals (conv => lhs; whnf; arg 1; whnf)) _ Try.underlying30 rfl ?_) | (refine wpList_kn_loadW KN (by rfl) 33 _ rfl _ rfl _ _ (by repeat (first | exact Has.here | refine Has.there ?_)) _ Try.underlying33 rfl (by kernel_rfl) ?_)) | ((refine gate_store (by rfl) ?_); first | (refine wpList_kn_storeW KN (by rfl) 35 _ _ rfl _ rfl _ rfl _ _ (by repeat (first | exact Repl.here | apply Repl.there)) (by kernel_rfl) (by kernel_rfl) (by kernel_rfl) ?_; clear KN; intro wx KN) | (refine wpList_kn_storeA KN (by rfl) 35 _ _ rfl _ _ rfl _ rfl _ _ (by repeat (first | exact Repl.here | apply Repl.there)) (by (try simp only [Array.size_setIfInBounds, putL_size]); first | exact Nat.le_of_ble_eq_true rfl | (simp; omega)) (by kernel_rfl) (by kernel_rfl) ?_; clear KN; intro wx KN) | (refine wpList_kn_store1 KN (by rfl) 30 _ _ rfl _ _ rfl _ (by conv => lhs; whnf) (by rfl) _ _ (by repeat (first | exact Repl.here | apply Repl.there)) (by (try simp only [Array.size_setIfInBounds, putL_size]); first | exact Nat.le_of_ble_eq_true rfl | (simp; omega)) (by kernel_rfl) (by rfl) ?_; clear KN; intro wx KN) | (refine wpList_kn_storeW KN (by rfl) 33 _ _ rfl _ rfl _ rfl _ _ (by repeat (first | exact Repl.here | apply Repl.there)) (by kernel_rfl) (by kernel_rfl) (by kernel_rfl) ?_; clear KN; intro wx KN) | (refine wpList_kn_storeA KN (by rfl) 33 _ _ rfl _ _ rfl _ rfl _ _ (by repeat (first | exact Repl.here | apply Repl.there)) (by (try simp only [Array.size_setIfInBounds, putL_size]); first | exact Nat.le_of_ble_eq_true rfl | (simp; omega)) (by kernel_rfl) (by kernel_rfl) ?_; clear KN; intro wx KN)) | ((refine gate_new (by rfl) ?_); first | (refine wpList_built rfl 35 #[(0, _)] rfl (xA 39 0 0 0 0 0 0) (by kernel_rfl) ?_) | (refine wpList_built rfl 29 _ rfl (Ins.mk 8 1 2 3 0).cells (by kernel_rfl) ?_) | (refine wpList_kn_alloc KN (by rfl) 35 rfl 12 rfl Vm.zero.cells (by kernel_rfl) ?_; clear KN; intro g12 wx hg12 KN) | (refine wpList_kn_alloc KN (by rfl) 35 rfl 13 rfl Vm.zero.cells (by kernel_rfl) ?_; clear KN; intro g13 wx hg13 KN) | (refine wpList_kn_alloc KN (by rfl) 33 rfl 14 rfl Eff.none.cells (by kernel_rfl) ?_; clear KN; intro g14 wx hg14 KN) | (refine wpList_built rfl 33 #[] rfl Eff.none.cells (by kernel_rfl) ?_)) | ((refine gate_cmp (by rfl) ?_); first | (refine wpList_kn_neq (by rfl) 33 _ _ _ rfl _ rfl rfl (by kernel_rfl) (by kernel_rfl) ?_))))
  go_ret
  exact ⟨rfl, KN.toBelow⟩
set_option maxRecDepth 100000 in
set_option maxHeartbeats 4000000 in
theorem arith39_and (b0 c0 op b c : Int) (w : World) (hb : b = b0 % 549755813888) (hc : c = c0 % 549755813888) (x0 : 0 ≤ b0) (x1 : b0 ≤ 18446744073709551615) (y0 : 0 ≤ c0) (y1 : c0 ≤ 18446744073709551615) (hop : op % 10 = 5) (p0 : -9223372036854775808 ≤ op) (p1 : op ≤ 9223372036854775807) :
    Calls Try.prog 4 #[.bool true, .int .u64 b0, .int .u64 c0, .int .i64 op] w fun e w' => e = .returned (.bool true) ∧ Below w.heap.size w w' := by
  have KN := Kn.start w
  have mb := mask39 b0 x0 x1
  have mc := mask39 c0 y0 y1
  rw [← hb] at mb
  rw [← hc] at mc
  have bb0 : 0 ≤ b := by omega
  have bb1 : b < 549755813888 := by omega
  have cc0 : 0 ≤ c := by omega
  have cc1 : c < 549755813888 := by omega
  have HJ := Lib.hid hop
  clear hb hc hop
  obtain ⟨r, hr⟩ : ∃ r, r = compute 39 9 0 b c 0 % pw2 39 := ⟨_, rfl⟩
  have rr0 : 0 ≤ r := by rw [hr]; exact Int.emod_nonneg _ (by decide)
  have rr1 : r < 549755813888 := by rw [hr]; exact Int.emod_lt_of_pos _ (pw2_pos 39).1
  have hr2 := ar39_and b c r bb0 bb1 cc0 cc1 hr
  obtain ⟨o, f1, f2, f3, f4, f5, f6⟩ := hr2
  obtain ⟨sg, hsg⟩ : ∃ sg, sg = signed 39 b := ⟨_, rfl⟩
  have hs1 := sgn39_a b bb0 bb1
  have hs2 := sgn39_b b bb0 bb1
  rw [← hsg] at hs1 hs2
  have HSG := Lib.hid hsg
  have HR := Lib.hid hr
  clear hsg hr
  have d0 : decide (549755813887 < r) = false := by simp; omega
  go_enter Try.func4, Try.ntmps4
  go_wp2_with (first | (go_at_call 12; refine (Place_any _ _ _ p0 p1 (by decide) (by decide)).mono ?_; rintro e w' ⟨rfl, rfl⟩; rw [HJ.out]) | (go_at_call 13; refine (Step_arith 39 b c 9 r g51 _ (by decide) bb0 bb1 cc0 cc1 (by decide) (by decide) (fun q => by omega) HR.out (KN.at_ (by repeat (first | exact Has.here | refine Has.there ?_)))).mono ?_; rintro e wx ⟨rfl, hb1⟩; replace KN := KN.below hb1; clear hb1) | (go_at_call 14; refine (Signed_any _ _ _ bb0 (by omega)).mono ?_; rintro e w' ⟨rfl, rfl⟩; rw [← HSG.out]) | (go_at_call 9; refine (awake_any _).mono ?_; rintro e wx ⟨rfl, hb1⟩; replace KN := KN.below hb1; clear hb1) | ((with_reducible refine wpList_gate ?_); first | (refine wpList_kn_lit KN rfl 25 29 1 _ rfl 51 rfl Try.underlying25 (cellsOf (pK 9)) (by kernel_rfl) ?_; clear KN; intro g51 wx hg51 KN) | ((refine gate_load (by rfl) ?_); first | (refine wpList_kn_loadN KN (by rfl) 35 (.tmp 12) rfl g12 0 rfl _ _ (by repeat (first | exact Has.here | refine Has.there ?_)) (xA 39 0 0 0 0 b c) (by kernel_rfl) _ Try.underlying35 rfl (by kernel_rfl) ?_) | (refine wpList_kn_loadW KN (by rfl) 35 _ rfl _ rfl _ _ (by repeat (first | exact Has.here | refine Has.there ?_)) _ Try.underlying35 rfl (by kernel_rfl) ?_) | (refine wpList_kn_load1 KN (by rfl) 3 _ rfl _ _ rfl _ _ (by repeat (first | exact Has.here | refine Has.there ?_)) _ (by (repeat (first | ((with_reducible refine get_hit ?_); exact Nat.le_of_ble_eq_true (by kernel_rfl)) | ((with_reducible refine (get_miss ?_).trans ?_); (focus kernel_rfl)) | ((with_reducible refine (get_pmiss ?_).trans ?_); (focus kernel_rfl)))); all_goals (conv => lhs; whnf; arg 1; whnf)) _ Try.underlying3 rfl ?_) | (refine wpList_kn_load1 KN (by rfl) 30 _ rfl _ _ rfl _ _ (by repeat (first | exact Has.here | refine Has.there ?_)) _ (by (repeat (first | ((with_reducible refine get_hit ?_); exact Nat.le_of_ble_eq_true (by kernel_rfl)) | ((with_reducible refine (get_miss ?_).trans ?_); (focus kernel_rfl)) | ((with_reducible refine (get_pmiss ?_).trans ?_); (focus kernel_rfl)))); all_goals (conv => lhs; whnf; arg 1; whnf)) _ Try.underlying30 rfl ?_) | (refine wpList_kn_loadW KN (by rfl) 33 _ rfl _ rfl _ _ (by repeat (first | exact Has.here | refine Has.there ?_)) _ Try.underlying33 rfl (by kernel_rfl) ?_)) | ((refine gate_store (by rfl) ?_); first | (refine wpList_kn_storeW KN (by rfl) 35 _ _ rfl _ rfl _ rfl _ _ (by repeat (first | exact Repl.here | apply Repl.there)) (by kernel_rfl) (by kernel_rfl) (by kernel_rfl) ?_; clear KN; intro wx KN) | (refine wpList_kn_storeA KN (by rfl) 35 _ _ rfl _ _ rfl _ rfl _ _ (by repeat (first | exact Repl.here | apply Repl.there)) (by (try simp only [Array.size_setIfInBounds, putL_size]); first | exact Nat.le_of_ble_eq_true rfl | (simp; omega)) (by kernel_rfl) (by kernel_rfl) ?_; clear KN; intro wx KN) | (refine wpList_kn_store1 KN (by rfl) 30 _ _ rfl _ _ rfl _ (by conv => lhs; whnf) (by rfl) _ _ (by repeat (first | exact Repl.here | apply Repl.there)) (by (try simp only [Array.size_setIfInBounds, putL_size]); first | exact Nat.le_of_ble_eq_true rfl | (simp; omega)) (by kernel_rfl) (by rfl) ?_; clear KN; intro wx KN) | (refine wpList_kn_storeW KN (by rfl) 33 _ _ rfl _ rfl _ rfl _ _ (by repeat (first | exact Repl.here | apply Repl.there)) (by kernel_rfl) (by kernel_rfl) (by kernel_rfl) ?_; clear KN; intro wx KN) | (refine wpList_kn_storeA KN (by rfl) 33 _ _ rfl _ _ rfl _ rfl _ _ (by repeat (first | exact Repl.here | apply Repl.there)) (by (try simp only [Array.size_setIfInBounds, putL_size]); first | exact Nat.le_of_ble_eq_true rfl | (simp; omega)) (by kernel_rfl) (by kernel_rfl) ?_; clear KN; intro wx KN)) | ((refine gate_new (by rfl) ?_); first | (refine wpList_built rfl 35 #[(0, _)] rfl (xA 39 0 0 0 0 0 0) (by kernel_rfl) ?_) | (refine wpList_built rfl 29 _ rfl (Ins.mk 9 1 2 3 0).cells (by kernel_rfl) ?_) | (refine wpList_kn_alloc KN (by rfl) 35 rfl 12 rfl Vm.zero.cells (by kernel_rfl) ?_; clear KN; intro g12 wx hg12 KN) | (refine wpList_kn_alloc KN (by rfl) 35 rfl 13 rfl Vm.zero.cells (by kernel_rfl) ?_; clear KN; intro g13 wx hg13 KN) | (refine wpList_kn_alloc KN (by rfl) 33 rfl 14 rfl Eff.none.cells (by kernel_rfl) ?_; clear KN; intro g14 wx hg14 KN) | (refine wpList_built rfl 33 #[] rfl Eff.none.cells (by kernel_rfl) ?_)) | ((refine gate_cmp (by rfl) ?_); first | (refine wpList_kn_neq (by rfl) 33 _ _ _ rfl _ rfl rfl (by kernel_rfl) (by kernel_rfl) ?_))))
  go_ret
  exact ⟨rfl, KN.toBelow⟩
end Go.Proofs.Ytbllialcfmpkaaa
