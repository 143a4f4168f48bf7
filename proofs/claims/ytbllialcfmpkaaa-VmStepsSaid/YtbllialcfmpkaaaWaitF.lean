/- The interpreter's and the reference's New, Fault, trap; the interpreter's checkWaiting. -/
import Derived.Test.YtbllialcfmpkaaaRunF
import Derived.Test.YtbllialcfmpkaaaKn
import Derived.Test.YtbllialcfmpkaaaRefVal2
set_option linter.unusedVariables false
set_option linter.unusedSimpArgs false
set_option linter.unusedSectionVars false
namespace Go.Proofs.Ytbllialcfmpkaaa
open Go.RowKit
def newRes (wd en : Int) : Vm × Int := if wide wd = true ∧ 0 ≤ en ∧ en ≤ 4096 then ({ Vm.zero with width := wd, pc := en }, 0) else (Vm.zero, 1)
def pairVal (r : Vm × Int) : Value := .tuple #[.agg r.1.cells, .int .i64 r.2]
set_option maxRecDepth 100000 in
theorem New_any (wd en : Int) (w : World) : Calls Try.prog 23 #[.int .i64 wd, .int .i64 en] w fun e w' => e = .returned (pairVal (newRes wd en)) ∧ Below w.heap.size w w' := by
  have h4 : (wide wd = true ∧ 0 ≤ en ∧ en ≤ 4096) ∨ wide wd = false ∨ (wide wd = true ∧ en < 0) ∨ (wide wd = true ∧ 0 ≤ en ∧ 4096 < en) := by
    cases h : wide wd
    · simp
    · simp; omega
  have KN := Kn.start w
  rcases h4 with ⟨hw, h0, h1⟩ | hw | ⟨hw, h0⟩ | ⟨hw, h0, h1⟩
  · have hr : newRes wd en = ({ Vm.zero with width := wd, pc := en }, 0) := by unfold newRes; rw [if_pos ⟨hw, h0, h1⟩]
    rw [hr]; clear hr
    go_enter Try.func23, Try.ntmps23
    go_wp2_with (first | (go_at_call 33; refine (validWidth_any wd _).mono ?_; rintro e w' ⟨rfl, rfl⟩; rw [hw]) | ((with_reducible refine wpList_gate ?_); first | (refine wpList_built rfl 35 _ rfl ({ Vm.zero with width := wd, pc := en } : Vm).cells (by kernel_rfl) ?_) | (refine wpList_kn_alloc KN (by rfl) 35 rfl 4 rfl Vm.zero.cells (by kernel_rfl) ?_; clear KN; intro g4 wx hg4 KN) | (refine wpList_built rfl 35 #[] rfl Vm.zero.cells (by kernel_rfl) ?_) | (refine wpList_kn_storeW KN (by rfl) 35 _ _ rfl _ rfl _ rfl _ _ (by repeat (first | exact Repl.here | apply Repl.there)) (by kernel_rfl) (by kernel_rfl) (by kernel_rfl) ?_; clear KN; intro wx KN) | (refine wpList_kn_storeA KN (by rfl) 35 _ _ rfl _ _ rfl _ rfl _ _ (by repeat (first | exact Repl.here | apply Repl.there)) (by first | exact Nat.le_of_ble_eq_true (by kernel_rfl) | (simp; omega)) (by kernel_rfl) (by kernel_rfl) ?_; clear KN; intro wx KN)))
    exact bodyPost_ret (results_ct Try.results23 _ _ _ ({ Vm.zero with width := wd, pc := en } : Vm).cells _ rfl (load_vm (KN.at_ (by repeat (first | exact Has.here | refine Has.there ?_)))) rfl) rfl ⟨rfl, KN.toBelow⟩
  all_goals
    have hr : newRes wd en = (Vm.zero, 1) := by
      unfold newRes; rw [if_neg]
      rintro ⟨q0, q1, q2⟩
      first | omega | (rw [hw] at q0; cases q0)
    rw [hr]; clear hr
    go_enter Try.func23, Try.ntmps23
    go_wp2_with (first | (go_at_call 33; refine (validWidth_any wd _).mono ?_; rintro e w' ⟨rfl, rfl⟩; rw [hw]) | ((with_reducible refine wpList_gate ?_); first | (refine wpList_kn_alloc KN (by rfl) 35 rfl 4 rfl Vm.zero.cells (by kernel_rfl) ?_; clear KN; intro g4 wx hg4 KN) | (refine wpList_built rfl 35 #[] rfl Vm.zero.cells (by kernel_rfl) ?_) | (refine wpList_kn_storeW KN (by rfl) 35 _ _ rfl _ rfl _ rfl _ _ (by repeat (first | exact Repl.here | apply Repl.there)) (by kernel_rfl) (by kernel_rfl) (by kernel_rfl) ?_; clear KN; intro wx KN) | (refine wpList_kn_storeA KN (by rfl) 35 _ _ rfl _ _ rfl _ rfl _ _ (by repeat (first | exact Repl.here | apply Repl.there)) (by first | exact Nat.le_of_ble_eq_true (by kernel_rfl) | (simp; omega)) (by kernel_rfl) (by kernel_rfl) ?_; clear KN; intro wx KN)))
    exact bodyPost_ret (results_ct Try.results23 _ _ _ Vm.zero.cells _ rfl (load_vm (KN.at_ (by repeat (first | exact Has.here | refine Has.there ?_)))) rfl) rfl ⟨rfl, KN.toBelow⟩
set_option maxRecDepth 100000 in
theorem RNew_any (wd en : Int) (w : World) : Calls Try.prog 24 #[.int .i64 wd, .int .i64 en] w fun e w' => e = .returned (pairVal (newRes wd en)) ∧ Below w.heap.size w w' := by
  have h4 : (wide wd = true ∧ 0 ≤ en ∧ en ≤ 4096) ∨ wide wd = false ∨ (wide wd = true ∧ en < 0) ∨ (wide wd = true ∧ 0 ≤ en ∧ 4096 < en) := by
    cases h : wide wd
    · simp
    · simp; omega
  have KN := Kn.start w
  rcases h4 with ⟨hw, h0, h1⟩ | hw | ⟨hw, h0⟩ | ⟨hw, h0, h1⟩
  · have hr : newRes wd en = ({ Vm.zero with width := wd, pc := en }, 0) := by unfold newRes; rw [if_pos ⟨hw, h0, h1⟩]
    rw [hr]; clear hr
    go_enter Try.func24, Try.ntmps24
    go_wp2_with (first | (go_at_call 41; refine (wide_any wd _).mono ?_; rintro e w' ⟨rfl, rfl⟩; rw [hw]) | ((with_reducible refine wpList_gate ?_); first | (refine wpList_built rfl 35 _ rfl ({ Vm.zero with width := wd, pc := en } : Vm).cells (by kernel_rfl) ?_) | (refine wpList_kn_alloc KN (by rfl) 35 rfl 4 rfl Vm.zero.cells (by kernel_rfl) ?_; clear KN; intro g4 wx hg4 KN) | (refine wpList_built rfl 35 #[] rfl Vm.zero.cells (by kernel_rfl) ?_) | (refine wpList_kn_storeW KN (by rfl) 35 _ _ rfl _ rfl _ rfl _ _ (by repeat (first | exact Repl.here | apply Repl.there)) (by kernel_rfl) (by kernel_rfl) (by kernel_rfl) ?_; clear KN; intro wx KN) | (refine wpList_kn_storeA KN (by rfl) 35 _ _ rfl _ _ rfl _ rfl _ _ (by repeat (first | exact Repl.here | apply Repl.there)) (by first | exact Nat.le_of_ble_eq_true (by kernel_rfl) | (simp; omega)) (by kernel_rfl) (by kernel_rfl) ?_; clear KN; intro wx KN)))
    exact bodyPost_ret (results_ct Try.results24 _ _ _ ({ Vm.zero with width := wd, pc := en } : Vm).cells _ rfl (load_vm (KN.at_ (by repeat (first | exact Has.here | refine Has.there ?_)))) rfl) rfl ⟨rfl, KN.toBelow⟩
  all_goals
    have hr : newRes wd en = (Vm.zero, 1) := by
      unfold newRes; rw [if_neg]
      rintro ⟨q0, q1, q2⟩
      first | omega | (rw [hw] at q0; cases q0)
    rw [hr]; clear hr
    go_enter Try.func24, Try.ntmps24
    go_wp2_with (first | (go_at_call 41; refine (wide_any wd _).mono ?_; rintro e w' ⟨rfl, rfl⟩; rw [hw]) | ((with_reducible refine wpList_gate ?_); first | (refine wpList_kn_alloc KN (by rfl) 35 rfl 4 rfl Vm.zero.cells (by kernel_rfl) ?_; clear KN; intro g4 wx hg4 KN) | (refine wpList_built rfl 35 #[] rfl Vm.zero.cells (by kernel_rfl) ?_) | (refine wpList_kn_storeW KN (by rfl) 35 _ _ rfl _ rfl _ rfl _ _ (by repeat (first | exact Repl.here | apply Repl.there)) (by kernel_rfl) (by kernel_rfl) (by kernel_rfl) ?_; clear KN; intro wx KN) | (refine wpList_kn_storeA KN (by rfl) 35 _ _ rfl _ _ rfl _ rfl _ _ (by repeat (first | exact Repl.here | apply Repl.there)) (by first | exact Nat.le_of_ble_eq_true (by kernel_rfl) | (simp; omega)) (by kernel_rfl) (by kernel_rfl) ?_; clear KN; intro wx KN)))
    exact bodyPost_ret (results_ct Try.results24 _ _ _ Vm.zero.cells _ rfl (load_vm (KN.at_ (by repeat (first | exact Has.here | refine Has.there ?_)))) rfl) rfl ⟨rfl, KN.toBelow⟩

def Vm.waitErr (v : Vm) : Int := if v.ok = false then 74 else if v.state = 1 then 0 else 4
def faultRes (v : Vm) : Vm × Int := if v.waitErr = 0 then ({ v with pc := v.pc - 1, state := 3, cause := 4, wait := Eff.none }, 0) else (Vm.zero, v.waitErr)
theorem faultRes_ok {v : Vm} (h : v.waitErr = 0) : faultRes v = ({ v with pc := v.pc - 1, state := 3, cause := 4, wait := Eff.none }, 0) := by unfold faultRes; rw [if_pos h]
theorem faultRes_no {v : Vm} (h : ¬ v.waitErr = 0) : faultRes v = (Vm.zero, v.waitErr) := by unfold faultRes; rw [if_neg h]
theorem Vm.waitErr_cases (v : Vm) : (v.ok = false ∧ v.waitErr = 74) ∨ (v.ok = true ∧ v.state = 1 ∧ v.waitErr = 0) ∨ (v.ok = true ∧ ¬ v.state = 1 ∧ v.waitErr = 4) := by
  unfold Vm.waitErr
  cases h : v.ok
  · simp
  · by_cases hs : v.state = 1 <;> simp [hs]
theorem Vm.ok_wait {v : Vm} (h : v.ok = true) (hs : v.state = 1) : 1 ≤ v.pc ∧ v.pc ≤ 4096 ∧ effOk v.width v.wait = true := by
  unfold Vm.ok at h
  rw [hs] at h
  simp at h
  exact ⟨h.2.1.2, h.1.1.2.2, h.2.2⟩
theorem Vm.wait_ok {v : Vm} (h : v.waitErr = 0) : v.ok = true ∧ v.state = 1 := by
  rcases v.waitErr_cases with ⟨_, he⟩ | ⟨h0, h1, _⟩ | ⟨_, _, he⟩
  · omega
  · exact ⟨h0, h1⟩
  · omega
theorem trapv_any (v : Vm) (c : Int) (w : World) : Calls Try.prog 38 #[.agg v.cells, .int .i64 c] w fun e w' => e = .returned (.tuple #[.agg (v.trap c).1.cells, .agg (v.trap c).2.cells]) ∧ Below w.heap.size w w' := by
  have KN := Kn.start w
  go_enter Try.func38, Try.ntmps38
  go_wp2_with (first | ((with_reducible refine wpList_gate ?_); first | (refine wpList_built rfl 33 _ rfl (⟨6, 0, c, 0, 0⟩ : Eff).cells (by kernel_rfl) ?_) | (refine wpList_kn_boxA KN (by rfl) 35 _ rfl 2 rfl _ rfl ?_; clear KN; intro g2 wx hg2 KN) | (refine wpList_kn_alloc KN (by rfl) 35 rfl 4 rfl Vm.zero.cells (by kernel_rfl) ?_; clear KN; intro g4 wx hg4 KN) | (refine wpList_kn_alloc KN (by rfl) 33 rfl 5 rfl Eff.none.cells (by kernel_rfl) ?_; clear KN; intro g5 wx hg5 KN) | (refine wpList_kn_store1 KN (by rfl) 3 _ _ rfl _ _ rfl _ (by conv => lhs; whnf) (by rfl) _ _ (by repeat (first | exact Repl.here | apply Repl.there)) (by first | exact Nat.le_of_ble_eq_true (by kernel_rfl) | (simp; omega)) (by kernel_rfl) (by rfl) ?_; clear KN; intro wx KN) | (refine wpList_kn_loadW KN (by rfl) 35 _ rfl _ rfl _ _ (by repeat (first | exact Has.here | refine Has.there ?_)) _ Try.underlying35 rfl (by kernel_rfl) ?_) | (refine wpList_kn_storeW KN (by rfl) 35 _ _ rfl _ rfl _ rfl _ _ (by repeat (first | exact Repl.here | apply Repl.there)) (by kernel_rfl) (by kernel_rfl) (by kernel_rfl) ?_; clear KN; intro wx KN) | (refine wpList_kn_storeA KN (by rfl) 35 _ _ rfl _ _ rfl _ rfl _ _ (by repeat (first | exact Repl.here | apply Repl.there)) (by first | exact Nat.le_of_ble_eq_true (by kernel_rfl) | (simp; omega)) (by kernel_rfl) (by kernel_rfl) ?_; clear KN; intro wx KN) | (refine wpList_kn_storeW KN (by rfl) 33 _ _ rfl _ rfl _ rfl _ _ (by repeat (first | exact Repl.here | apply Repl.there)) (by kernel_rfl) (by kernel_rfl) (by kernel_rfl) ?_; clear KN; intro wx KN) | (refine wpList_kn_storeA KN (by rfl) 33 _ _ rfl _ _ rfl _ rfl _ _ (by repeat (first | exact Repl.here | apply Repl.there)) (by first | exact Nat.le_of_ble_eq_true (by kernel_rfl) | (simp; omega)) (by kernel_rfl) (by kernel_rfl) ?_; clear KN; intro wx KN)))
  have KN := KN.as_ g4 (v.trap c).1.cells (by repeat (first | exact Repl.here | apply Repl.there)) (by kernel_rfl)
  exact bodyPost_ret (results_cc Try.results38 _ _ _ _ (v.trap c).1.cells (v.trap c).2.cells rfl (load_vm (KN.at_ (by repeat (first | exact Has.here | refine Has.there ?_)))) rfl (load_eff (KN.at_ (by repeat (first | exact Has.here | refine Has.there ?_))))) rfl ⟨rfl, KN.toBelow⟩
theorem checkWaiting_any (v : Vm) (w : World) (ht : v.typed) : Calls Try.prog 37 #[.agg v.cells] w fun e w' => e = .returned (.int .i64 v.waitErr) ∧ Below w.heap.size w w' := by
  have KN := Kn.start w
  have TT := Lib.hid ht
  clear ht
  rcases v.waitErr_cases with ⟨h0, he⟩ | ⟨h0, h1, he⟩ | ⟨h0, h1, he⟩
  case' inl => have HE := Lib.hid he; clear he
  case' inr.inl => have HE := Lib.hid he; have hb : (v.state != 1) = false := by rw [bne_eq_false_iff_eq]; exact h1
  case' inr.inl => clear he h1
  case' inr.inr => have HE := Lib.hid he; have hb : (v.state != 1) = true := by rw [bne_iff_ne]; exact h1
  case' inr.inr => clear he h1
  all_goals
    have H0 := Lib.hid h0
    clear h0
    go_enter Try.func37, Try.ntmps37
    go_wp2_with (first | (go_at_call 18; refine (Valid_any v _ TT.out).mono ?_; rintro e w1 ⟨rfl, hb1⟩; replace KN := KN.below hb1; clear hb1; rw [H0.out]) | ((with_reducible refine wpList_gate ?_); first | (refine wpList_kn_boxA KN (by rfl) 35 _ rfl 1 rfl _ rfl ?_; clear KN; intro g1 wx hg1 KN) | (refine wpList_kn_loadW KN (by rfl) 35 _ rfl _ rfl _ _ (by repeat (first | exact Has.here | refine Has.there ?_)) _ Try.underlying35 rfl (by kernel_rfl) ?_) | (refine wpList_kn_load1 KN (by rfl) 3 _ rfl _ _ rfl _ _ (by repeat (first | exact Has.here | refine Has.there ?_)) _ (by (repeat (first | ((with_reducible refine get_hit ?_); exact Nat.le_of_ble_eq_true (by kernel_rfl)) | ((with_reducible refine (get_miss ?_).trans ?_); (focus kernel_rfl)) | ((with_reducible refine (get_pmiss ?_).trans ?_); (focus kernel_rfl)))); all_goals (conv => lhs; whnf; arg 1; whnf)) _ Try.underlying3 rfl ?_)))
    go_ret
    exact ⟨ret_int HE.out.symm, KN.toBelow⟩
theorem Fault_any (v : Vm) (w : World) (ht : v.typed) : Calls Try.prog 19 #[.agg v.cells] w fun e w' => e = .returned (pairVal (faultRes v)) ∧ Below w.heap.size w w' := by
  have KN := Kn.start w
  by_cases h0 : v.waitErr = 0
  · rw [faultRes_ok h0]
    have H0 := Lib.hid h0
    obtain ⟨p0, p1, -⟩ := Vm.ok_wait (Vm.wait_ok h0).1 (Vm.wait_ok h0).2
    clear h0
    go_enter Try.func19, Try.ntmps19
    go_wp2_with (first | (go_at_call 37; refine (checkWaiting_any v _ ht).mono ?_; rintro e w1 ⟨rfl, hb1⟩; replace KN := KN.below hb1; clear hb1; rw [H0.out]) | ((with_reducible refine wpList_gate ?_); first | (refine wpList_kn_boxA KN (by rfl) 35 _ rfl 1 rfl _ rfl ?_; clear KN; intro g1 wx hg1 KN) | (refine wpList_kn_alloc KN (by rfl) 35 rfl 2 rfl Vm.zero.cells (by kernel_rfl) ?_; clear KN; intro g2 wx hg2 KN) | (refine wpList_kn_loadW KN (by rfl) 35 _ rfl _ rfl _ _ (by repeat (first | exact Has.here | refine Has.there ?_)) _ Try.underlying35 rfl (by kernel_rfl) ?_) | (refine wpList_built rfl 35 #[] rfl Vm.zero.cells (by kernel_rfl) ?_) | (refine wpList_kn_storeW KN (by rfl) 35 _ _ rfl _ rfl _ rfl _ _ (by repeat (first | exact Repl.here | apply Repl.there)) (by kernel_rfl) (by kernel_rfl) (by kernel_rfl) ?_; clear KN; intro wx KN) | (refine wpList_kn_storeA KN (by rfl) 35 _ _ rfl _ _ rfl _ rfl _ _ (by repeat (first | exact Repl.here | apply Repl.there)) (by first | exact Nat.le_of_ble_eq_true (by kernel_rfl) | (simp; omega)) (by kernel_rfl) (by kernel_rfl) ?_; clear KN; intro wx KN) | (refine wpList_built rfl 33 #[] rfl Eff.none.cells (by kernel_rfl) ?_) | (refine wpList_kn_store1 KN (by rfl) 3 _ _ rfl _ _ rfl _ (by conv => lhs; whnf) (by rfl) _ _ (by repeat (first | exact Repl.here | apply Repl.there)) (by first | exact Nat.le_of_ble_eq_true (by kernel_rfl) | (simp; omega)) (by kernel_rfl) (by rfl) ?_; clear KN; intro wx KN) | (refine wpList_kn_storeW KN (by rfl) 33 _ _ rfl _ rfl _ rfl _ _ (by repeat (first | exact Repl.here | apply Repl.there)) (by kernel_rfl) (by kernel_rfl) (by kernel_rfl) ?_; clear KN; intro wx KN) | (refine wpList_kn_storeA KN (by rfl) 33 _ _ rfl _ _ rfl _ rfl _ _ (by repeat (first | exact Repl.here | apply Repl.there)) (by first | exact Nat.le_of_ble_eq_true (by kernel_rfl) | (simp; omega)) (by kernel_rfl) (by kernel_rfl) ?_; clear KN; intro wx KN) | (refine wpList_kn_load1 KN (by rfl) 3 _ rfl _ _ rfl _ _ (by repeat (first | exact Has.here | refine Has.there ?_)) _ (by (repeat (first | ((with_reducible refine get_hit ?_); exact Nat.le_of_ble_eq_true (by kernel_rfl)) | ((with_reducible refine (get_miss ?_).trans ?_); (focus kernel_rfl)) | ((with_reducible refine (get_pmiss ?_).trans ?_); (focus kernel_rfl)))); all_goals (conv => lhs; whnf; arg 1; whnf)) _ Try.underlying3 rfl ?_)))
    have KN := KN.as_ g2 (faultRes v).1.cells (by repeat (first | exact Repl.here | apply Repl.there)) (by rw [faultRes_ok H0.out]; kernel_rfl)
    rw [faultRes_ok H0.out] at KN
    exact bodyPost_ret (results_ct Try.results19 _ _ _ _ _ rfl (load_vm (KN.at_ (by repeat (first | exact Has.here | refine Has.there ?_)))) rfl) rfl ⟨rfl, KN.toBelow⟩
  · rw [faultRes_no h0]
    have n1 := bne_iff_ne.2 h0
    clear h0
    go_enter Try.func19, Try.ntmps19
    go_wp2_with (first | (go_at_call 37; refine (checkWaiting_any v _ ht).mono ?_; rintro e w1 ⟨rfl, hb1⟩; replace KN := KN.below hb1; clear hb1) | ((with_reducible refine wpList_gate ?_); first | (refine wpList_kn_boxA KN (by rfl) 35 _ rfl 1 rfl _ rfl ?_; clear KN; intro g1 wx hg1 KN) | (refine wpList_kn_alloc KN (by rfl) 35 rfl 2 rfl Vm.zero.cells (by kernel_rfl) ?_; clear KN; intro g2 wx hg2 KN) | (refine wpList_kn_loadW KN (by rfl) 35 _ rfl _ rfl _ _ (by repeat (first | exact Has.here | refine Has.there ?_)) _ Try.underlying35 rfl (by kernel_rfl) ?_) | (refine wpList_built rfl 35 #[] rfl Vm.zero.cells (by kernel_rfl) ?_) | (refine wpList_kn_storeW KN (by rfl) 35 _ _ rfl _ rfl _ rfl _ _ (by repeat (first | exact Repl.here | apply Repl.there)) (by kernel_rfl) (by kernel_rfl) (by kernel_rfl) ?_; clear KN; intro wx KN) | (refine wpList_kn_storeA KN (by rfl) 35 _ _ rfl _ _ rfl _ rfl _ _ (by repeat (first | exact Repl.here | apply Repl.there)) (by first | exact Nat.le_of_ble_eq_true (by kernel_rfl) | (simp; omega)) (by kernel_rfl) (by kernel_rfl) ?_; clear KN; intro wx KN) | (refine wpList_built rfl 33 #[] rfl Eff.none.cells (by kernel_rfl) ?_) | (refine wpList_kn_store1 KN (by rfl) 3 _ _ rfl _ _ rfl _ (by conv => lhs; whnf) (by rfl) _ _ (by repeat (first | exact Repl.here | apply Repl.there)) (by first | exact Nat.le_of_ble_eq_true (by kernel_rfl) | (simp; omega)) (by kernel_rfl) (by rfl) ?_; clear KN; intro wx KN) | (refine wpList_kn_storeW KN (by rfl) 33 _ _ rfl _ rfl _ rfl _ _ (by repeat (first | exact Repl.here | apply Repl.there)) (by kernel_rfl) (by kernel_rfl) (by kernel_rfl) ?_; clear KN; intro wx KN) | (refine wpList_kn_storeA KN (by rfl) 33 _ _ rfl _ _ rfl _ rfl _ _ (by repeat (first | exact Repl.here | apply Repl.there)) (by first | exact Nat.le_of_ble_eq_true (by kernel_rfl) | (simp; omega)) (by kernel_rfl) (by kernel_rfl) ?_; clear KN; intro wx KN) | (refine wpList_kn_load1 KN (by rfl) 3 _ rfl _ _ rfl _ _ (by repeat (first | exact Has.here | refine Has.there ?_)) _ (by (repeat (first | ((with_reducible refine get_hit ?_); exact Nat.le_of_ble_eq_true (by kernel_rfl)) | ((with_reducible refine (get_miss ?_).trans ?_); (focus kernel_rfl)) | ((with_reducible refine (get_pmiss ?_).trans ?_); (focus kernel_rfl)))); all_goals (conv => lhs; whnf; arg 1; whnf)) _ Try.underlying3 rfl ?_)))
    exact bodyPost_ret (results_ct Try.results19 _ _ _ Vm.zero.cells _ rfl (load_vm (KN.at_ (by repeat (first | exact Has.here | refine Has.there ?_)))) rfl) rfl ⟨rfl, KN.toBelow⟩
theorem RFault_any (v : Vm) (w : World) (ht : v.typed) : Calls Try.prog 20 #[.agg v.cells] w fun e w' => e = .returned (pairVal (faultRes v)) ∧ Below w.heap.size w w' := by
  have KN := Kn.start w
  rcases v.waitErr_cases with ⟨h0, he⟩ | ⟨h0, h1, he⟩ | ⟨h0, h1, he⟩
  · rw [faultRes_no (by omega), he]
    clear he
    have H0 := Lib.hid h0
    clear h0
    go_enter Try.func20, Try.ntmps20
    go_wp2_with (first | (go_at_call 25; refine (RValid_any v _ ht).mono ?_; rintro e w1 ⟨rfl, hb1⟩; replace KN := KN.below hb1; clear hb1; rw [H0.out]) | ((with_reducible refine wpList_gate ?_); first | (refine wpList_kn_boxA KN (by rfl) 35 _ rfl 1 rfl _ rfl ?_; clear KN; intro g1 wx hg1 KN) | (refine wpList_kn_alloc KN (by rfl) 35 rfl 2 rfl Vm.zero.cells (by kernel_rfl) ?_; clear KN; intro g2 wx hg2 KN) | (refine wpList_kn_loadW KN (by rfl) 35 _ rfl _ rfl _ _ (by repeat (first | exact Has.here | refine Has.there ?_)) _ Try.underlying35 rfl (by kernel_rfl) ?_) | (refine wpList_built rfl 35 #[] rfl Vm.zero.cells (by kernel_rfl) ?_) | (refine wpList_kn_storeW KN (by rfl) 35 _ _ rfl _ rfl _ rfl _ _ (by repeat (first | exact Repl.here | apply Repl.there)) (by kernel_rfl) (by kernel_rfl) (by kernel_rfl) ?_; clear KN; intro wx KN) | (refine wpList_kn_storeA KN (by rfl) 35 _ _ rfl _ _ rfl _ rfl _ _ (by repeat (first | exact Repl.here | apply Repl.there)) (by first | exact Nat.le_of_ble_eq_true (by kernel_rfl) | (simp; omega)) (by kernel_rfl) (by kernel_rfl) ?_; clear KN; intro wx KN) | (refine wpList_kn_load1 KN (by rfl) 3 _ rfl _ _ rfl _ _ (by repeat (first | exact Has.here | refine Has.there ?_)) _ (by (repeat (first | ((with_reducible refine get_hit ?_); exact Nat.le_of_ble_eq_true (by kernel_rfl)) | ((with_reducible refine (get_miss ?_).trans ?_); (focus kernel_rfl)) | ((with_reducible refine (get_pmiss ?_).trans ?_); (focus kernel_rfl)))); all_goals (conv => lhs; whnf; arg 1; whnf)) _ Try.underlying3 rfl ?_) | (refine wpList_kn_store1 KN (by rfl) 3 _ _ rfl _ _ rfl _ (by conv => lhs; whnf) (by rfl) _ _ (by repeat (first | exact Repl.here | apply Repl.there)) (by first | exact Nat.le_of_ble_eq_true (by kernel_rfl) | (simp; omega)) (by kernel_rfl) (by rfl) ?_; clear KN; intro wx KN) | (refine wpList_built rfl 33 #[] rfl Eff.none.cells (by kernel_rfl) ?_) | (refine wpList_kn_storeW KN (by rfl) 33 _ _ rfl _ rfl _ rfl _ _ (by repeat (first | exact Repl.here | apply Repl.there)) (by kernel_rfl) (by kernel_rfl) (by kernel_rfl) ?_; clear KN; intro wx KN) | (refine wpList_kn_storeA KN (by rfl) 33 _ _ rfl _ _ rfl _ rfl _ _ (by repeat (first | exact Repl.here | apply Repl.there)) (by first | exact Nat.le_of_ble_eq_true (by kernel_rfl) | (simp; omega)) (by kernel_rfl) (by kernel_rfl) ?_; clear KN; intro wx KN)))
    exact bodyPost_ret (results_ct Try.results20 _ _ _ Vm.zero.cells _ rfl (load_vm (KN.at_ (by repeat (first | exact Has.here | refine Has.there ?_)))) rfl) rfl ⟨rfl, KN.toBelow⟩
  · rw [faultRes_ok he]
    obtain ⟨p0, p1, -⟩ := Vm.ok_wait h0 h1
    have H0 := Lib.hid h0
    have hb : (v.state != 1) = false := by rw [bne_eq_false_iff_eq]; exact h1
    obtain ⟨v', hv'⟩ : ∃ v' : Vm, v' = { v with pc := v.pc - 1, wait := Eff.none } := ⟨_, rfl⟩
    have HV := Lib.hid hv'
    clear h0 h1 he hv'
    go_enter Try.func20, Try.ntmps20
    go_wp2_with (first | (go_at_call 25; refine (RValid_any v _ ht).mono ?_; rintro e w1 ⟨rfl, hb1⟩; replace KN := KN.below hb1; clear hb1; rw [H0.out]) | (go_at_call 38; refine (trapv_any v' 4 _).mono ?_; rintro e w1 ⟨rfl, hb1⟩; replace KN := KN.below hb1; clear hb1) | ((with_reducible refine wpList_gate ?_); first | (refine wpList_kn_storeA KN (by rfl) 33 _ _ rfl _ _ rfl _ rfl _ _ (by repeat (first | exact Repl.here | apply Repl.there)) (by first | exact Nat.le_of_ble_eq_true (by kernel_rfl) | (simp; omega)) (by kernel_rfl) (by kernel_rfl) ?_; clear KN; intro wx KN; replace KN := KN.as_ g1 v'.cells (by repeat (first | exact Repl.here | apply Repl.there)) (by rw [HV.out]; kernel_rfl)) | (refine wpList_kn_boxA KN (by rfl) 35 _ rfl 1 rfl _ rfl ?_; clear KN; intro g1 wx hg1 KN) | (refine wpList_kn_alloc KN (by rfl) 35 rfl 2 rfl Vm.zero.cells (by kernel_rfl) ?_; clear KN; intro g2 wx hg2 KN) | (refine wpList_kn_loadW KN (by rfl) 35 _ rfl _ rfl _ _ (by repeat (first | exact Has.here | refine Has.there ?_)) _ Try.underlying35 rfl (by kernel_rfl) ?_) | (refine wpList_built rfl 35 #[] rfl Vm.zero.cells (by kernel_rfl) ?_) | (refine wpList_kn_storeW KN (by rfl) 35 _ _ rfl _ rfl _ rfl _ _ (by repeat (first | exact Repl.here | apply Repl.there)) (by kernel_rfl) (by kernel_rfl) (by kernel_rfl) ?_; clear KN; intro wx KN) | (refine wpList_kn_storeA KN (by rfl) 35 _ _ rfl _ _ rfl _ rfl _ _ (by repeat (first | exact Repl.here | apply Repl.there)) (by first | exact Nat.le_of_ble_eq_true (by kernel_rfl) | (simp; omega)) (by kernel_rfl) (by kernel_rfl) ?_; clear KN; intro wx KN) | (refine wpList_kn_load1 KN (by rfl) 3 _ rfl _ _ rfl _ _ (by repeat (first | exact Has.here | refine Has.there ?_)) _ (by (repeat (first | ((with_reducible refine get_hit ?_); exact Nat.le_of_ble_eq_true (by kernel_rfl)) | ((with_reducible refine (get_miss ?_).trans ?_); (focus kernel_rfl)) | ((with_reducible refine (get_pmiss ?_).trans ?_); (focus kernel_rfl)))); all_goals (conv => lhs; whnf; arg 1; whnf)) _ Try.underlying3 rfl ?_) | (refine wpList_kn_store1 KN (by rfl) 3 _ _ rfl _ _ rfl _ (by conv => lhs; whnf) (by rfl) _ _ (by repeat (first | exact Repl.here | apply Repl.there)) (by first | exact Nat.le_of_ble_eq_true (by kernel_rfl) | (simp; omega)) (by kernel_rfl) (by rfl) ?_; clear KN; intro wx KN) | (refine wpList_built rfl 33 #[] rfl Eff.none.cells (by kernel_rfl) ?_) | (refine wpList_kn_storeW KN (by rfl) 33 _ _ rfl _ rfl _ rfl _ _ (by repeat (first | exact Repl.here | apply Repl.there)) (by kernel_rfl) (by kernel_rfl) (by kernel_rfl) ?_; clear KN; intro wx KN) | (refine wpList_kn_storeA KN (by rfl) 33 _ _ rfl _ _ rfl _ rfl _ _ (by repeat (first | exact Repl.here | apply Repl.there)) (by first | exact Nat.le_of_ble_eq_true (by kernel_rfl) | (simp; omega)) (by kernel_rfl) (by kernel_rfl) ?_; clear KN; intro wx KN)))
    rw [show ({ v with pc := v.pc - 1, state := 3, cause := 4, wait := Eff.none } : Vm) = (v'.trap 4).1 from by rw [HV.out]; rfl]
    exact bodyPost_ret (results_ct Try.results20 _ _ _ (v'.trap 4).1.cells _ rfl (load_vm (KN.at_ (by repeat (first | exact Has.here | refine Has.there ?_)))) rfl) rfl ⟨rfl, KN.toBelow⟩
  · rw [faultRes_no (by omega), he]
    have H0 := Lib.hid h0
    have hb : (v.state != 1) = true := by rw [bne_iff_ne]; exact h1
    clear h0 h1 he
    go_enter Try.func20, Try.ntmps20
    go_wp2_with (first | (go_at_call 25; refine (RValid_any v _ ht).mono ?_; rintro e w1 ⟨rfl, hb1⟩; replace KN := KN.below hb1; clear hb1; rw [H0.out]) | ((with_reducible refine wpList_gate ?_); first | (refine wpList_kn_boxA KN (by rfl) 35 _ rfl 1 rfl _ rfl ?_; clear KN; intro g1 wx hg1 KN) | (refine wpList_kn_alloc KN (by rfl) 35 rfl 2 rfl Vm.zero.cells (by kernel_rfl) ?_; clear KN; intro g2 wx hg2 KN) | (refine wpList_kn_loadW KN (by rfl) 35 _ rfl _ rfl _ _ (by repeat (first | exact Has.here | refine Has.there ?_)) _ Try.underlying35 rfl (by kernel_rfl) ?_) | (refine wpList_built rfl 35 #[] rfl Vm.zero.cells (by kernel_rfl) ?_) | (refine wpList_kn_storeW KN (by rfl) 35 _ _ rfl _ rfl _ rfl _ _ (by repeat (first | exact Repl.here | apply Repl.there)) (by kernel_rfl) (by kernel_rfl) (by kernel_rfl) ?_; clear KN; intro wx KN) | (refine wpList_kn_storeA KN (by rfl) 35 _ _ rfl _ _ rfl _ rfl _ _ (by repeat (first | exact Repl.here | apply Repl.there)) (by first | exact Nat.le_of_ble_eq_true (by kernel_rfl) | (simp; omega)) (by kernel_rfl) (by kernel_rfl) ?_; clear KN; intro wx KN) | (refine wpList_kn_load1 KN (by rfl) 3 _ rfl _ _ rfl _ _ (by repeat (first | exact Has.here | refine Has.there ?_)) _ (by (repeat (first | ((with_reducible refine get_hit ?_); exact Nat.le_of_ble_eq_true (by kernel_rfl)) | ((with_reducible refine (get_miss ?_).trans ?_); (focus kernel_rfl)) | ((with_reducible refine (get_pmiss ?_).trans ?_); (focus kernel_rfl)))); all_goals (conv => lhs; whnf; arg 1; whnf)) _ Try.underlying3 rfl ?_) | (refine wpList_kn_store1 KN (by rfl) 3 _ _ rfl _ _ rfl _ (by conv => lhs; whnf) (by rfl) _ _ (by repeat (first | exact Repl.here | apply Repl.there)) (by first | exact Nat.le_of_ble_eq_true (by kernel_rfl) | (simp; omega)) (by kernel_rfl) (by rfl) ?_; clear KN; intro wx KN) | (refine wpList_built rfl 33 #[] rfl Eff.none.cells (by kernel_rfl) ?_) | (refine wpList_kn_storeW KN (by rfl) 33 _ _ rfl _ rfl _ rfl _ _ (by repeat (first | exact Repl.here | apply Repl.there)) (by kernel_rfl) (by kernel_rfl) (by kernel_rfl) ?_; clear KN; intro wx KN) | (refine wpList_kn_storeA KN (by rfl) 33 _ _ rfl _ _ rfl _ rfl _ _ (by repeat (first | exact Repl.here | apply Repl.there)) (by first | exact Nat.le_of_ble_eq_true (by kernel_rfl) | (simp; omega)) (by kernel_rfl) (by kernel_rfl) ?_; clear KN; intro wx KN)))
    exact bodyPost_ret (results_ct Try.results20 _ _ _ Vm.zero.cells _ rfl (load_vm (KN.at_ (by repeat (first | exact Has.here | refine Has.there ?_)))) rfl) rfl ⟨rfl, KN.toBelow⟩
theorem usable_any (v : Vm) (va : Value) (p : List Ins) (w : World) (ht : v.typed) (hp : Instrs w va p) : Calls Try.prog 34 #[.agg v.cells, va] w fun e w' => e = .returned (.int .i64 (if v.ok = false then 74 else progErr p)) ∧ Below w.heap.size w w' := by
  have KN := Kn.start w
  obtain ⟨a, c, rfl, _⟩ := hp.form
  have HP := Lib.hid hp
  clear hp
  cases hv : v.ok
  · have H0 := Lib.hid hv
    clear hv
    rw [if_pos rfl]
    go_enter Try.func34, Try.ntmps34
    go_wp2_with (first | (go_at_call 25; refine (RValid_any v _ ht).mono ?_; rintro e w1 ⟨rfl, hb1⟩; replace KN := KN.below hb1; clear hb1; rw [H0.out]) | ((with_reducible refine wpList_gate ?_); first | (refine wpList_kn_boxA KN (by rfl) 35 _ rfl 2 rfl _ rfl ?_; clear KN; intro g2 wx hg2 KN) | (refine wpList_kn_loadW KN (by rfl) 35 _ rfl _ rfl _ _ (by repeat (first | exact Has.here | refine Has.there ?_)) _ Try.underlying35 rfl (by kernel_rfl) ?_)))
    go_ret
    exact ⟨rfl, KN.toBelow⟩
  · have H0 := Lib.hid hv
    clear hv
    rw [if_neg (by decide)]
    go_enter Try.func34, Try.ntmps34
    go_wp2_with (first | (go_at_call 25; refine (RValid_any v _ ht).mono ?_; rintro e w1 ⟨rfl, hb1⟩; replace KN := KN.below hb1; clear hb1; rw [H0.out]) | (go_at_call 74; refine (RValidate_any _ p _ (HP.out.below KN.toBelow)).mono ?_; rintro e w1 ⟨rfl, hb1⟩; replace KN := KN.below hb1; clear hb1) | ((with_reducible refine wpList_gate ?_); first | (refine wpList_kn_boxA KN (by rfl) 35 _ rfl 2 rfl _ rfl ?_; clear KN; intro g2 wx hg2 KN) | (refine wpList_kn_loadW KN (by rfl) 35 _ rfl _ rfl _ _ (by repeat (first | exact Has.here | refine Has.there ?_)) _ Try.underlying35 rfl (by kernel_rfl) ?_)))
    go_ret
    exact ⟨rfl, KN.toBelow⟩
end Go.Proofs.Ytbllialcfmpkaaa
