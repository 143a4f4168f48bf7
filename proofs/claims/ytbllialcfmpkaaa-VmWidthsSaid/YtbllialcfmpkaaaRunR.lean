/- The reference's Run. -/
import Derived.Test.YtbllialcfmpkaaaStepRAll
set_option linter.unusedVariables false
set_option linter.unusedSimpArgs false
set_option linter.unusedSectionVars false
namespace Go.Proofs.Ytbllialcfmpkaaa
open Go.RowKit
theorem checkE_cases (v : Vm) (p : List Ins) (n : Int) :
    (¬ (if v.ok = false then 74 else progErr p) = 0 ∧ checkE v p (betw n) = (if v.ok = false then 74 else progErr p)) ∨
    ((if v.ok = false then 74 else progErr p) = 0 ∧ n < 1 ∧ checkE v p (betw n) = 1) ∨ ((if v.ok = false then 74 else progErr p) = 0 ∧ 1 ≤ n ∧ 1000000 < n ∧ checkE v p (betw n) = 1) ∨
    ((if v.ok = false then 74 else progErr p) = 0 ∧ 1 ≤ n ∧ n ≤ 1000000 ∧ ¬ v.state = 0 ∧ checkE v p (betw n) = 4) ∨ ((if v.ok = false then 74 else progErr p) = 0 ∧ 1 ≤ n ∧ n ≤ 1000000 ∧ v.state = 0 ∧ checkE v p (betw n) = 0) := by
  unfold checkE betw
  by_cases h1 : v.ok = false
  · simp [h1]
  · by_cases h2 : progErr p = 0
    · by_cases h3 : n < 1
      · simp [h1, h2, h3]
      · by_cases h4 : 1000000 < n
        · simp [h1, h2, h3, h4]; omega
        · by_cases h5 : v.state = 0
          · simp [h1, h2, h3, h4, h5]; omega
          · simp [h1, h2, h3, h4, h5]; omega
    · simp [h1, h2]
set_option maxRecDepth 100000 in
set_option maxHeartbeats 2000000 in
theorem RRun_no (v : Vm) (va : Value) (p : List Ins) (n : Int) (w : World) (ht : v.typed) (hp : Instrs w va p) (hc : ¬ checkE v p (betw n) = 0) :
    Calls Try.prog 27 #[.agg v.cells, va, .int .i64 n] w fun en w' => en = .returned (runVal (Vm.zero, 0, Eff.none, checkE v p (betw n))) ∧ Below w.heap.size w w' := by
  have KN := Kn.start w
  obtain ⟨a, c, rfl, _⟩ := hp.form
  have HP := Lib.hid hp
  have hcases := checkE_cases v p n
  obtain ⟨us, hus⟩ : ∃ us : Int, us = (if v.ok = false then 74 else progErr p) := ⟨_, rfl⟩
  rw [← hus] at hcases
  have HUS := Lib.hid hus
  clear hus hp
  rcases hcases with ⟨h1, h2⟩ | ⟨h1, h3, h2⟩ | ⟨h1, h3, h4, h2⟩ | ⟨h1, h3, h4, h5, h2⟩ | ⟨h1, h3, h4, h5, h2⟩
  case inr.inr.inr.inr => exact absurd h2 hc
  case' inl => have n1 : (us != 0) = true := by rw [bne_iff_ne]; exact h1
  case' inl => clear h1
  case' inr.inl => subst h1
  case' inr.inr.inl => subst h1
  case' inr.inr.inr.inl => subst h1
  case' inr.inr.inr.inl => have n1 : (v.state != 0) = true := by rw [bne_iff_ne]; exact h5
  case' inr.inr.inr.inl => clear h5
  all_goals
    rw [h2]; clear h2 hc
    go_enter Try.func27, Try.ntmps27
    go_wp2_with (first | (go_at_call 34; refine (usable_any v _ p _ ht (HP.out.below KN.toBelow)).mono ?_; rintro e wx ⟨rfl, hb1⟩; replace KN := KN.below hb1; clear hb1; rw [← HUS.out]) | ((with_reducible refine wpList_gate ?_); first | ((refine gate_load (by rfl) ?_); first | (refine wpList_kn_loadW KN (by rfl) 35 _ rfl _ rfl _ _ (by repeat (first | exact Has.here | refine Has.there ?_)) _ Try.underlying35 rfl (by kernel_rfl) ?_) | (refine wpList_kn_load1 KN (by rfl) 3 _ rfl _ _ rfl _ _ (by repeat (first | exact Has.here | refine Has.there ?_)) _ (by (repeat (first | ((with_reducible refine get_hit ?_); exact Nat.le_of_ble_eq_true (by kernel_rfl)) | ((with_reducible refine (get_miss ?_).trans ?_); (focus kernel_rfl)) | ((with_reducible refine (get_pmiss ?_).trans ?_); (focus kernel_rfl)))); all_goals (conv => lhs; whnf; arg 1; whnf)) _ Try.underlying3 rfl ?_) | (refine wpList_kn_loadW KN (by rfl) 33 _ rfl _ rfl _ _ (by repeat (first | exact Has.here | refine Has.there ?_)) _ Try.underlying33 rfl (by kernel_rfl) ?_)) | ((refine gate_store (by rfl) ?_); first | (refine wpList_kn_storeW KN (by rfl) 35 _ _ rfl _ rfl _ rfl _ _ (by repeat (first | exact Repl.here | apply Repl.there)) (by kernel_rfl) (by kernel_rfl) (by kernel_rfl) ?_; clear KN; intro wx KN) | (refine wpList_kn_storeA KN (by rfl) 35 _ _ rfl _ _ rfl _ rfl _ _ (by repeat (first | exact Repl.here | apply Repl.there)) (by (try simp only [Array.size_setIfInBounds, putL_size]); first | exact Nat.le_of_ble_eq_true rfl | (simp; omega)) (by kernel_rfl) (by kernel_rfl) ?_; clear KN; intro wx KN) | (refine wpList_kn_storeW KN (by rfl) 33 _ _ rfl _ rfl _ rfl _ _ (by repeat (first | exact Repl.here | apply Repl.there)) (by kernel_rfl) (by kernel_rfl) (by kernel_rfl) ?_; clear KN; intro wx KN) | (refine wpList_kn_storeA KN (by rfl) 33 _ _ rfl _ _ rfl _ rfl _ _ (by repeat (first | exact Repl.here | apply Repl.there)) (by (try simp only [Array.size_setIfInBounds, putL_size]); first | exact Nat.le_of_ble_eq_true rfl | (simp; omega)) (by kernel_rfl) (by kernel_rfl) ?_; clear KN; intro wx KN)) | ((refine gate_new (by rfl) ?_); first | (refine wpList_kn_boxA KN (by rfl) 35 _ rfl 3 rfl _ rfl ?_; clear KN; intro g3 wx hg3 KN) | (refine wpList_kn_alloc KN (by rfl) 35 rfl 6 rfl Vm.zero.cells (by kernel_rfl) ?_; clear KN; intro g6 wx hg6 KN) | (refine wpList_kn_alloc KN (by rfl) 33 rfl 8 rfl Eff.none.cells (by kernel_rfl) ?_; clear KN; intro g8 wx hg8 KN) | (refine wpList_built rfl 35 #[] rfl Vm.zero.cells (by kernel_rfl) ?_) | (refine wpList_built rfl 33 #[] rfl Eff.none.cells (by kernel_rfl) ?_) | (refine wpList_kn_alloc KN (by rfl) 33 rfl 11 rfl Eff.none.cells (by kernel_rfl) ?_; clear KN; intro g11 wx hg11 KN))))
    exact bodyPost_ret (results_ctct Try.results27 _ _ _ _ Vm.zero.cells Eff.none.cells _ _ rfl (load_vm (KN.at_ (by repeat (first | exact Has.here | refine Has.there ?_)))) rfl rfl (load_eff (KN.at_ (by repeat (first | exact Has.here | refine Has.there ?_)))) rfl) rfl ⟨rfl, KN.toBelow⟩
/-- What is so at each round's head. -/
def RRel (v : Vm) (p : List Ins) (N g3 g6 g8 g11 : Nat) (W : World) (cn : Value) (wr : World) : Prop :=
  ∃ (k : Nat) (vk : Vm) (ek : Eff), k ≤ N ∧ cn = .int .i64 k ∧ Kn [] W wr [(g11, At ek.cells 33), (g8, At Eff.none.cells 33), (g6, At Vm.zero.cells 35), (g3, At vk.cells 35)] ∧ vk.fits ∧ runF p N (v, Eff.none) = runAt p N k (vk, ek)
theorem runVal_of2 {v vk : Vm} {ek : Eff} {p : List Ins} {N k : Nat} (h : runF p N (v, Eff.none) = runAt p N k (vk, ek)) (hs : ¬ ek.kind = 0 ∨ k = N) :
    runVal ((runF p N (v, Eff.none)).1, (runF p N (v, Eff.none)).2.1, (runF p N (v, Eff.none)).2.2, 0) = .tuple #[.agg vk.cells, .int .i64 (k : Nat), .agg ek.cells, .int .i64 0] := by
  have : runF p N (v, Eff.none) = (vk, k, ek) := by
    rcases hs with hs | hs
    · rw [h, runAt_stop (by exact hs)]
    · rw [h, hs, runAt_full]
  rw [this]; rfl
theorem Eff.get0 (e : Eff) : e.cells[0]? = some (.int .i64 e.kind) := rfl
set_option maxRecDepth 100000 in
set_option maxHeartbeats 4000000 in
theorem RRun_ok (v : Vm) (va : Value) (p : List Ins) (n : Int) (w : World) (ht : v.typed) (hp : Instrs w va p) (hc : checkE v p (betw n) = 0) :
    Calls Try.prog 27 #[.agg v.cells, va, .int .i64 n] w fun en w' => en = .returned (runVal ((runF p n.toNat (v, Eff.none)).1, (runF p n.toNat (v, Eff.none)).2.1, (runF p n.toNat (v, Eff.none)).2.2, 0)) ∧ Below w.heap.size w w' := by
  have KN := Kn.start w
  obtain ⟨ok, pe, hb, st⟩ := checkE_ok hc
  have hn : 1 ≤ n ∧ n ≤ 1000000 := by
    unfold betw at hb
    by_cases h : n < 1 ∨ 1000000 < n
    · rw [if_pos h] at hb; omega
    · omega
  obtain ⟨N, rfl⟩ := Int.eq_ofNat_of_zero_le (show 0 ≤ n by omega)
  rw [Int.toNat_natCast]
  obtain ⟨hn0, hn1⟩ := hn
  have FT := Lib.hid (Vm.ok_fits ok ht)
  have GP := Lib.hid (progErr_good pe hp.2)
  obtain ⟨g, off, c, rfl, ps⟩ := hp.ps GP.out.len.1
  have HP := Lib.hid hp
  have PP := Lib.hid ps
  have HUS : Hid ((if v.ok = false then 74 else progErr p) = 0) := Lib.hid (by rw [ok, pe]; rfl)
  have n1 : (v.state != 0) = false := by rw [bne_eq_false_iff_eq]; exact st
  clear hp hc ok pe ps st hb
  go_enter Try.func27, Try.ntmps27
  go_wp2_with (first | (go_at_call 34; refine (usable_any v _ p _ ht (HP.out.below KN.toBelow)).mono ?_; rintro e wx ⟨rfl, hb1⟩; replace KN := KN.below hb1; clear hb1; rw [HUS.out]) | ((with_reducible refine wpList_gate ?_); first | ((refine gate_load (by rfl) ?_); first | (refine wpList_kn_loadW KN (by rfl) 35 _ rfl _ rfl _ _ (by repeat (first | exact Has.here | refine Has.there ?_)) _ Try.underlying35 rfl (by kernel_rfl) ?_) | (refine wpList_kn_load1 KN (by rfl) 3 _ rfl _ _ rfl _ _ (by repeat (first | exact Has.here | refine Has.there ?_)) _ (by (repeat (first | ((with_reducible refine get_hit ?_); exact Nat.le_of_ble_eq_true (by kernel_rfl)) | ((with_reducible refine (get_miss ?_).trans ?_); (focus kernel_rfl)) | ((with_reducible refine (get_pmiss ?_).trans ?_); (focus kernel_rfl)))); all_goals (conv => lhs; whnf; arg 1; whnf)) _ Try.underlying3 rfl ?_) | (refine wpList_kn_loadW KN (by rfl) 33 _ rfl _ rfl _ _ (by repeat (first | exact Has.here | refine Has.there ?_)) _ Try.underlying33 rfl (by kernel_rfl) ?_)) | ((refine gate_store (by rfl) ?_); first | (refine wpList_kn_storeW KN (by rfl) 35 _ _ rfl _ rfl _ rfl _ _ (by repeat (first | exact Repl.here | apply Repl.there)) (by kernel_rfl) (by kernel_rfl) (by kernel_rfl) ?_; clear KN; intro wx KN) | (refine wpList_kn_storeA KN (by rfl) 35 _ _ rfl _ _ rfl _ rfl _ _ (by repeat (first | exact Repl.here | apply Repl.there)) (by (try simp only [Array.size_setIfInBounds, putL_size]); first | exact Nat.le_of_ble_eq_true rfl | (simp; omega)) (by kernel_rfl) (by kernel_rfl) ?_; clear KN; intro wx KN) | (refine wpList_kn_storeW KN (by rfl) 33 _ _ rfl _ rfl _ rfl _ _ (by repeat (first | exact Repl.here | apply Repl.there)) (by kernel_rfl) (by kernel_rfl) (by kernel_rfl) ?_; clear KN; intro wx KN) | (refine wpList_kn_storeA KN (by rfl) 33 _ _ rfl _ _ rfl _ rfl _ _ (by repeat (first | exact Repl.here | apply Repl.there)) (by (try simp only [Array.size_setIfInBounds, putL_size]); first | exact Nat.le_of_ble_eq_true rfl | (simp; omega)) (by kernel_rfl) (by kernel_rfl) ?_; clear KN; intro wx KN)) | ((refine gate_new (by rfl) ?_); first | (refine wpList_kn_boxA KN (by rfl) 35 _ rfl 3 rfl _ rfl ?_; clear KN; intro g3 wx hg3 KN) | (refine wpList_kn_alloc KN (by rfl) 35 rfl 6 rfl Vm.zero.cells (by kernel_rfl) ?_; clear KN; intro g6 wx hg6 KN) | (refine wpList_kn_alloc KN (by rfl) 33 rfl 8 rfl Eff.none.cells (by kernel_rfl) ?_; clear KN; intro g8 wx hg8 KN) | (refine wpList_built rfl 35 #[] rfl Vm.zero.cells (by kernel_rfl) ?_) | (refine wpList_built rfl 33 #[] rfl Eff.none.cells (by kernel_rfl) ?_) | (refine wpList_kn_alloc KN (by rfl) 33 rfl 11 rfl Eff.none.cells (by kernel_rfl) ?_; clear KN; intro g11 wx hg11 KN))))
  have HREL : Hid (RRel v p N g3 g6 g8 g11 w (.int .i64 0) wx) := Lib.hid ⟨0, v, Eff.none, Nat.zero_le _, rfl, KN, FT.out, rfl⟩
  clear KN n1
  go_loopw [12] (fun cn wr => RRel v p N g3 g6 g8 g11 w cn wr) (fun cn _ => N - (intOf cn).toNat)
  case atStart => exact HREL.out
  case round =>
    obtain ⟨k, vk, ek, hk, rfl, KN, hf, hrun⟩ := hrel
    have HF := Lib.hid hf
    have HR := Lib.hid hrun
    clear hf hrun
    have h3 : (k < N ∧ ek.kind = 0) ∨ (k < N ∧ (ek.kind == 0) = false) ∨ ¬ k < N := by
      by_cases h1 : k < N
      · by_cases h2 : ek.kind = 0
        · exact .inl ⟨h1, h2⟩
        · exact .inr (.inl ⟨h1, by rw [beq_eq_false_iff_ne]; exact h2⟩)
      · exact .inr (.inr h1)
    rcases h3 with ⟨hlt, hke⟩ | ⟨hlt, hkb⟩ | hlt
    case inl =>
      have hkb : (ek.kind == 0) = true := by rw [beq_iff_eq]; exact hke
      have HKE := Lib.hid hke
      obtain ⟨r, hr⟩ : ∃ r, r = stepS vk p := ⟨_, rfl⟩
      have HRR := Lib.hid hr
      clear hke hr
      go_wp2_with (first | (go_at_call 35; refine (stepR_any vk p g off c _ HF.out GP.out (PP.out.below KN.toBelow)).mono ?_; rintro e wx ⟨rfl, hb1⟩; replace KN := KN.below hb1; clear hb1; rw [← HRR.out]; unfold stepVal2) | ((with_reducible refine wpList_gate ?_); first | ((refine gate_load (by rfl) ?_); first | (refine wpList_kn_loadW KN (by rfl) 35 _ rfl _ rfl _ _ (by repeat (first | exact Has.here | refine Has.there ?_)) _ Try.underlying35 rfl (by kernel_rfl) ?_) | (refine wpList_kn_load1 KN (by rfl) 3 _ rfl _ _ rfl _ _ (by repeat (first | exact Has.here | refine Has.there ?_)) _ (by (repeat (first | ((with_reducible refine get_hit ?_); exact Nat.le_of_ble_eq_true (by kernel_rfl)) | ((with_reducible refine (get_miss ?_).trans ?_); (focus kernel_rfl)) | ((with_reducible refine (get_pmiss ?_).trans ?_); (focus kernel_rfl)))); all_goals (conv => lhs; whnf; arg 1; whnf)) _ Try.underlying3 rfl ?_) | (refine wpList_kn_loadW KN (by rfl) 33 _ rfl _ rfl _ _ (by repeat (first | exact Has.here | refine Has.there ?_)) _ Try.underlying33 rfl (by kernel_rfl) ?_)) | ((refine gate_store (by rfl) ?_); first | (refine wpList_kn_storeW KN (by rfl) 35 _ _ rfl _ rfl _ rfl _ _ (by repeat (first | exact Repl.here | apply Repl.there)) (by kernel_rfl) (by kernel_rfl) (by kernel_rfl) ?_; clear KN; intro wx KN) | (refine wpList_kn_storeA KN (by rfl) 35 _ _ rfl _ _ rfl _ rfl _ _ (by repeat (first | exact Repl.here | apply Repl.there)) (by (try simp only [Array.size_setIfInBounds, putL_size]); first | exact Nat.le_of_ble_eq_true rfl | (simp; omega)) (by kernel_rfl) (by kernel_rfl) ?_; clear KN; intro wx KN) | (refine wpList_kn_storeW KN (by rfl) 33 _ _ rfl _ rfl _ rfl _ _ (by repeat (first | exact Repl.here | apply Repl.there)) (by kernel_rfl) (by kernel_rfl) (by kernel_rfl) ?_; clear KN; intro wx KN) | (refine wpList_kn_storeA KN (by rfl) 33 _ _ rfl _ _ rfl _ rfl _ _ (by repeat (first | exact Repl.here | apply Repl.there)) (by (try simp only [Array.size_setIfInBounds, putL_size]); first | exact Nat.le_of_ble_eq_true rfl | (simp; omega)) (by kernel_rfl) (by kernel_rfl) ?_; clear KN; intro wx KN)) | ((refine gate_new (by rfl) ?_); first | (refine wpList_kn_boxA KN (by rfl) 35 _ rfl 3 rfl _ rfl ?_; clear KN; intro g3 wx hg3 KN) | (refine wpList_kn_alloc KN (by rfl) 35 rfl 6 rfl Vm.zero.cells (by kernel_rfl) ?_; clear KN; intro g6 wx hg6 KN) | (refine wpList_kn_alloc KN (by rfl) 33 rfl 8 rfl Eff.none.cells (by kernel_rfl) ?_; clear KN; intro g8 wx hg8 KN) | (refine wpList_built rfl 35 #[] rfl Vm.zero.cells (by kernel_rfl) ?_) | (refine wpList_built rfl 33 #[] rfl Eff.none.cells (by kernel_rfl) ?_) | (refine wpList_kn_alloc KN (by rfl) 33 rfl 11 rfl Eff.none.cells (by kernel_rfl) ?_; clear KN; intro g11 wx hg11 KN))))
      go_roundw
      case rel =>
        refine ⟨k + 1, r.1, r.2, hlt, by go_num, KN, ?_, ?_⟩
        · rw [HRR.out]; exact stepS_fits HF.out GP.out
        · rw [HR.out, runAt_next HKE.out hlt, HRR.out]
      case measure => simp [intOf]; omega
    case' inr.inl => have RV := Lib.hid (runVal_of2 HR.out (.inl (beq_eq_false_iff_ne.1 hkb)))
    case' inr.inr => have RV := Lib.hid (runVal_of2 HR.out (.inr (by omega)))
    case inr.inl =>
      go_wp2_with (first | ((with_reducible refine wpList_gate ?_); first | ((refine gate_load (by rfl) ?_); first | (refine wpList_kn_loadW KN (by rfl) 35 _ rfl _ rfl _ _ (by repeat (first | exact Has.here | refine Has.there ?_)) _ Try.underlying35 rfl (by kernel_rfl) ?_) | (refine wpList_kn_load1 KN (by rfl) 3 _ rfl _ _ rfl _ _ (by repeat (first | exact Has.here | refine Has.there ?_)) _ (by (repeat (first | ((with_reducible refine get_hit ?_); exact Nat.le_of_ble_eq_true (by kernel_rfl)) | ((with_reducible refine (get_miss ?_).trans ?_); (focus kernel_rfl)) | ((with_reducible refine (get_pmiss ?_).trans ?_); (focus kernel_rfl)))); all_goals (conv => lhs; whnf; arg 1; whnf)) _ Try.underlying3 rfl ?_) | (refine wpList_kn_loadW KN (by rfl) 33 _ rfl _ rfl _ _ (by repeat (first | exact Has.here | refine Has.there ?_)) _ Try.underlying33 rfl (by kernel_rfl) ?_)) | ((refine gate_store (by rfl) ?_); first | (refine wpList_kn_storeW KN (by rfl) 35 _ _ rfl _ rfl _ rfl _ _ (by repeat (first | exact Repl.here | apply Repl.there)) (by kernel_rfl) (by kernel_rfl) (by kernel_rfl) ?_; clear KN; intro wx KN) | (refine wpList_kn_storeA KN (by rfl) 35 _ _ rfl _ _ rfl _ rfl _ _ (by repeat (first | exact Repl.here | apply Repl.there)) (by (try simp only [Array.size_setIfInBounds, putL_size]); first | exact Nat.le_of_ble_eq_true rfl | (simp; omega)) (by kernel_rfl) (by kernel_rfl) ?_; clear KN; intro wx KN) | (refine wpList_kn_storeW KN (by rfl) 33 _ _ rfl _ rfl _ rfl _ _ (by repeat (first | exact Repl.here | apply Repl.there)) (by kernel_rfl) (by kernel_rfl) (by kernel_rfl) ?_; clear KN; intro wx KN) | (refine wpList_kn_storeA KN (by rfl) 33 _ _ rfl _ _ rfl _ rfl _ _ (by repeat (first | exact Repl.here | apply Repl.there)) (by (try simp only [Array.size_setIfInBounds, putL_size]); first | exact Nat.le_of_ble_eq_true rfl | (simp; omega)) (by kernel_rfl) (by kernel_rfl) ?_; clear KN; intro wx KN)) | ((refine gate_new (by rfl) ?_); first | (refine wpList_kn_boxA KN (by rfl) 35 _ rfl 3 rfl _ rfl ?_; clear KN; intro g3 wx hg3 KN) | (refine wpList_kn_alloc KN (by rfl) 35 rfl 6 rfl Vm.zero.cells (by kernel_rfl) ?_; clear KN; intro g6 wx hg6 KN) | (refine wpList_kn_alloc KN (by rfl) 33 rfl 8 rfl Eff.none.cells (by kernel_rfl) ?_; clear KN; intro g8 wx hg8 KN) | (refine wpList_built rfl 35 #[] rfl Vm.zero.cells (by kernel_rfl) ?_) | (refine wpList_built rfl 33 #[] rfl Eff.none.cells (by kernel_rfl) ?_) | (refine wpList_kn_alloc KN (by rfl) 33 rfl 11 rfl Eff.none.cells (by kernel_rfl) ?_; clear KN; intro g11 wx hg11 KN))))
      replace KN := KN.drew
      refine wp_region_held_drew (S := (fun w' => BlkT w' g3 vk.cells 35 ∧ BlkT w' g11 ek.cells 33)) (by kernel_rfl) ?qahS (fun hHeld => ?qarest)
      case qahS => exact ⟨KN.at_ (by repeat (first | exact Has.here | refine Has.there ?_)), KN.at_ (by repeat (first | exact Has.here | refine Has.there ?_))⟩
      refine wpAnyH_take (i := 0) (oi := ⟨some 51, _, _, _, _, _⟩) (v := (.agg vk.cells)) rfl (by kernel_rfl) (by kernel_rfl) (by kernel_rfl) (fun _ _ _ h => h) (kn_yieldsN (by rfl) 35 _ rfl g3 0 rfl _ 35 (fun _ h => h.1) _ (extract_whole _) _ Try.underlying35 rfl vm_size) hHeld ?qar0
      (try simp only [Act.put, List.setIfInBounds_toArray, List.set_cons_zero, List.set_cons_succ])
      refine wpAnyH_take (i := 1) (oi := ⟨some 52, _, _, _, _, _⟩) (v := ?qav1) rfl (by kernel_rfl) (by kernel_rfl) (by kernel_rfl) (fun _ _ _ h => h) (Or.inl ⟨by rfl, ?qahy1⟩) hHeld ?qar1
      case qahy1 => (intro w hSw; (try dsimp only at hSw); go_simp; (try with_reducible rfl))
      (try simp only [Act.put, List.setIfInBounds_toArray, List.set_cons_zero, List.set_cons_succ])
      refine wpAnyH_take (i := 2) (oi := ⟨some 53, _, _, _, _, _⟩) (v := (.agg ek.cells)) rfl (by kernel_rfl) (by kernel_rfl) (by kernel_rfl) (fun _ _ _ h => h) (kn_yieldsN (by rfl) 33 _ rfl g11 0 rfl _ 33 (fun _ h => h.2) _ (extract_whole _) _ Try.underlying33 rfl eff_size) hHeld ?qar2
      (try simp only [Act.put, List.setIfInBounds_toArray, List.set_cons_zero, List.set_cons_succ])
      refine wpAnyH_ready (rs := [3]) (by kernel_rfl) (by simp) ?qac3
      refine AllReadyH.cons (o := ⟨none, _, _, _, _, _⟩) rfl (fun K hK => ?qast3) AllReadyH.nil
      (rw [if_pos (by rfl)]; refine wp_kn_storeW KN 35 _ _ rfl _ rfl _ rfl _ _ (by repeat (first | exact Repl.here | apply Repl.there)) (by kernel_rfl) (by kernel_rfl) (by kernel_rfl) ?_; clear KN; intro wx KN)
      refine hK.out _ _ ?qak3 (fun hHeld2 => ?qam3)
      case qak3 => exact ⟨KN.at_ (by repeat (first | exact Has.here | refine Has.there ?_)), KN.at_ (by repeat (first | exact Has.here | refine Has.there ?_))⟩
      clear hK K hHeld
      have hHeld := hHeld2; clear hHeld2
      (try simp only [Act.put, List.setIfInBounds_toArray, List.set_cons_zero, List.set_cons_succ])
      refine wpAnyH_take (i := 4) (oi := ⟨some 7, _, _, _, _, _⟩) (v := ?qav4) rfl (by kernel_rfl) (by kernel_rfl) (by kernel_rfl) (fun _ _ _ h => h) (Or.inl ⟨by rfl, ?qahy4⟩) hHeld ?qar4
      case qahy4 => (intro w hSw; (try dsimp only at hSw); go_simp; (try with_reducible rfl))
      (try simp only [Act.put, List.setIfInBounds_toArray, List.set_cons_zero, List.set_cons_succ])
      refine wpAnyH_ready (rs := [5]) (by kernel_rfl) (by simp) ?qac5
      refine AllReadyH.cons (o := ⟨none, _, _, _, _, _⟩) rfl (fun K hK => ?qast5) AllReadyH.nil
      (rw [if_pos (by rfl)]; refine wp_kn_storeW KN 33 _ _ rfl _ rfl _ rfl _ _ (by repeat (first | exact Repl.here | apply Repl.there)) (by kernel_rfl) (by kernel_rfl) (by kernel_rfl) ?_; clear KN; intro wx KN)
      refine hK.out _ _ ?qak5 (fun hHeld2 => ?qam5)
      case qak5 => exact ⟨KN.at_ (by repeat (first | exact Has.here | refine Has.there ?_)), KN.at_ (by repeat (first | exact Has.here | refine Has.there ?_))⟩
      clear hK K hHeld
      have hHeld := hHeld2; clear hHeld2
      (try simp only [Act.put, List.setIfInBounds_toArray, List.set_cons_zero, List.set_cons_succ])
      refine wpAnyH_take (i := 6) (oi := ⟨some 9, _, _, _, _, _⟩) (v := ?qav6) rfl (by kernel_rfl) (by kernel_rfl) (by kernel_rfl) (fun _ _ _ h => h) (Or.inl ⟨by rfl, ?qahy6⟩) hHeld ?qar6
      case qahy6 => (intro w hSw; (try dsimp only at hSw); go_simp; (try with_reducible rfl))
      (try simp only [Act.put, List.setIfInBounds_toArray, List.set_cons_zero, List.set_cons_succ])
      refine wpAnyH_done (by kernel_rfl) ?qadone _
      clear hHeld
      go_wp2_with fail
      refine bodyPost_ret (results_ctct Try.results27 _ _ _ _ vk.cells ek.cells _ _ rfl (load_vm (KN.at_ (by repeat (first | exact Has.here | refine Has.there ?_)))) rfl rfl (load_eff (KN.at_ (by repeat (first | exact Has.here | refine Has.there ?_)))) rfl) rfl ⟨?_, KN.toBelow⟩
      rw [RV.out]
      rfl
    case inr.inr =>
      go_wp2_with (first | ((with_reducible refine wpList_gate ?_); first | ((refine gate_load (by rfl) ?_); first | (refine wpList_kn_loadW KN (by rfl) 35 _ rfl _ rfl _ _ (by repeat (first | exact Has.here | refine Has.there ?_)) _ Try.underlying35 rfl (by kernel_rfl) ?_) | (refine wpList_kn_load1 KN (by rfl) 3 _ rfl _ _ rfl _ _ (by repeat (first | exact Has.here | refine Has.there ?_)) _ (by (repeat (first | ((with_reducible refine get_hit ?_); exact Nat.le_of_ble_eq_true (by kernel_rfl)) | ((with_reducible refine (get_miss ?_).trans ?_); (focus kernel_rfl)) | ((with_reducible refine (get_pmiss ?_).trans ?_); (focus kernel_rfl)))); all_goals (conv => lhs; whnf; arg 1; whnf)) _ Try.underlying3 rfl ?_) | (refine wpList_kn_loadW KN (by rfl) 33 _ rfl _ rfl _ _ (by repeat (first | exact Has.here | refine Has.there ?_)) _ Try.underlying33 rfl (by kernel_rfl) ?_)) | ((refine gate_store (by rfl) ?_); first | (refine wpList_kn_storeW KN (by rfl) 35 _ _ rfl _ rfl _ rfl _ _ (by repeat (first | exact Repl.here | apply Repl.there)) (by kernel_rfl) (by kernel_rfl) (by kernel_rfl) ?_; clear KN; intro wx KN) | (refine wpList_kn_storeA KN (by rfl) 35 _ _ rfl _ _ rfl _ rfl _ _ (by repeat (first | exact Repl.here | apply Repl.there)) (by (try simp only [Array.size_setIfInBounds, putL_size]); first | exact Nat.le_of_ble_eq_true rfl | (simp; omega)) (by kernel_rfl) (by kernel_rfl) ?_; clear KN; intro wx KN) | (refine wpList_kn_storeW KN (by rfl) 33 _ _ rfl _ rfl _ rfl _ _ (by repeat (first | exact Repl.here | apply Repl.there)) (by kernel_rfl) (by kernel_rfl) (by kernel_rfl) ?_; clear KN; intro wx KN) | (refine wpList_kn_storeA KN (by rfl) 33 _ _ rfl _ _ rfl _ rfl _ _ (by repeat (first | exact Repl.here | apply Repl.there)) (by (try simp only [Array.size_setIfInBounds, putL_size]); first | exact Nat.le_of_ble_eq_true rfl | (simp; omega)) (by kernel_rfl) (by kernel_rfl) ?_; clear KN; intro wx KN)) | ((refine gate_new (by rfl) ?_); first | (refine wpList_kn_boxA KN (by rfl) 35 _ rfl 3 rfl _ rfl ?_; clear KN; intro g3 wx hg3 KN) | (refine wpList_kn_alloc KN (by rfl) 35 rfl 6 rfl Vm.zero.cells (by kernel_rfl) ?_; clear KN; intro g6 wx hg6 KN) | (refine wpList_kn_alloc KN (by rfl) 33 rfl 8 rfl Eff.none.cells (by kernel_rfl) ?_; clear KN; intro g8 wx hg8 KN) | (refine wpList_built rfl 35 #[] rfl Vm.zero.cells (by kernel_rfl) ?_) | (refine wpList_built rfl 33 #[] rfl Eff.none.cells (by kernel_rfl) ?_) | (refine wpList_kn_alloc KN (by rfl) 33 rfl 11 rfl Eff.none.cells (by kernel_rfl) ?_; clear KN; intro g11 wx hg11 KN))))
      replace KN := KN.drew
      refine wp_region_held_drew (S := (fun w' => BlkT w' g3 vk.cells 35 ∧ BlkT w' g11 ek.cells 33)) (by kernel_rfl) ?qbhS (fun hHeld => ?qbrest)
      case qbhS => exact ⟨KN.at_ (by repeat (first | exact Has.here | refine Has.there ?_)), KN.at_ (by repeat (first | exact Has.here | refine Has.there ?_))⟩
      refine wpAnyH_take (i := 0) (oi := ⟨some 51, _, _, _, _, _⟩) (v := (.agg vk.cells)) rfl (by kernel_rfl) (by kernel_rfl) (by kernel_rfl) (fun _ _ _ h => h) (kn_yieldsN (by rfl) 35 _ rfl g3 0 rfl _ 35 (fun _ h => h.1) _ (extract_whole _) _ Try.underlying35 rfl vm_size) hHeld ?qbr0
      (try simp only [Act.put, List.setIfInBounds_toArray, List.set_cons_zero, List.set_cons_succ])
      refine wpAnyH_take (i := 1) (oi := ⟨some 52, _, _, _, _, _⟩) (v := ?qbv1) rfl (by kernel_rfl) (by kernel_rfl) (by kernel_rfl) (fun _ _ _ h => h) (Or.inl ⟨by rfl, ?qbhy1⟩) hHeld ?qbr1
      case qbhy1 => (intro w hSw; (try dsimp only at hSw); go_simp; (try with_reducible rfl))
      (try simp only [Act.put, List.setIfInBounds_toArray, List.set_cons_zero, List.set_cons_succ])
      refine wpAnyH_take (i := 2) (oi := ⟨some 53, _, _, _, _, _⟩) (v := (.agg ek.cells)) rfl (by kernel_rfl) (by kernel_rfl) (by kernel_rfl) (fun _ _ _ h => h) (kn_yieldsN (by rfl) 33 _ rfl g11 0 rfl _ 33 (fun _ h => h.2) _ (extract_whole _) _ Try.underlying33 rfl eff_size) hHeld ?qbr2
      (try simp only [Act.put, List.setIfInBounds_toArray, List.set_cons_zero, List.set_cons_succ])
      refine wpAnyH_ready (rs := [3]) (by kernel_rfl) (by simp) ?qbc3
      refine AllReadyH.cons (o := ⟨none, _, _, _, _, _⟩) rfl (fun K hK => ?qbst3) AllReadyH.nil
      (rw [if_pos (by rfl)]; refine wp_kn_storeW KN 35 _ _ rfl _ rfl _ rfl _ _ (by repeat (first | exact Repl.here | apply Repl.there)) (by kernel_rfl) (by kernel_rfl) (by kernel_rfl) ?_; clear KN; intro wx KN)
      refine hK.out _ _ ?qbk3 (fun hHeld2 => ?qbm3)
      case qbk3 => exact ⟨KN.at_ (by repeat (first | exact Has.here | refine Has.there ?_)), KN.at_ (by repeat (first | exact Has.here | refine Has.there ?_))⟩
      clear hK K hHeld
      have hHeld := hHeld2; clear hHeld2
      (try simp only [Act.put, List.setIfInBounds_toArray, List.set_cons_zero, List.set_cons_succ])
      refine wpAnyH_take (i := 4) (oi := ⟨some 7, _, _, _, _, _⟩) (v := ?qbv4) rfl (by kernel_rfl) (by kernel_rfl) (by kernel_rfl) (fun _ _ _ h => h) (Or.inl ⟨by rfl, ?qbhy4⟩) hHeld ?qbr4
      case qbhy4 => (intro w hSw; (try dsimp only at hSw); go_simp; (try with_reducible rfl))
      (try simp only [Act.put, List.setIfInBounds_toArray, List.set_cons_zero, List.set_cons_succ])
      refine wpAnyH_ready (rs := [5]) (by kernel_rfl) (by simp) ?qbc5
      refine AllReadyH.cons (o := ⟨none, _, _, _, _, _⟩) rfl (fun K hK => ?qbst5) AllReadyH.nil
      (rw [if_pos (by rfl)]; refine wp_kn_storeW KN 33 _ _ rfl _ rfl _ rfl _ _ (by repeat (first | exact Repl.here | apply Repl.there)) (by kernel_rfl) (by kernel_rfl) (by kernel_rfl) ?_; clear KN; intro wx KN)
      refine hK.out _ _ ?qbk5 (fun hHeld2 => ?qbm5)
      case qbk5 => exact ⟨KN.at_ (by repeat (first | exact Has.here | refine Has.there ?_)), KN.at_ (by repeat (first | exact Has.here | refine Has.there ?_))⟩
      clear hK K hHeld
      have hHeld := hHeld2; clear hHeld2
      (try simp only [Act.put, List.setIfInBounds_toArray, List.set_cons_zero, List.set_cons_succ])
      refine wpAnyH_take (i := 6) (oi := ⟨some 9, _, _, _, _, _⟩) (v := ?qbv6) rfl (by kernel_rfl) (by kernel_rfl) (by kernel_rfl) (fun _ _ _ h => h) (Or.inl ⟨by rfl, ?qbhy6⟩) hHeld ?qbr6
      case qbhy6 => (intro w hSw; (try dsimp only at hSw); go_simp; (try with_reducible rfl))
      (try simp only [Act.put, List.setIfInBounds_toArray, List.set_cons_zero, List.set_cons_succ])
      refine wpAnyH_done (by kernel_rfl) ?qbdone _
      clear hHeld
      go_wp2_with fail
      refine bodyPost_ret (results_ctct Try.results27 _ _ _ _ vk.cells ek.cells _ _ rfl (load_vm (KN.at_ (by repeat (first | exact Has.here | refine Has.there ?_)))) rfl rfl (load_eff (KN.at_ (by repeat (first | exact Has.here | refine Has.there ?_)))) rfl) rfl ⟨?_, KN.toBelow⟩
      rw [RV.out]
      rfl
theorem RRun_any (v : Vm) (va : Value) (p : List Ins) (n : Int) (w : World) (ht : v.typed) (hp : Instrs w va p) :
    Calls Try.prog 27 #[.agg v.cells, va, .int .i64 n] w fun en w' => en = .returned (runVal (runRes v p n)) ∧ Below w.heap.size w w' := by
  by_cases h : checkE v p (betw n) = 0
  · rw [runRes_ok h]; exact RRun_ok v va p n w ht hp h
  · rw [runRes_no h]; exact RRun_no v va p n w ht hp h
end Go.Proofs.Ytbllialcfmpkaaa
