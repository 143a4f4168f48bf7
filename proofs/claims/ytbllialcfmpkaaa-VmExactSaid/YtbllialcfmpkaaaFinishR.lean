/- The reference's Finish. -/
import Derived.Test.YtbllialcfmpkaaaFinish
set_option linter.unusedVariables false
set_option linter.unusedSimpArgs false
set_option linter.unusedSectionVars false
namespace Go.Proofs.Ytbllialcfmpkaaa
open Go.RowKit
set_option maxRecDepth 100000 in
set_option maxHeartbeats 1000000 in
theorem RFinish_no (v : Vm) (va : Value) (xs : List Int) (w : World) (ht : v.typed) (hx : U64s w va xs) (h : ¬ v.waitErr = 0) :
    Calls Try.prog 22 #[.agg v.cells, va] w fun e w' => e = .returned (pairVal (Vm.zero, v.waitErr)) ∧ Below w.heap.size w w' := by
  have KN := Kn.start w
  obtain ⟨a, c, rfl, -⟩ := hx.form
  rcases v.waitErr_cases with ⟨h0, he⟩ | ⟨h0, h1, he⟩ | ⟨h0, h1, he⟩
  case inr.inl => exact absurd he h
  case' inr.inr => have hb : (v.state != 1) = true := by rw [bne_iff_ne]; exact h1
  case' inr.inr => clear h1
  all_goals
    rw [he]
    have H0 := Lib.hid h0
    clear h0 he h hx
    go_enter Try.func22, Try.ntmps22
    go_wp2_with (first | (go_at_call 25; refine (RValid_any v _ ht).mono ?_; rintro e w1 ⟨rfl, hb1⟩; replace KN := KN.below hb1; clear hb1; rw [H0.out]) | ((with_reducible refine wpList_gate ?_); first | ((refine gate_load (by rfl) ?_); first | (refine wpList_kn_loadW KN (by rfl) 35 _ rfl _ rfl _ _ (by repeat (first | exact Has.here | refine Has.there ?_)) _ Try.underlying35 rfl (by kernel_rfl) ?_) | (refine wpList_kn_load1 KN (by rfl) 3 _ rfl _ _ rfl _ _ (by repeat (first | exact Has.here | refine Has.there ?_)) _ (by (repeat (first | ((with_reducible refine get_hit ?_); exact Nat.le_of_ble_eq_true (by kernel_rfl)) | ((with_reducible refine (get_miss ?_).trans ?_); (focus kernel_rfl)) | ((with_reducible refine (get_pmiss ?_).trans ?_); (focus kernel_rfl)))); all_goals (conv => lhs; whnf; arg 1; whnf)) _ Try.underlying3 rfl ?_) | (refine wpList_kn_load1 KN (by rfl) 30 _ rfl _ _ rfl _ _ (by repeat (first | exact Has.here | refine Has.there ?_)) _ (by (repeat (first | ((with_reducible refine get_hit ?_); exact Nat.le_of_ble_eq_true (by kernel_rfl)) | ((with_reducible refine (get_miss ?_).trans ?_); (focus kernel_rfl)) | ((with_reducible refine (get_pmiss ?_).trans ?_); (focus kernel_rfl)))); all_goals (conv => lhs; whnf; arg 1; whnf)) _ Try.underlying30 rfl ?_)) | ((refine gate_store (by rfl) ?_); first | (refine wpList_kn_storeW KN (by rfl) 35 _ _ rfl _ rfl _ rfl _ _ (by repeat (first | exact Repl.here | apply Repl.there)) (by kernel_rfl) (by kernel_rfl) (by kernel_rfl) ?_; clear KN; intro wx KN) | (refine wpList_kn_storeA KN (by rfl) 35 _ _ rfl _ _ rfl _ rfl _ _ (by repeat (first | exact Repl.here | apply Repl.there)) (by (try simp only [Array.size_setIfInBounds, putL_size]); first | exact Nat.le_of_ble_eq_true rfl | (simp; omega)) (by kernel_rfl) (by kernel_rfl) ?_; clear KN; intro wx KN) | (refine wpList_kn_store1 KN (by rfl) 30 _ _ rfl _ _ rfl _ (by conv => lhs; whnf) (by rfl) _ _ (by repeat (first | exact Repl.here | apply Repl.there)) (by (try simp only [Array.size_setIfInBounds, putL_size]); first | exact Nat.le_of_ble_eq_true rfl | (simp; omega)) (by kernel_rfl) (by rfl) ?_; clear KN; intro wx KN) | (refine wpList_kn_store1 KN (by rfl) 3 _ _ rfl _ _ rfl _ (by conv => lhs; whnf) (by rfl) _ _ (by repeat (first | exact Repl.here | apply Repl.there)) (by (try simp only [Array.size_setIfInBounds, putL_size]); first | exact Nat.le_of_ble_eq_true rfl | (simp; omega)) (by kernel_rfl) (by rfl) ?_; clear KN; intro wx KN) | (refine wpList_kn_storeW KN (by rfl) 33 _ _ rfl _ rfl _ rfl _ _ (by repeat (first | exact Repl.here | apply Repl.there)) (by kernel_rfl) (by kernel_rfl) (by kernel_rfl) ?_; clear KN; intro wx KN) | (refine wpList_kn_storeA KN (by rfl) 33 _ _ rfl _ _ rfl _ rfl _ _ (by repeat (first | exact Repl.here | apply Repl.there)) (by (try simp only [Array.size_setIfInBounds, putL_size]); first | exact Nat.le_of_ble_eq_true rfl | (simp; omega)) (by kernel_rfl) (by kernel_rfl) ?_; clear KN; intro wx KN)) | ((refine gate_new (by rfl) ?_); first | (refine wpList_kn_boxA KN (by rfl) 35 _ rfl 2 rfl _ rfl ?_; clear KN; intro g2 wx hg2 KN) | (refine wpList_kn_alloc KN (by rfl) 35 rfl 4 rfl Vm.zero.cells (by kernel_rfl) ?_; clear KN; intro g4 wx hg4 KN) | (refine wpList_built rfl 35 #[] rfl Vm.zero.cells (by kernel_rfl) ?_) | (refine wpList_built rfl 33 #[] rfl Eff.none.cells (by kernel_rfl) ?_))))
    exact bodyPost_ret (results_ct Try.results22 _ _ _ Vm.zero.cells _ rfl (load_vm (KN.at_ (by repeat (first | exact Has.here | refine Has.there ?_)))) rfl) rfl ⟨rfl, KN.toBelow⟩
set_option maxRecDepth 100000 in
set_option maxHeartbeats 2000000 in
theorem RFinish_bad (wd pc st ca : Int) (regs : List Int) (kd nm ad vl : Int) (R : Nat) (va : Value) (xs : List Int) (w : World) (hk : kd = 1 ∨ kd = 2 ∨ kd = 3) (ht : Vm.typed ⟨wd, pc, st, ca, regs, ⟨kd, R, nm, ad, vl⟩⟩) (hx : U64s w va xs) (h : Vm.waitErr ⟨wd, pc, st, ca, regs, ⟨kd, R, nm, ad, vl⟩⟩ = 0) (hn : finOk kd xs.length = false) :
    Calls Try.prog 22 #[.agg (Vm.mk wd pc st ca regs ⟨kd, R, nm, ad, vl⟩).cells, va] w fun e w' => e = .returned (pairVal (Vm.zero, 1)) ∧ Below w.heap.size w w' := by
  have KN := Kn.start w
  obtain ⟨a, c, rfl, hxl, -⟩ := hx.form
  obtain ⟨v, hv⟩ : ∃ v : Vm, v = ⟨wd, pc, st, ca, regs, ⟨kd, R, nm, ad, vl⟩⟩ := ⟨_, rfl⟩
  rw [← hv] at ht h ⊢
  have hs := (Vm.wait_ok h).2
  have hsb : (v.state != 1) = false := by rw [bne_eq_false_iff_eq]; exact hs
  have HOK := Lib.hid (Vm.wait_ok h).1
  have hg20 : v.cells[20]? = some (.int .i64 kd) := by rw [hv]; rfl
  have G20 := Lib.hid hg20
  have HT := Lib.hid ht
  clear hx h hg20 hv ht hs
  unfold maxLen at hxl
  obtain ⟨n, hnn⟩ : ∃ n, n = xs.length := ⟨_, rfl⟩
  rw [← hnn] at hn hxl ⊢
  clear hnn
  rcases hk with rfl | rfl | rfl
  case' inl => have hne : ((n : Int) != 1) = true := by simp [finOk] at hn; rw [bne_iff_ne]; omega
  case' inr.inl => have hne : ((n : Int) != 0) = true := by simp [finOk] at hn; rw [bne_iff_ne]; omega
  case' inr.inr => have hne : 5 ≤ n := by simp [finOk] at hn; omega
  all_goals
    clear hn
    go_enter Try.func22, Try.ntmps22
    go_wp2_with (first | (go_at_call 25; refine (RValid_any v _ HT.out).mono ?_; rintro e w1 ⟨rfl, hb1⟩; replace KN := KN.below hb1; clear hb1; rw [HOK.out]) | ((with_reducible refine wpList_gate ?_); first | ((refine gate_load (by rfl) ?_); first | (refine wpList_kn_load1 KN (by rfl) 3 (.tmp 19) rfl g2 20 rfl _ _ (by repeat (first | exact Has.here | refine Has.there ?_)) _ G20.out _ Try.underlying3 rfl ?_) | (refine wpList_kn_loadW KN (by rfl) 35 _ rfl _ rfl _ _ (by repeat (first | exact Has.here | refine Has.there ?_)) _ Try.underlying35 rfl (by kernel_rfl) ?_) | (refine wpList_kn_load1 KN (by rfl) 3 _ rfl _ _ rfl _ _ (by repeat (first | exact Has.here | refine Has.there ?_)) _ (by (repeat (first | ((with_reducible refine get_hit ?_); exact Nat.le_of_ble_eq_true (by kernel_rfl)) | ((with_reducible refine (get_miss ?_).trans ?_); (focus kernel_rfl)) | ((with_reducible refine (get_pmiss ?_).trans ?_); (focus kernel_rfl)))); all_goals (conv => lhs; whnf; arg 1; whnf)) _ Try.underlying3 rfl ?_) | (refine wpList_kn_load1 KN (by rfl) 30 _ rfl _ _ rfl _ _ (by repeat (first | exact Has.here | refine Has.there ?_)) _ (by (repeat (first | ((with_reducible refine get_hit ?_); exact Nat.le_of_ble_eq_true (by kernel_rfl)) | ((with_reducible refine (get_miss ?_).trans ?_); (focus kernel_rfl)) | ((with_reducible refine (get_pmiss ?_).trans ?_); (focus kernel_rfl)))); all_goals (conv => lhs; whnf; arg 1; whnf)) _ Try.underlying30 rfl ?_)) | ((refine gate_store (by rfl) ?_); first | (refine wpList_kn_storeW KN (by rfl) 35 _ _ rfl _ rfl _ rfl _ _ (by repeat (first | exact Repl.here | apply Repl.there)) (by kernel_rfl) (by kernel_rfl) (by kernel_rfl) ?_; clear KN; intro wx KN) | (refine wpList_kn_storeA KN (by rfl) 35 _ _ rfl _ _ rfl _ rfl _ _ (by repeat (first | exact Repl.here | apply Repl.there)) (by (try simp only [Array.size_setIfInBounds, putL_size]); first | exact Nat.le_of_ble_eq_true rfl | (simp; omega)) (by kernel_rfl) (by kernel_rfl) ?_; clear KN; intro wx KN) | (refine wpList_kn_store1 KN (by rfl) 30 _ _ rfl _ _ rfl _ (by conv => lhs; whnf) (by rfl) _ _ (by repeat (first | exact Repl.here | apply Repl.there)) (by (try simp only [Array.size_setIfInBounds, putL_size]); first | exact Nat.le_of_ble_eq_true rfl | (simp; omega)) (by kernel_rfl) (by rfl) ?_; clear KN; intro wx KN) | (refine wpList_kn_store1 KN (by rfl) 3 _ _ rfl _ _ rfl _ (by conv => lhs; whnf) (by rfl) _ _ (by repeat (first | exact Repl.here | apply Repl.there)) (by (try simp only [Array.size_setIfInBounds, putL_size]); first | exact Nat.le_of_ble_eq_true rfl | (simp; omega)) (by kernel_rfl) (by rfl) ?_; clear KN; intro wx KN) | (refine wpList_kn_storeW KN (by rfl) 33 _ _ rfl _ rfl _ rfl _ _ (by repeat (first | exact Repl.here | apply Repl.there)) (by kernel_rfl) (by kernel_rfl) (by kernel_rfl) ?_; clear KN; intro wx KN) | (refine wpList_kn_storeA KN (by rfl) 33 _ _ rfl _ _ rfl _ rfl _ _ (by repeat (first | exact Repl.here | apply Repl.there)) (by (try simp only [Array.size_setIfInBounds, putL_size]); first | exact Nat.le_of_ble_eq_true rfl | (simp; omega)) (by kernel_rfl) (by kernel_rfl) ?_; clear KN; intro wx KN)) | ((refine gate_new (by rfl) ?_); first | (refine wpList_kn_boxA KN (by rfl) 35 _ rfl 2 rfl _ rfl ?_; clear KN; intro g2 wx hg2 KN) | (refine wpList_kn_alloc KN (by rfl) 35 rfl 4 rfl Vm.zero.cells (by kernel_rfl) ?_; clear KN; intro g4 wx hg4 KN) | (refine wpList_built rfl 35 #[] rfl Vm.zero.cells (by kernel_rfl) ?_) | (refine wpList_built rfl 33 #[] rfl Eff.none.cells (by kernel_rfl) ?_))))
    exact bodyPost_ret (results_ct Try.results22 _ _ _ Vm.zero.cells _ rfl (load_vm (KN.at_ (by repeat (first | exact Has.here | refine Has.there ?_)))) rfl) rfl ⟨rfl, KN.toBelow⟩
/-- What is so at each round's head. -/
def FRelR (v : Vm) (xs : List Int) (g2 g4 : Nat) (W : World) (cn : Value) (wr : World) : Prop :=
  ∃ (k : Nat), k ≤ xs.length ∧ cn = .int .i64 k ∧ Kn [] W wr [(g4, At Vm.zero.cells 35), (g2, At (v.setRs 0 (xs.take k)).cells 35)]
set_option maxRecDepth 100000 in
set_option maxHeartbeats 2000000 in
theorem RFinish_3 (wd pc st ca : Int) (regs : List Int) (nm ad vl : Int) (va : Value) (xs : List Int) (w : World) (ht : Vm.typed ⟨wd, pc, st, ca, regs, ⟨3, 0, nm, ad, vl⟩⟩) (hx : U64s w va xs) (h : Vm.waitErr ⟨wd, pc, st, ca, regs, ⟨3, 0, nm, ad, vl⟩⟩ = 0) (hr : xs.length ≤ 4) :
    Calls Try.prog 22 #[.agg (Vm.mk wd pc st ca regs ⟨3, 0, nm, ad, vl⟩).cells, va] w fun e w' => e = .returned (pairVal (finV ⟨wd, pc, st, ca, regs, ⟨3, 0, nm, ad, vl⟩⟩ xs, 0)) ∧ Below w.heap.size w w' := by
  have KN := Kn.start w
  obtain ⟨a, c, rfl, hxl, hxc⟩ := hx.form
  have HC := Lib.hid hxc
  have HX := Lib.hid hx
  obtain ⟨v, hv⟩ : ∃ v : Vm, v = ⟨wd, pc, st, ca, regs, ⟨3, 0, nm, ad, vl⟩⟩ := ⟨_, rfl⟩
  rw [← hv] at ht h ⊢
  have hs := (Vm.wait_ok h).2
  have hsb : (v.state != 1) = false := by rw [bne_eq_false_iff_eq]; exact hs
  have HOK := Lib.hid (Vm.wait_ok h).1
  have FT := Lib.hid (Vm.ok_fits (Vm.wait_ok h).1 ht)
  have hreg : v.wait.reg = 0 := by rw [hv]
  have hg20 : v.cells[20]? = some (.int .i64 3) := by rw [hv]; rfl
  have G20 := Lib.hid hg20
  have HREG := Lib.hid hreg
  have HT := Lib.hid ht
  clear hx hxc h hreg hg20 hv ht hs
  unfold maxLen at hxl
  obtain ⟨n, hnn⟩ : ∃ n, n = xs.length := ⟨_, rfl⟩
  rw [← hnn] at hr hxl ⊢
  have HN := Lib.hid hnn
  clear hnn
  go_enter Try.func22, Try.ntmps22
  go_wp2_with (first | (go_at_call 25; refine (RValid_any v _ HT.out).mono ?_; rintro e w1 ⟨rfl, hb1⟩; replace KN := KN.below hb1; clear hb1; rw [HOK.out]) | ((with_reducible refine wpList_gate ?_); first | ((refine gate_load (by rfl) ?_); first | (refine wpList_kn_load1 KN (by rfl) 3 (.tmp 19) rfl g2 20 rfl _ _ (by repeat (first | exact Has.here | refine Has.there ?_)) _ G20.out _ Try.underlying3 rfl ?_) | (refine wpList_kn_loadW KN (by rfl) 35 _ rfl _ rfl _ _ (by repeat (first | exact Has.here | refine Has.there ?_)) _ Try.underlying35 rfl (by kernel_rfl) ?_) | (refine wpList_kn_load1 KN (by rfl) 3 _ rfl _ _ rfl _ _ (by repeat (first | exact Has.here | refine Has.there ?_)) _ (by (repeat (first | ((with_reducible refine get_hit ?_); exact Nat.le_of_ble_eq_true (by kernel_rfl)) | ((with_reducible refine (get_miss ?_).trans ?_); (focus kernel_rfl)) | ((with_reducible refine (get_pmiss ?_).trans ?_); (focus kernel_rfl)))); all_goals (conv => lhs; whnf; arg 1; whnf)) _ Try.underlying3 rfl ?_) | (refine wpList_kn_load1 KN (by rfl) 30 _ rfl _ _ rfl _ _ (by repeat (first | exact Has.here | refine Has.there ?_)) _ (by (repeat (first | ((with_reducible refine get_hit ?_); exact Nat.le_of_ble_eq_true (by kernel_rfl)) | ((with_reducible refine (get_miss ?_).trans ?_); (focus kernel_rfl)) | ((with_reducible refine (get_pmiss ?_).trans ?_); (focus kernel_rfl)))); all_goals (conv => lhs; whnf; arg 1; whnf)) _ Try.underlying30 rfl ?_)) | ((refine gate_store (by rfl) ?_); first | (refine wpList_kn_storeW KN (by rfl) 35 _ _ rfl _ rfl _ rfl _ _ (by repeat (first | exact Repl.here | apply Repl.there)) (by kernel_rfl) (by kernel_rfl) (by kernel_rfl) ?_; clear KN; intro wx KN) | (refine wpList_kn_storeA KN (by rfl) 35 _ _ rfl _ _ rfl _ rfl _ _ (by repeat (first | exact Repl.here | apply Repl.there)) (by (try simp only [Array.size_setIfInBounds, putL_size]); first | exact Nat.le_of_ble_eq_true rfl | (simp; omega)) (by kernel_rfl) (by kernel_rfl) ?_; clear KN; intro wx KN) | (refine wpList_kn_store1 KN (by rfl) 30 _ _ rfl _ _ rfl _ (by conv => lhs; whnf) (by rfl) _ _ (by repeat (first | exact Repl.here | apply Repl.there)) (by (try simp only [Array.size_setIfInBounds, putL_size]); first | exact Nat.le_of_ble_eq_true rfl | (simp; omega)) (by kernel_rfl) (by rfl) ?_; clear KN; intro wx KN) | (refine wpList_kn_store1 KN (by rfl) 3 _ _ rfl _ _ rfl _ (by conv => lhs; whnf) (by rfl) _ _ (by repeat (first | exact Repl.here | apply Repl.there)) (by (try simp only [Array.size_setIfInBounds, putL_size]); first | exact Nat.le_of_ble_eq_true rfl | (simp; omega)) (by kernel_rfl) (by rfl) ?_; clear KN; intro wx KN) | (refine wpList_kn_storeW KN (by rfl) 33 _ _ rfl _ rfl _ rfl _ _ (by repeat (first | exact Repl.here | apply Repl.there)) (by kernel_rfl) (by kernel_rfl) (by kernel_rfl) ?_; clear KN; intro wx KN) | (refine wpList_kn_storeA KN (by rfl) 33 _ _ rfl _ _ rfl _ rfl _ _ (by repeat (first | exact Repl.here | apply Repl.there)) (by (try simp only [Array.size_setIfInBounds, putL_size]); first | exact Nat.le_of_ble_eq_true rfl | (simp; omega)) (by kernel_rfl) (by kernel_rfl) ?_; clear KN; intro wx KN)) | ((refine gate_new (by rfl) ?_); first | (refine wpList_kn_boxA KN (by rfl) 35 _ rfl 2 rfl _ rfl ?_; clear KN; intro g2 wx hg2 KN) | (refine wpList_kn_alloc KN (by rfl) 35 rfl 4 rfl Vm.zero.cells (by kernel_rfl) ?_; clear KN; intro g4 wx hg4 KN) | (refine wpList_built rfl 35 #[] rfl Vm.zero.cells (by kernel_rfl) ?_) | (refine wpList_built rfl 33 #[] rfl Eff.none.cells (by kernel_rfl) ?_))))
  have HREL : Hid (FRelR v xs g2 g4 w (.int .i64 0) w1) := Lib.hid ⟨0, Nat.zero_le _, rfl, KN⟩
  clear KN
  go_loopw [7] (fun cn wr => FRelR v xs g2 g4 w cn wr) (fun cn _ => n - (intOf cn).toNat)
  case atStart => exact HREL.out
  case round =>
    obtain ⟨k, hk, rfl, KN⟩ := hrel
    rw [← HN.out] at hk
    by_cases hlt : k < n
    · obtain ⟨x, hxk⟩ : ∃ x, xs[k]? = some x := ⟨_, List.getElem?_eq_getElem (by rw [← HN.out]; exact hlt)⟩
      obtain ⟨gv, ov, rfl, hgv, hlc, hcm, hcell⟩ := HC.out k x hxk
      unfold maxLen at hcm
      have hxm := HX.out.2 x (List.mem_of_getElem? hxk)
      have hxm0 := hxm.1
      have hxm1 := hxm.2
      have hts : (xs.take (k + 1)) = xs.take k ++ [x] := by rw [List.take_add_one, hxk]; rfl
      have hln : (xs.take k).length = k := by rw [List.length_take, ← HN.out]; omega
      obtain ⟨u, hu⟩ : ∃ u, u = v.setRs 0 (xs.take k) := ⟨_, rfl⟩
      rw [← hu] at KN
      have FU := Lib.hid (show u.fits by rw [hu]; exact Vm.setRs_fits _ _ _ FT.out (by omega))
      have hnext : v.setRs 0 (xs.take (k + 1)) = u.setR k (x % pw2 u.width) := by
        rw [hts, Vm.setRs_snoc, hln, ← hu, hu, (Vm.setRs_parts _ _ _).1, Nat.zero_add]
      have HNX := Lib.hid hnext
      have HU := Lib.hid hu
      have HXK := Lib.hid hxk
      have HCELL := Lib.hid hcell
      have MK := Lib.hid (any_mask x u.width FU.out.wide hxm0 hxm1)
      have hk16 : k < 16 := by omega
      clear hxm hts hln hu hnext hxk hcell
      go_wp2_with (first | ((with_reducible refine wpList_gate ?_); first | ((refine gate_load (by rfl) ?_); first | (refine wpList_kn_loadW KN (by rfl) 35 _ rfl _ rfl _ _ (by repeat (first | exact Has.here | refine Has.there ?_)) _ Try.underlying35 rfl (by kernel_rfl) ?_) | (refine wpList_kn_load1 KN (by rfl) 3 _ rfl _ _ rfl _ _ (by repeat (first | exact Has.here | refine Has.there ?_)) _ (by (repeat (first | ((with_reducible refine get_hit ?_); exact Nat.le_of_ble_eq_true (by kernel_rfl)) | ((with_reducible refine (get_miss ?_).trans ?_); (focus kernel_rfl)) | ((with_reducible refine (get_pmiss ?_).trans ?_); (focus kernel_rfl)))); all_goals (conv => lhs; whnf; arg 1; whnf)) _ Try.underlying3 rfl ?_) | (refine wpList_kn_load1 KN (by rfl) 30 _ rfl _ _ rfl _ _ (by repeat (first | exact Has.here | refine Has.there ?_)) _ (by (repeat (first | ((with_reducible refine get_hit ?_); exact Nat.le_of_ble_eq_true (by kernel_rfl)) | ((with_reducible refine (get_miss ?_).trans ?_); (focus kernel_rfl)) | ((with_reducible refine (get_pmiss ?_).trans ?_); (focus kernel_rfl)))); all_goals (conv => lhs; whnf; arg 1; whnf)) _ Try.underlying30 rfl ?_)) | ((refine gate_store (by rfl) ?_); first | (refine wpList_kn_storeW KN (by rfl) 35 _ _ rfl _ rfl _ rfl _ _ (by repeat (first | exact Repl.here | apply Repl.there)) (by kernel_rfl) (by kernel_rfl) (by kernel_rfl) ?_; clear KN; intro wx KN) | (refine wpList_kn_storeA KN (by rfl) 35 _ _ rfl _ _ rfl _ rfl _ _ (by repeat (first | exact Repl.here | apply Repl.there)) (by (try simp only [Array.size_setIfInBounds, putL_size]); first | exact Nat.le_of_ble_eq_true rfl | (simp; omega)) (by kernel_rfl) (by kernel_rfl) ?_; clear KN; intro wx KN) | (refine wpList_kn_store1 KN (by rfl) 30 _ _ rfl _ _ rfl _ (by conv => lhs; whnf) (by rfl) _ _ (by repeat (first | exact Repl.here | apply Repl.there)) (by (try simp only [Array.size_setIfInBounds, putL_size]); first | exact Nat.le_of_ble_eq_true rfl | (simp; omega)) (by kernel_rfl) (by rfl) ?_; clear KN; intro wx KN) | (refine wpList_kn_store1 KN (by rfl) 3 _ _ rfl _ _ rfl _ (by conv => lhs; whnf) (by rfl) _ _ (by repeat (first | exact Repl.here | apply Repl.there)) (by (try simp only [Array.size_setIfInBounds, putL_size]); first | exact Nat.le_of_ble_eq_true rfl | (simp; omega)) (by kernel_rfl) (by rfl) ?_; clear KN; intro wx KN) | (refine wpList_kn_storeW KN (by rfl) 33 _ _ rfl _ rfl _ rfl _ _ (by repeat (first | exact Repl.here | apply Repl.there)) (by kernel_rfl) (by kernel_rfl) (by kernel_rfl) ?_; clear KN; intro wx KN) | (refine wpList_kn_storeA KN (by rfl) 33 _ _ rfl _ _ rfl _ rfl _ _ (by repeat (first | exact Repl.here | apply Repl.there)) (by (try simp only [Array.size_setIfInBounds, putL_size]); first | exact Nat.le_of_ble_eq_true rfl | (simp; omega)) (by kernel_rfl) (by kernel_rfl) ?_; clear KN; intro wx KN)) | ((refine gate_new (by rfl) ?_); first | (refine wpList_kn_boxA KN (by rfl) 35 _ rfl 2 rfl _ rfl ?_; clear KN; intro g2 wx hg2 KN) | (refine wpList_kn_alloc KN (by rfl) 35 rfl 4 rfl Vm.zero.cells (by kernel_rfl) ?_; clear KN; intro g4 wx hg4 KN) | (refine wpList_built rfl 35 #[] rfl Vm.zero.cells (by kernel_rfl) ?_) | (refine wpList_built rfl 33 #[] rfl Eff.none.cells (by kernel_rfl) ?_))))
      replace KN := KN.drew
      have hmk := MK.out
      have hk17 : (k : Int) < 16 := by omega
      refine wp_region_held_drew (S := (fun w' => w'.cell? ⟨gv, ov + k, none⟩ = some (.int .u64 x) ∧ w'.cell? ⟨g2, 0, none⟩ = some (.int .i64 u.width))) (by kernel_rfl) ?qhS (fun hHeld => ?qrest)
      case qhS => exact ⟨(KN.old hgv (by simp)).trans HCELL.out, KN.cell (by repeat (first | exact Has.here | refine Has.there ?_)) rfl⟩
      refine wpAnyH_take (i := 0) (oi := ⟨some 29, _, _, _, _, _⟩) (v := ?qv0) rfl (by kernel_rfl) (by kernel_rfl) (by kernel_rfl) (fun _ _ _ h => h) (Or.inl ⟨by rfl, ?qhy0⟩) hHeld ?qr0
      case qhy0 => (intro w hSw; (try dsimp only at hSw); go_simp; (try with_reducible rfl))
      (try simp only [Act.put, List.setIfInBounds_toArray, List.set_cons_zero, List.set_cons_succ])
      refine wpAnyH_take (i := 1) (oi := ⟨some 30, _, _, _, _, _⟩) (v := ?qv1) rfl (by kernel_rfl) (by kernel_rfl) (by kernel_rfl) (fun _ _ _ h => h) (Or.inl ⟨by rfl, ?qhy1⟩) hHeld ?qr1
      case qhy1 => (intro w hSw; (try dsimp only at hSw); go_simp; (try with_reducible rfl))
      (try simp only [Act.put, List.setIfInBounds_toArray, List.set_cons_zero, List.set_cons_succ])
      refine wpAnyH_take (i := 2) (oi := ⟨some 31, _, _, _, _, _⟩) (v := ?qv2) rfl (by kernel_rfl) (by kernel_rfl) (by kernel_rfl) (fun _ _ _ h => h) (Or.inl ⟨by rfl, ?qhy2⟩) hHeld ?qr2
      case qhy2 => (intro w hSw; (try dsimp only at hSw); go_simp; (try with_reducible rfl))
      (try simp only [Act.put, List.setIfInBounds_toArray, List.set_cons_zero, List.set_cons_succ])
      refine wpAnyH_take (i := 3) (oi := ⟨some 32, _, _, _, _, _⟩) (v := ?qv3) rfl (by kernel_rfl) (by kernel_rfl) (by kernel_rfl) (fun _ _ _ h => h) (Or.inl ⟨by rfl, ?qhy3⟩) hHeld ?qr3
      case qhy3 => (intro w hSw; (try dsimp only at hSw); go_simp; (try with_reducible rfl))
      (try simp only [Act.put, List.setIfInBounds_toArray, List.set_cons_zero, List.set_cons_succ])
      refine wpAnyH_take (i := 4) (oi := ⟨some 33, _, _, _, _, _⟩) (v := (.int .u64 x)) rfl (by kernel_rfl) (by kernel_rfl) (by kernel_rfl) (fun _ _ _ h => h) (kn_yields_cell (by rfl) 30 _ rfl gv (ov + k) rfl _ (fun _ h => h.1) _ Try.underlying30 rfl) hHeld ?qr4
      (try simp only [Act.put, List.setIfInBounds_toArray, List.set_cons_zero, List.set_cons_succ])
      refine wpAnyH_take (i := 5) (oi := ⟨some 34, _, _, _, _, _⟩) (v := ?qv5) rfl (by kernel_rfl) (by kernel_rfl) (by kernel_rfl) (fun _ _ _ h => h) (Or.inl ⟨by rfl, ?qhy5⟩) hHeld ?qr5
      case qhy5 => (intro w hSw; (try dsimp only at hSw); go_simp; (try with_reducible rfl))
      (try simp only [Act.put, List.setIfInBounds_toArray, List.set_cons_zero, List.set_cons_succ])
      refine wpAnyH_take (i := 6) (oi := ⟨some 35, _, _, _, _, _⟩) (v := (.int .i64 u.width)) rfl (by kernel_rfl) (by kernel_rfl) (by kernel_rfl) (fun _ _ _ h => h) (kn_yields_cell (by rfl) 3 _ rfl g2 0 rfl _ (fun _ h => h.2) _ Try.underlying3 rfl) hHeld ?qr6
      (try simp only [Act.put, List.setIfInBounds_toArray, List.set_cons_zero, List.set_cons_succ])
      refine wpAnyH_take (i := 9) (oi := ⟨some 38, _, _, _, _, _⟩) (v := ?qv9) rfl (by kernel_rfl) (by kernel_rfl) (by kernel_rfl) (fun _ _ _ h => h) (Or.inl ⟨by rfl, ?qhy9⟩) hHeld ?qr9
      case qhy9 => (intro w hSw; (try dsimp only at hSw); go_simp; (try with_reducible rfl))
      (try simp only [Act.put, List.setIfInBounds_toArray, List.set_cons_zero, List.set_cons_succ])
      refine wpAnyH_ready (rs := [7]) (by kernel_rfl) (by simp) ?qc7
      refine AllReadyH.cons (o := ⟨some 36, _, _, _, _, _⟩) rfl (fun K hK => ?qst7) AllReadyH.nil
      go_simp
      (refine (mask_any _ _ FU.out.wide).mono ?_; rintro e w' ⟨rfl, rfl⟩)
      refine hK.out _ _ ?qk7 (fun hHeld2 => ?qm7)
      case qk7 => exact ⟨(KN.old hgv (by simp)).trans HCELL.out, KN.cell (by repeat (first | exact Has.here | refine Has.there ?_)) rfl⟩
      clear hK K hHeld
      have hHeld := hHeld2; clear hHeld2
      (try simp only [Act.put, List.setIfInBounds_toArray, List.set_cons_zero, List.set_cons_succ])
      refine wpAnyH_take (i := 8) (oi := ⟨some 37, _, _, _, _, _⟩) (v := ?qv8) rfl (by kernel_rfl) (by kernel_rfl) (by kernel_rfl) (fun _ _ _ h => h) (Or.inl ⟨by rfl, ?qhy8⟩) hHeld ?qr8
      case qhy8 => (intro w hSw; (try dsimp only at hSw); go_simp; (try with_reducible rfl))
      (try simp only [Act.put, List.setIfInBounds_toArray, List.set_cons_zero, List.set_cons_succ])
      refine wpAnyH_take (i := 10) (oi := ⟨some 39, _, _, _, _, _⟩) (v := ?qv10) rfl (by kernel_rfl) (by kernel_rfl) (by kernel_rfl) (fun _ _ _ h => h) (Or.inl ⟨by rfl, ?qhy10⟩) hHeld ?qr10
      case qhy10 => (intro w hSw; (try dsimp only at hSw); go_simp; (try with_reducible rfl))
      (try simp only [Act.put, List.setIfInBounds_toArray, List.set_cons_zero, List.set_cons_succ])
      refine wpAnyH_ready (rs := [11]) (by kernel_rfl) (by simp) ?qc11
      refine AllReadyH.cons (o := ⟨none, _, _, _, _, _⟩) rfl (fun K hK => ?qst11) AllReadyH.nil
      (rw [if_pos (by rfl)]; refine wp_kn_store1 KN 30 _ _ rfl g2 (4 + k) rfl _ (by conv => lhs; whnf) (by rfl) _ _ (by repeat (first | exact Repl.here | apply Repl.there)) (by show 4 + k + 1 ≤ 25; omega) (by kernel_rfl) (by rfl) ?_; clear KN; intro wx KN; replace KN := KN.as_ g2 _ (by repeat (first | exact Repl.here | apply Repl.there)) (u.cells_set k _ FU.out.len hk16))
      refine hK.out _ _ ?qk11 (fun hHeld2 => ?qm11)
      case qk11 => exact ⟨(KN.old hgv (by simp)).trans HCELL.out, KN.cell (by repeat (first | exact Has.here | refine Has.there ?_)) rfl⟩
      clear hK K hHeld
      have hHeld := hHeld2; clear hHeld2
      (try simp only [Act.put, List.setIfInBounds_toArray, List.set_cons_zero, List.set_cons_succ])
      refine wpAnyH_done (by kernel_rfl) ?qdone _
      clear hHeld hmk
      go_wp2_with fail
      go_roundw
      case rel =>
        refine ⟨k + 1, by rw [← HN.out]; omega, by go_num, ?_⟩
        rw [HNX.out]
        exact KN
      case measure => simp [intOf]; omega
    · have hfull : xs.take k = xs := List.take_of_length_le (by rw [← HN.out]; omega)
      rw [hfull] at KN
      clear hfull
      obtain ⟨u, hu⟩ : ∃ u, u = v.setRs 0 xs := ⟨_, rfl⟩
      rw [← hu] at KN
      have HU := Lib.hid hu
      clear hu
      go_wp2_with (first | ((with_reducible refine wpList_gate ?_); first | ((refine gate_load (by rfl) ?_); first | (refine wpList_kn_loadW KN (by rfl) 35 _ rfl _ rfl _ _ (by repeat (first | exact Has.here | refine Has.there ?_)) _ Try.underlying35 rfl (by kernel_rfl) ?_) | (refine wpList_kn_load1 KN (by rfl) 3 _ rfl _ _ rfl _ _ (by repeat (first | exact Has.here | refine Has.there ?_)) _ (by (repeat (first | ((with_reducible refine get_hit ?_); exact Nat.le_of_ble_eq_true (by kernel_rfl)) | ((with_reducible refine (get_miss ?_).trans ?_); (focus kernel_rfl)) | ((with_reducible refine (get_pmiss ?_).trans ?_); (focus kernel_rfl)))); all_goals (conv => lhs; whnf; arg 1; whnf)) _ Try.underlying3 rfl ?_) | (refine wpList_kn_load1 KN (by rfl) 30 _ rfl _ _ rfl _ _ (by repeat (first | exact Has.here | refine Has.there ?_)) _ (by (repeat (first | ((with_reducible refine get_hit ?_); exact Nat.le_of_ble_eq_true (by kernel_rfl)) | ((with_reducible refine (get_miss ?_).trans ?_); (focus kernel_rfl)) | ((with_reducible refine (get_pmiss ?_).trans ?_); (focus kernel_rfl)))); all_goals (conv => lhs; whnf; arg 1; whnf)) _ Try.underlying30 rfl ?_)) | ((refine gate_store (by rfl) ?_); first | (refine wpList_kn_storeA KN (by rfl) 33 _ _ rfl g2 20 rfl _ rfl _ _ (by repeat (first | exact Repl.here | apply Repl.there)) (by show 20 + 5 ≤ 25; decide) (by kernel_rfl) (by kernel_rfl) ?_; clear KN; intro wx KN; replace KN := KN.as_ g2 ({ u with state := 0, wait := Eff.none } : Vm).cells (by repeat (first | exact Repl.here | apply Repl.there)) (by kernel_rfl)) | (refine wpList_kn_storeW KN (by rfl) 35 _ _ rfl _ rfl _ rfl _ _ (by repeat (first | exact Repl.here | apply Repl.there)) (by kernel_rfl) (by kernel_rfl) (by kernel_rfl) ?_; clear KN; intro wx KN) | (refine wpList_kn_storeA KN (by rfl) 35 _ _ rfl _ _ rfl _ rfl _ _ (by repeat (first | exact Repl.here | apply Repl.there)) (by (try simp only [Array.size_setIfInBounds, putL_size]); first | exact Nat.le_of_ble_eq_true rfl | (simp; omega)) (by kernel_rfl) (by kernel_rfl) ?_; clear KN; intro wx KN) | (refine wpList_kn_store1 KN (by rfl) 30 _ _ rfl _ _ rfl _ (by conv => lhs; whnf) (by rfl) _ _ (by repeat (first | exact Repl.here | apply Repl.there)) (by (try simp only [Array.size_setIfInBounds, putL_size]); first | exact Nat.le_of_ble_eq_true rfl | (simp; omega)) (by kernel_rfl) (by rfl) ?_; clear KN; intro wx KN) | (refine wpList_kn_store1 KN (by rfl) 3 _ _ rfl _ _ rfl _ (by conv => lhs; whnf) (by rfl) _ _ (by repeat (first | exact Repl.here | apply Repl.there)) (by (try simp only [Array.size_setIfInBounds, putL_size]); first | exact Nat.le_of_ble_eq_true rfl | (simp; omega)) (by kernel_rfl) (by rfl) ?_; clear KN; intro wx KN) | (refine wpList_kn_storeW KN (by rfl) 33 _ _ rfl _ rfl _ rfl _ _ (by repeat (first | exact Repl.here | apply Repl.there)) (by kernel_rfl) (by kernel_rfl) (by kernel_rfl) ?_; clear KN; intro wx KN) | (refine wpList_kn_storeA KN (by rfl) 33 _ _ rfl _ _ rfl _ rfl _ _ (by repeat (first | exact Repl.here | apply Repl.there)) (by (try simp only [Array.size_setIfInBounds, putL_size]); first | exact Nat.le_of_ble_eq_true rfl | (simp; omega)) (by kernel_rfl) (by kernel_rfl) ?_; clear KN; intro wx KN)) | ((refine gate_new (by rfl) ?_); first | (refine wpList_kn_boxA KN (by rfl) 35 _ rfl 2 rfl _ rfl ?_; clear KN; intro g2 wx hg2 KN) | (refine wpList_kn_alloc KN (by rfl) 35 rfl 4 rfl Vm.zero.cells (by kernel_rfl) ?_; clear KN; intro g4 wx hg4 KN) | (refine wpList_built rfl 35 #[] rfl Vm.zero.cells (by kernel_rfl) ?_) | (refine wpList_built rfl 33 #[] rfl Eff.none.cells (by kernel_rfl) ?_))))
      refine bodyPost_ret (results_ct Try.results22 _ _ _ ({ u with state := 0, wait := Eff.none } : Vm).cells _ rfl (load_vm (KN.at_ (by repeat (first | exact Has.here | refine Has.there ?_)))) rfl) rfl ⟨?_, KN.toBelow⟩
      unfold finV
      rw [HREG.out, show (0 : Int).toNat = 0 from rfl, ← HU.out]
      rfl
set_option maxRecDepth 100000 in
set_option maxHeartbeats 2000000 in
theorem RFinish_2 (wd pc st ca : Int) (regs : List Int) (nm ad vl : Int) (va : Value) (w : World) (ht : Vm.typed ⟨wd, pc, st, ca, regs, ⟨2, 0, nm, ad, vl⟩⟩) (hx : U64s w va []) (h : Vm.waitErr ⟨wd, pc, st, ca, regs, ⟨2, 0, nm, ad, vl⟩⟩ = 0) :
    Calls Try.prog 22 #[.agg (Vm.mk wd pc st ca regs ⟨2, 0, nm, ad, vl⟩).cells, va] w fun e w' => e = .returned (pairVal (finV ⟨wd, pc, st, ca, regs, ⟨2, 0, nm, ad, vl⟩⟩ [], 0)) ∧ Below w.heap.size w w' := by
  have KN := Kn.start w
  obtain ⟨a, c, rfl, -⟩ := hx.form
  obtain ⟨v, hv⟩ : ∃ v : Vm, v = ⟨wd, pc, st, ca, regs, ⟨2, 0, nm, ad, vl⟩⟩ := ⟨_, rfl⟩
  rw [← hv] at ht h ⊢
  have hs := (Vm.wait_ok h).2
  have hsb : (v.state != 1) = false := by rw [bne_eq_false_iff_eq]; exact hs
  have HOK := Lib.hid (Vm.wait_ok h).1
  have hg20 : v.cells[20]? = some (.int .i64 2) := by rw [hv]; rfl
  have G20 := Lib.hid hg20
  have HT := Lib.hid ht
  clear hx h hg20 hv ht hs
  go_enter Try.func22, Try.ntmps22
  go_wp2_with (first | (go_at_call 25; refine (RValid_any v _ HT.out).mono ?_; rintro e w1 ⟨rfl, hb1⟩; replace KN := KN.below hb1; clear hb1; rw [HOK.out]) | ((with_reducible refine wpList_gate ?_); first | ((refine gate_load (by rfl) ?_); first | (refine wpList_kn_load1 KN (by rfl) 3 (.tmp 19) rfl g2 20 rfl _ _ (by repeat (first | exact Has.here | refine Has.there ?_)) _ G20.out _ Try.underlying3 rfl ?_) | (refine wpList_kn_loadW KN (by rfl) 35 _ rfl _ rfl _ _ (by repeat (first | exact Has.here | refine Has.there ?_)) _ Try.underlying35 rfl (by kernel_rfl) ?_) | (refine wpList_kn_load1 KN (by rfl) 3 _ rfl _ _ rfl _ _ (by repeat (first | exact Has.here | refine Has.there ?_)) _ (by (repeat (first | ((with_reducible refine get_hit ?_); exact Nat.le_of_ble_eq_true (by kernel_rfl)) | ((with_reducible refine (get_miss ?_).trans ?_); (focus kernel_rfl)) | ((with_reducible refine (get_pmiss ?_).trans ?_); (focus kernel_rfl)))); all_goals (conv => lhs; whnf; arg 1; whnf)) _ Try.underlying3 rfl ?_) | (refine wpList_kn_load1 KN (by rfl) 30 _ rfl _ _ rfl _ _ (by repeat (first | exact Has.here | refine Has.there ?_)) _ (by (repeat (first | ((with_reducible refine get_hit ?_); exact Nat.le_of_ble_eq_true (by kernel_rfl)) | ((with_reducible refine (get_miss ?_).trans ?_); (focus kernel_rfl)) | ((with_reducible refine (get_pmiss ?_).trans ?_); (focus kernel_rfl)))); all_goals (conv => lhs; whnf; arg 1; whnf)) _ Try.underlying30 rfl ?_)) | ((refine gate_store (by rfl) ?_); first | (refine wpList_kn_storeA KN (by rfl) 33 _ _ rfl g2 20 rfl _ rfl _ _ (by repeat (first | exact Repl.here | apply Repl.there)) (by show 20 + 5 ≤ 25; decide) (by kernel_rfl) (by kernel_rfl) ?_; clear KN; intro wx KN; replace KN := KN.as_ g2 ({ v with state := 0, wait := Eff.none } : Vm).cells (by repeat (first | exact Repl.here | apply Repl.there)) (by kernel_rfl)) | (refine wpList_kn_storeW KN (by rfl) 35 _ _ rfl _ rfl _ rfl _ _ (by repeat (first | exact Repl.here | apply Repl.there)) (by kernel_rfl) (by kernel_rfl) (by kernel_rfl) ?_; clear KN; intro wx KN) | (refine wpList_kn_storeA KN (by rfl) 35 _ _ rfl _ _ rfl _ rfl _ _ (by repeat (first | exact Repl.here | apply Repl.there)) (by (try simp only [Array.size_setIfInBounds, putL_size]); first | exact Nat.le_of_ble_eq_true rfl | (simp; omega)) (by kernel_rfl) (by kernel_rfl) ?_; clear KN; intro wx KN) | (refine wpList_kn_store1 KN (by rfl) 30 _ _ rfl _ _ rfl _ (by conv => lhs; whnf) (by rfl) _ _ (by repeat (first | exact Repl.here | apply Repl.there)) (by (try simp only [Array.size_setIfInBounds, putL_size]); first | exact Nat.le_of_ble_eq_true rfl | (simp; omega)) (by kernel_rfl) (by rfl) ?_; clear KN; intro wx KN) | (refine wpList_kn_store1 KN (by rfl) 3 _ _ rfl _ _ rfl _ (by conv => lhs; whnf) (by rfl) _ _ (by repeat (first | exact Repl.here | apply Repl.there)) (by (try simp only [Array.size_setIfInBounds, putL_size]); first | exact Nat.le_of_ble_eq_true rfl | (simp; omega)) (by kernel_rfl) (by rfl) ?_; clear KN; intro wx KN) | (refine wpList_kn_storeW KN (by rfl) 33 _ _ rfl _ rfl _ rfl _ _ (by repeat (first | exact Repl.here | apply Repl.there)) (by kernel_rfl) (by kernel_rfl) (by kernel_rfl) ?_; clear KN; intro wx KN) | (refine wpList_kn_storeA KN (by rfl) 33 _ _ rfl _ _ rfl _ rfl _ _ (by repeat (first | exact Repl.here | apply Repl.there)) (by (try simp only [Array.size_setIfInBounds, putL_size]); first | exact Nat.le_of_ble_eq_true rfl | (simp; omega)) (by kernel_rfl) (by kernel_rfl) ?_; clear KN; intro wx KN)) | ((refine gate_new (by rfl) ?_); first | (refine wpList_kn_boxA KN (by rfl) 35 _ rfl 2 rfl _ rfl ?_; clear KN; intro g2 wx hg2 KN) | (refine wpList_kn_alloc KN (by rfl) 35 rfl 4 rfl Vm.zero.cells (by kernel_rfl) ?_; clear KN; intro g4 wx hg4 KN) | (refine wpList_built rfl 35 #[] rfl Vm.zero.cells (by kernel_rfl) ?_) | (refine wpList_built rfl 33 #[] rfl Eff.none.cells (by kernel_rfl) ?_))))
  exact bodyPost_ret (results_ct Try.results22 _ _ _ ({ v with state := 0, wait := Eff.none } : Vm).cells _ rfl (load_vm (KN.at_ (by repeat (first | exact Has.here | refine Has.there ?_)))) rfl) rfl ⟨rfl, KN.toBelow⟩
set_option maxRecDepth 100000 in
set_option maxHeartbeats 2000000 in
theorem RFinish_1 (wd pc st ca : Int) (regs : List Int) (nm ad vl : Int) (R : Nat) (va : Value) (x : Int) (w : World) (ht : Vm.typed ⟨wd, pc, st, ca, regs, ⟨1, R, nm, ad, vl⟩⟩) (hx : U64s w va [x]) (h : Vm.waitErr ⟨wd, pc, st, ca, regs, ⟨1, R, nm, ad, vl⟩⟩ = 0) (hr : R < 16) :
    Calls Try.prog 22 #[.agg (Vm.mk wd pc st ca regs ⟨1, R, nm, ad, vl⟩).cells, va] w fun e w' => e = .returned (pairVal (finV ⟨wd, pc, st, ca, regs, ⟨1, R, nm, ad, vl⟩⟩ [x], 0)) ∧ Below w.heap.size w w' := by
  have KN := Kn.start w
  obtain ⟨a, c, rfl, hxl, hxc⟩ := hx.form
  obtain ⟨gv, ov, rfl, hgv, hlc, hcm, hcell⟩ := hxc 0 x rfl
  obtain ⟨hxm0, hxm1⟩ := hx.2 x (by simp)
  obtain ⟨v, hv⟩ : ∃ v : Vm, v = ⟨wd, pc, st, ca, regs, ⟨1, R, nm, ad, vl⟩⟩ := ⟨_, rfl⟩
  rw [← hv] at ht h ⊢
  have hs := (Vm.wait_ok h).2
  have hsb : (v.state != 1) = false := by rw [bne_eq_false_iff_eq]; exact hs
  have HOK := Lib.hid (Vm.wait_ok h).1
  have FT := Lib.hid (Vm.ok_fits (Vm.wait_ok h).1 ht)
  have hreg : v.wait.reg = R := by rw [hv]
  have hg20 : v.cells[20]? = some (.int .i64 1) := by rw [hv]; rfl
  have hg21 : ∀ u : Vm, u.wait = v.wait → u.cells[21]? = some (.int .i64 R) := by intro u hu; show some (Value.int .i64 u.wait.reg) = _; rw [hu, hreg]
  have G20 := Lib.hid hg20
  have G21 := Lib.hid hg21
  have HREG := Lib.hid hreg
  have HT := Lib.hid ht
  have HCELL := Lib.hid hcell
  have MK := Lib.hid (any_mask x v.width FT.out.wide hxm0 hxm1)
  unfold maxLen at hcm
  simp only [List.length_cons, List.length_nil, Nat.zero_add] at hlc ⊢
  clear hx hxc h hreg hg20 hg21 hv ht hs hcell
  go_enter Try.func22, Try.ntmps22
  go_wp2_with (first | (go_at_call 25; refine (RValid_any v _ HT.out).mono ?_; rintro e w1 ⟨rfl, hb1⟩; replace KN := KN.below hb1; clear hb1; rw [HOK.out]) | ((with_reducible refine wpList_gate ?_); first | ((refine gate_load (by rfl) ?_); first | (refine wpList_kn_load1 KN (by rfl) 3 (.tmp 19) rfl g2 20 rfl _ _ (by repeat (first | exact Has.here | refine Has.there ?_)) _ G20.out _ Try.underlying3 rfl ?_) | (refine wpList_kn_loadW KN (by rfl) 35 _ rfl _ rfl _ _ (by repeat (first | exact Has.here | refine Has.there ?_)) _ Try.underlying35 rfl (by kernel_rfl) ?_) | (refine wpList_kn_load1 KN (by rfl) 3 _ rfl _ _ rfl _ _ (by repeat (first | exact Has.here | refine Has.there ?_)) _ (by (repeat (first | ((with_reducible refine get_hit ?_); exact Nat.le_of_ble_eq_true (by kernel_rfl)) | ((with_reducible refine (get_miss ?_).trans ?_); (focus kernel_rfl)) | ((with_reducible refine (get_pmiss ?_).trans ?_); (focus kernel_rfl)))); all_goals (conv => lhs; whnf; arg 1; whnf)) _ Try.underlying3 rfl ?_) | (refine wpList_kn_load1 KN (by rfl) 30 _ rfl _ _ rfl _ _ (by repeat (first | exact Has.here | refine Has.there ?_)) _ (by (repeat (first | ((with_reducible refine get_hit ?_); exact Nat.le_of_ble_eq_true (by kernel_rfl)) | ((with_reducible refine (get_miss ?_).trans ?_); (focus kernel_rfl)) | ((with_reducible refine (get_pmiss ?_).trans ?_); (focus kernel_rfl)))); all_goals (conv => lhs; whnf; arg 1; whnf)) _ Try.underlying30 rfl ?_)) | ((refine gate_store (by rfl) ?_); first | (refine wpList_kn_storeW KN (by rfl) 35 _ _ rfl _ rfl _ rfl _ _ (by repeat (first | exact Repl.here | apply Repl.there)) (by kernel_rfl) (by kernel_rfl) (by kernel_rfl) ?_; clear KN; intro wx KN) | (refine wpList_kn_storeA KN (by rfl) 35 _ _ rfl _ _ rfl _ rfl _ _ (by repeat (first | exact Repl.here | apply Repl.there)) (by (try simp only [Array.size_setIfInBounds, putL_size]); first | exact Nat.le_of_ble_eq_true rfl | (simp; omega)) (by kernel_rfl) (by kernel_rfl) ?_; clear KN; intro wx KN) | (refine wpList_kn_store1 KN (by rfl) 30 _ _ rfl _ _ rfl _ (by conv => lhs; whnf) (by rfl) _ _ (by repeat (first | exact Repl.here | apply Repl.there)) (by (try simp only [Array.size_setIfInBounds, putL_size]); first | exact Nat.le_of_ble_eq_true rfl | (simp; omega)) (by kernel_rfl) (by rfl) ?_; clear KN; intro wx KN) | (refine wpList_kn_store1 KN (by rfl) 3 _ _ rfl _ _ rfl _ (by conv => lhs; whnf) (by rfl) _ _ (by repeat (first | exact Repl.here | apply Repl.there)) (by (try simp only [Array.size_setIfInBounds, putL_size]); first | exact Nat.le_of_ble_eq_true rfl | (simp; omega)) (by kernel_rfl) (by rfl) ?_; clear KN; intro wx KN) | (refine wpList_kn_storeW KN (by rfl) 33 _ _ rfl _ rfl _ rfl _ _ (by repeat (first | exact Repl.here | apply Repl.there)) (by kernel_rfl) (by kernel_rfl) (by kernel_rfl) ?_; clear KN; intro wx KN) | (refine wpList_kn_storeA KN (by rfl) 33 _ _ rfl _ _ rfl _ rfl _ _ (by repeat (first | exact Repl.here | apply Repl.there)) (by (try simp only [Array.size_setIfInBounds, putL_size]); first | exact Nat.le_of_ble_eq_true rfl | (simp; omega)) (by kernel_rfl) (by kernel_rfl) ?_; clear KN; intro wx KN)) | ((refine gate_new (by rfl) ?_); first | (refine wpList_kn_boxA KN (by rfl) 35 _ rfl 2 rfl _ rfl ?_; clear KN; intro g2 wx hg2 KN) | (refine wpList_kn_alloc KN (by rfl) 35 rfl 4 rfl Vm.zero.cells (by kernel_rfl) ?_; clear KN; intro g4 wx hg4 KN) | (refine wpList_built rfl 35 #[] rfl Vm.zero.cells (by kernel_rfl) ?_) | (refine wpList_built rfl 33 #[] rfl Eff.none.cells (by kernel_rfl) ?_))))
  replace KN := KN.drew
  have hmk := MK.out
  have hr17 : (R : Int) < 16 := by omega
  refine wp_region_held_drew (S := (fun w' => w'.cell? ⟨gv, ov, none⟩ = some (.int .u64 x) ∧ w'.cell? ⟨g2, 0, none⟩ = some (.int .i64 v.width) ∧ w'.cell? ⟨g2, 21, none⟩ = some (.int .i64 R))) (by kernel_rfl) ?qhS (fun hHeld => ?qrest)
  case qhS => first | exact ⟨(KN.old hgv (by simp)).trans HCELL.out, KN.cell (by repeat (first | exact Has.here | refine Has.there ?_)) rfl, KN.cell (by repeat (first | exact Has.here | refine Has.there ?_)) (G21.out v rfl)⟩ | exact ⟨(KN.old hgv (by simp)).trans HCELL.out, KN.cell (by repeat (first | exact Has.here | refine Has.there ?_)) rfl, KN.cell (by repeat (first | exact Has.here | refine Has.there ?_)) (G21.out (v.setR R (x % pw2 v.width)) rfl)⟩
  refine wpAnyH_take (i := 0) (oi := ⟨some 45, _, _, _, _, _⟩) (v := ?qv0) rfl (by kernel_rfl) (by kernel_rfl) (by kernel_rfl) (fun _ _ _ h => h) (Or.inl ⟨by rfl, ?qhy0⟩) hHeld ?qr0
  case qhy0 => (intro w hSw; (try dsimp only at hSw); go_simp; (try with_reducible rfl))
  (try simp only [Act.put, List.setIfInBounds_toArray, List.set_cons_zero, List.set_cons_succ])
  refine wpAnyH_take (i := 1) (oi := ⟨some 46, _, _, _, _, _⟩) (v := ?qv1) rfl (by kernel_rfl) (by kernel_rfl) (by kernel_rfl) (fun _ _ _ h => h) (Or.inl ⟨by rfl, ?qhy1⟩) hHeld ?qr1
  case qhy1 => (intro w hSw; (try dsimp only at hSw); go_simp; (try with_reducible rfl))
  (try simp only [Act.put, List.setIfInBounds_toArray, List.set_cons_zero, List.set_cons_succ])
  refine wpAnyH_take (i := 2) (oi := ⟨some 47, _, _, _, _, _⟩) (v := (.int .i64 R)) rfl (by kernel_rfl) (by kernel_rfl) (by kernel_rfl) (fun _ _ _ h => h) (kn_yields_cell (by rfl) 3 _ rfl g2 21 rfl _ (fun _ h => h.2.2) _ Try.underlying3 rfl) hHeld ?qr2
  (try simp only [Act.put, List.setIfInBounds_toArray, List.set_cons_zero, List.set_cons_succ])
  refine wpAnyH_take (i := 3) (oi := ⟨some 48, _, _, _, _, _⟩) (v := ?qv3) rfl (by kernel_rfl) (by kernel_rfl) (by kernel_rfl) (fun _ _ _ h => h) (Or.inl ⟨by rfl, ?qhy3⟩) hHeld ?qr3
  case qhy3 => (intro w hSw; (try dsimp only at hSw); go_simp; (try with_reducible rfl))
  (try simp only [Act.put, List.setIfInBounds_toArray, List.set_cons_zero, List.set_cons_succ])
  refine wpAnyH_take (i := 4) (oi := ⟨some 49, _, _, _, _, _⟩) (v := ?qv4) rfl (by kernel_rfl) (by kernel_rfl) (by kernel_rfl) (fun _ _ _ h => h) (Or.inl ⟨by rfl, ?qhy4⟩) hHeld ?qr4
  case qhy4 => (intro w hSw; (try dsimp only at hSw); go_simp; (try with_reducible rfl))
  (try simp only [Act.put, List.setIfInBounds_toArray, List.set_cons_zero, List.set_cons_succ])
  refine wpAnyH_take (i := 5) (oi := ⟨some 50, _, _, _, _, _⟩) (v := (.int .u64 x)) rfl (by kernel_rfl) (by kernel_rfl) (by kernel_rfl) (fun _ _ _ h => h) (kn_yields_cell (by rfl) 30 _ rfl gv ov rfl _ (fun _ h => h.1) _ Try.underlying30 rfl) hHeld ?qr5
  (try simp only [Act.put, List.setIfInBounds_toArray, List.set_cons_zero, List.set_cons_succ])
  refine wpAnyH_take (i := 6) (oi := ⟨some 51, _, _, _, _, _⟩) (v := ?qv6) rfl (by kernel_rfl) (by kernel_rfl) (by kernel_rfl) (fun _ _ _ h => h) (Or.inl ⟨by rfl, ?qhy6⟩) hHeld ?qr6
  case qhy6 => (intro w hSw; (try dsimp only at hSw); go_simp; (try with_reducible rfl))
  (try simp only [Act.put, List.setIfInBounds_toArray, List.set_cons_zero, List.set_cons_succ])
  refine wpAnyH_take (i := 7) (oi := ⟨some 52, _, _, _, _, _⟩) (v := (.int .i64 v.width)) rfl (by kernel_rfl) (by kernel_rfl) (by kernel_rfl) (fun _ _ _ h => h) (kn_yields_cell (by rfl) 3 _ rfl g2 0 rfl _ (fun _ h => h.2.1) _ Try.underlying3 rfl) hHeld ?qr7
  (try simp only [Act.put, List.setIfInBounds_toArray, List.set_cons_zero, List.set_cons_succ])
  refine wpAnyH_take (i := 10) (oi := ⟨some 55, _, _, _, _, _⟩) (v := ?qv10) rfl (by kernel_rfl) (by kernel_rfl) (by kernel_rfl) (fun _ _ _ h => h) (Or.inl ⟨by rfl, ?qhy10⟩) hHeld ?qr10
  case qhy10 => (intro w hSw; (try dsimp only at hSw); go_simp; (try with_reducible rfl))
  (try simp only [Act.put, List.setIfInBounds_toArray, List.set_cons_zero, List.set_cons_succ])
  refine wpAnyH_ready (rs := [8]) (by kernel_rfl) (by simp) ?qc8
  refine AllReadyH.cons (o := ⟨some 53, _, _, _, _, _⟩) rfl (fun K hK => ?qst8) AllReadyH.nil
  go_simp
  (refine (mask_any _ _ FT.out.wide).mono ?_; rintro e w' ⟨rfl, rfl⟩)
  refine hK.out _ _ ?qk8 (fun hHeld2 => ?qm8)
  case qk8 => first | exact ⟨(KN.old hgv (by simp)).trans HCELL.out, KN.cell (by repeat (first | exact Has.here | refine Has.there ?_)) rfl, KN.cell (by repeat (first | exact Has.here | refine Has.there ?_)) (G21.out v rfl)⟩ | exact ⟨(KN.old hgv (by simp)).trans HCELL.out, KN.cell (by repeat (first | exact Has.here | refine Has.there ?_)) rfl, KN.cell (by repeat (first | exact Has.here | refine Has.there ?_)) (G21.out (v.setR R (x % pw2 v.width)) rfl)⟩
  clear hK K hHeld
  have hHeld := hHeld2; clear hHeld2
  (try simp only [Act.put, List.setIfInBounds_toArray, List.set_cons_zero, List.set_cons_succ])
  refine wpAnyH_take (i := 9) (oi := ⟨some 54, _, _, _, _, _⟩) (v := ?qv9) rfl (by kernel_rfl) (by kernel_rfl) (by kernel_rfl) (fun _ _ _ h => h) (Or.inl ⟨by rfl, ?qhy9⟩) hHeld ?qr9
  case qhy9 => (intro w hSw; (try dsimp only at hSw); go_simp; (try with_reducible rfl))
  (try simp only [Act.put, List.setIfInBounds_toArray, List.set_cons_zero, List.set_cons_succ])
  refine wpAnyH_take (i := 11) (oi := ⟨some 56, _, _, _, _, _⟩) (v := ?qv11) rfl (by kernel_rfl) (by kernel_rfl) (by kernel_rfl) (fun _ _ _ h => h) (Or.inl ⟨by rfl, ?qhy11⟩) hHeld ?qr11
  case qhy11 => (intro w hSw; (try dsimp only at hSw); go_simp; (try with_reducible rfl))
  (try simp only [Act.put, List.setIfInBounds_toArray, List.set_cons_zero, List.set_cons_succ])
  refine wpAnyH_ready (rs := [12]) (by kernel_rfl) (by simp) ?qc12
  refine AllReadyH.cons (o := ⟨none, _, _, _, _, _⟩) rfl (fun K hK => ?qst12) AllReadyH.nil
  (rw [if_pos (by rfl)]; refine wp_kn_store1 KN 30 _ _ rfl g2 (4 + R) rfl _ (by conv => lhs; whnf) (by rfl) _ _ (by repeat (first | exact Repl.here | apply Repl.there)) (by show 4 + R + 1 ≤ 25; omega) (by kernel_rfl) (by rfl) ?_; clear KN; intro wx KN; replace KN := KN.as_ g2 _ (by repeat (first | exact Repl.here | apply Repl.there)) (v.cells_set R _ FT.out.len hr))
  refine hK.out _ _ ?qk12 (fun hHeld2 => ?qm12)
  case qk12 => first | exact ⟨(KN.old hgv (by simp)).trans HCELL.out, KN.cell (by repeat (first | exact Has.here | refine Has.there ?_)) rfl, KN.cell (by repeat (first | exact Has.here | refine Has.there ?_)) (G21.out v rfl)⟩ | exact ⟨(KN.old hgv (by simp)).trans HCELL.out, KN.cell (by repeat (first | exact Has.here | refine Has.there ?_)) rfl, KN.cell (by repeat (first | exact Has.here | refine Has.there ?_)) (G21.out (v.setR R (x % pw2 v.width)) rfl)⟩
  clear hK K hHeld
  have hHeld := hHeld2; clear hHeld2
  (try simp only [Act.put, List.setIfInBounds_toArray, List.set_cons_zero, List.set_cons_succ])
  refine wpAnyH_done (by kernel_rfl) ?qdone _
  clear hHeld hmk
  obtain ⟨u, hu⟩ : ∃ u, u = v.setR R (x % pw2 v.width) := ⟨_, rfl⟩
  rw [← hu] at KN
  have HU := Lib.hid hu
  clear hu
  go_wp2_with (first | ((with_reducible refine wpList_gate ?_); first | ((refine gate_load (by rfl) ?_); first | (refine wpList_kn_loadW KN (by rfl) 35 _ rfl _ rfl _ _ (by repeat (first | exact Has.here | refine Has.there ?_)) _ Try.underlying35 rfl (by kernel_rfl) ?_) | (refine wpList_kn_load1 KN (by rfl) 3 _ rfl _ _ rfl _ _ (by repeat (first | exact Has.here | refine Has.there ?_)) _ (by (repeat (first | ((with_reducible refine get_hit ?_); exact Nat.le_of_ble_eq_true (by kernel_rfl)) | ((with_reducible refine (get_miss ?_).trans ?_); (focus kernel_rfl)) | ((with_reducible refine (get_pmiss ?_).trans ?_); (focus kernel_rfl)))); all_goals (conv => lhs; whnf; arg 1; whnf)) _ Try.underlying3 rfl ?_) | (refine wpList_kn_load1 KN (by rfl) 30 _ rfl _ _ rfl _ _ (by repeat (first | exact Has.here | refine Has.there ?_)) _ (by (repeat (first | ((with_reducible refine get_hit ?_); exact Nat.le_of_ble_eq_true (by kernel_rfl)) | ((with_reducible refine (get_miss ?_).trans ?_); (focus kernel_rfl)) | ((with_reducible refine (get_pmiss ?_).trans ?_); (focus kernel_rfl)))); all_goals (conv => lhs; whnf; arg 1; whnf)) _ Try.underlying30 rfl ?_)) | ((refine gate_store (by rfl) ?_); first | (refine wpList_kn_storeA KN (by rfl) 33 _ _ rfl g2 20 rfl _ rfl _ _ (by repeat (first | exact Repl.here | apply Repl.there)) (by show 20 + 5 ≤ 25; decide) (by kernel_rfl) (by kernel_rfl) ?_; clear KN; intro wx KN; replace KN := KN.as_ g2 ({ u with state := 0, wait := Eff.none } : Vm).cells (by repeat (first | exact Repl.here | apply Repl.there)) (by kernel_rfl)) | (refine wpList_kn_storeW KN (by rfl) 35 _ _ rfl _ rfl _ rfl _ _ (by repeat (first | exact Repl.here | apply Repl.there)) (by kernel_rfl) (by kernel_rfl) (by kernel_rfl) ?_; clear KN; intro wx KN) | (refine wpList_kn_storeA KN (by rfl) 35 _ _ rfl _ _ rfl _ rfl _ _ (by repeat (first | exact Repl.here | apply Repl.there)) (by (try simp only [Array.size_setIfInBounds, putL_size]); first | exact Nat.le_of_ble_eq_true rfl | (simp; omega)) (by kernel_rfl) (by kernel_rfl) ?_; clear KN; intro wx KN) | (refine wpList_kn_store1 KN (by rfl) 30 _ _ rfl _ _ rfl _ (by conv => lhs; whnf) (by rfl) _ _ (by repeat (first | exact Repl.here | apply Repl.there)) (by (try simp only [Array.size_setIfInBounds, putL_size]); first | exact Nat.le_of_ble_eq_true rfl | (simp; omega)) (by kernel_rfl) (by rfl) ?_; clear KN; intro wx KN) | (refine wpList_kn_store1 KN (by rfl) 3 _ _ rfl _ _ rfl _ (by conv => lhs; whnf) (by rfl) _ _ (by repeat (first | exact Repl.here | apply Repl.there)) (by (try simp only [Array.size_setIfInBounds, putL_size]); first | exact Nat.le_of_ble_eq_true rfl | (simp; omega)) (by kernel_rfl) (by rfl) ?_; clear KN; intro wx KN) | (refine wpList_kn_storeW KN (by rfl) 33 _ _ rfl _ rfl _ rfl _ _ (by repeat (first | exact Repl.here | apply Repl.there)) (by kernel_rfl) (by kernel_rfl) (by kernel_rfl) ?_; clear KN; intro wx KN) | (refine wpList_kn_storeA KN (by rfl) 33 _ _ rfl _ _ rfl _ rfl _ _ (by repeat (first | exact Repl.here | apply Repl.there)) (by (try simp only [Array.size_setIfInBounds, putL_size]); first | exact Nat.le_of_ble_eq_true rfl | (simp; omega)) (by kernel_rfl) (by kernel_rfl) ?_; clear KN; intro wx KN)) | ((refine gate_new (by rfl) ?_); first | (refine wpList_kn_boxA KN (by rfl) 35 _ rfl 2 rfl _ rfl ?_; clear KN; intro g2 wx hg2 KN) | (refine wpList_kn_alloc KN (by rfl) 35 rfl 4 rfl Vm.zero.cells (by kernel_rfl) ?_; clear KN; intro g4 wx hg4 KN) | (refine wpList_built rfl 35 #[] rfl Vm.zero.cells (by kernel_rfl) ?_) | (refine wpList_built rfl 33 #[] rfl Eff.none.cells (by kernel_rfl) ?_))))
  refine bodyPost_ret (results_ct Try.results22 _ _ _ ({ u with state := 0, wait := Eff.none } : Vm).cells _ rfl (load_vm (KN.at_ (by repeat (first | exact Has.here | refine Has.there ?_)))) rfl) rfl ⟨?_, KN.toBelow⟩
  unfold finV Vm.setRs Vm.setRs
  rw [HREG.out, Int.toNat_natCast, ← HU.out]
  rfl
theorem RFinish_any (v : Vm) (va : Value) (xs : List Int) (w : World) (ht : v.typed) (hx : U64s w va xs) :
    Calls Try.prog 22 #[.agg v.cells, va] w fun e w' => e = .returned (pairVal (finRes v xs)) ∧ Below w.heap.size w w' := by
  by_cases h : v.waitErr = 0
  · have hk := Vm.wait_kind h
    obtain ⟨wd, pc, st, ca, regs, ⟨kd, rg, nm, ad, vl⟩⟩ := v
    have hr0 : 0 ≤ rg := by simp only at hk; omega
    obtain ⟨R, rfl⟩ := Int.eq_ofNat_of_zero_le hr0
    have hk' : kd = 1 ∨ kd = 2 ∨ kd = 3 := by simp only at hk; omega
    simp only at hk
    cases hn : finOk kd xs.length with
    | false => rw [finRes_bad h hn]; exact RFinish_bad wd pc st ca regs kd nm ad vl R va xs w hk' ht hx h hn
    | true =>
      rw [finRes_ok h hn]
      rcases hk' with rfl | rfl | rfl
      · have h1 : xs.length = 1 := by simpa [finOk] using hn
        match xs, h1 with
        | [x], _ => exact RFinish_1 wd pc st ca regs nm ad vl R va x w ht hx h (by omega)
      · have h1 : xs = [] := by simpa [finOk] using hn
        have hR : R = 0 := by omega
        subst h1; subst hR
        exact RFinish_2 wd pc st ca regs nm ad vl va w ht hx h
      · have hR : R = 0 := by omega
        subst hR
        exact RFinish_3 wd pc st ca regs nm ad vl va xs w ht hx h (by simpa [finOk] using hn)
  · rw [finRes_no h]; exact RFinish_no v va xs w ht hx h
end Go.Proofs.Ytbllialcfmpkaaa
