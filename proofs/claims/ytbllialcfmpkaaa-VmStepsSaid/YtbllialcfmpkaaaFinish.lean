/- The interpreter's Finish. -/
import Derived.Test.YtbllialcfmpkaaaRunR
import Derived.Test.YtbllialcfmpkaaaArgs
set_option linter.unusedVariables false
set_option linter.unusedSimpArgs false
set_option linter.unusedSectionVars false
namespace Go.Proofs.Ytbllialcfmpkaaa
open Go.RowKit
def Vm.setRs : Vm → Nat → List Int → Vm
  | v, _, [] => v
  | v, i, x :: r => (v.setR i (x % pw2 v.width)).setRs (i + 1) r
theorem Vm.setRs_snoc (x : Int) : ∀ (xs : List Int) (v : Vm) (i : Nat), v.setRs i (xs ++ [x]) = (v.setRs i xs).setR (i + xs.length) (x % pw2 v.width)
  | [], v, i => rfl
  | y :: r, v, i => by
    rw [List.cons_append, Vm.setRs, Vm.setRs_snoc x r, Vm.setRs]
    rw [List.length_cons, show i + 1 + r.length = i + (r.length + 1) from by omega]
    rfl
theorem Vm.setRs_parts : ∀ (xs : List Int) (v : Vm) (i : Nat), (v.setRs i xs).width = v.width ∧ (v.setRs i xs).pc = v.pc ∧ (v.setRs i xs).regs.length = v.regs.length ∧ (v.setRs i xs).wait = v.wait ∧ (v.setRs i xs).state = v.state ∧ (v.setRs i xs).cause = v.cause
  | [], v, i => ⟨rfl, rfl, rfl, rfl, rfl, rfl⟩
  | y :: r, v, i => by
    obtain ⟨h1, h2, h3, h4, h5, h6⟩ := Vm.setRs_parts r (v.setR i (y % pw2 v.width)) (i + 1)
    rw [Vm.setRs]
    exact ⟨h1, h2, h3.trans (Vm.setR_len _ _ _), h4, h5, h6⟩
theorem Vm.setRs_fits : ∀ (xs : List Int) (v : Vm) (i : Nat), v.fits → i + xs.length ≤ 16 → (v.setRs i xs).fits
  | [], v, i, h, _ => h
  | y :: r, v, i, h, hl => by
    simp only [List.length_cons] at hl
    exact Vm.setRs_fits r _ _ (h.setR i _ (Int.emod_nonneg _ (by have := pw2_pos v.width; omega)) (Int.emod_lt_of_pos _ (pw2_pos v.width).1) (by omega)) (by omega)
def finOk (kind : Int) (n : Nat) : Bool := if kind = 1 then n == 1 else if kind = 2 then n == 0 else decide (n ≤ 4)
def finV (v : Vm) (xs : List Int) : Vm := { v.setRs v.wait.reg.toNat xs with state := 0, wait := Eff.none }
def finRes (v : Vm) (xs : List Int) : Vm × Int := if v.waitErr = 0 then (if finOk v.wait.kind xs.length = true then (finV v xs, 0) else (Vm.zero, 1)) else (Vm.zero, v.waitErr)
theorem finRes_no {v : Vm} {xs : List Int} (h : ¬ v.waitErr = 0) : finRes v xs = (Vm.zero, v.waitErr) := by unfold finRes; rw [if_neg h]
theorem finRes_bad {v : Vm} {xs : List Int} (h : v.waitErr = 0) (h2 : finOk v.wait.kind xs.length = false) : finRes v xs = (Vm.zero, 1) := by unfold finRes; rw [if_pos h, if_neg (by rw [h2]; decide)]
theorem finRes_ok {v : Vm} {xs : List Int} (h : v.waitErr = 0) (h2 : finOk v.wait.kind xs.length = true) : finRes v xs = (finV v xs, 0) := by unfold finRes; rw [if_pos h, if_pos h2]
/-- What waits: its kind and where its results go. -/
theorem Vm.wait_kind {v : Vm} (h : v.waitErr = 0) : (v.wait.kind = 1 ∧ 0 ≤ v.wait.reg ∧ v.wait.reg < 16) ∨ (v.wait.kind = 2 ∧ v.wait.reg = 0) ∨ (v.wait.kind = 3 ∧ v.wait.reg = 0) := by
  obtain ⟨h0, h1⟩ := Vm.wait_ok h
  obtain ⟨_, _, he⟩ := Vm.ok_wait h0 h1
  unfold effOk at he
  split at he
  · simp at he; omega
  · split at he
    · simp at he; omega
    · split at he
      · simp at he; omega
      · cases he
theorem machStart_fits {v : Vm} (h : v.fits) : (Mach.start v none 0 0).fits :=
  ⟨h.wide, h.len, h.reg, ⟨Int.le_refl _, by show (0 : Int) < 16; decide⟩, ⟨Int.le_refl _, by show (0 : Int) < 16; decide⟩, ⟨Int.le_refl _, by show (0 : Int) < 16; decide⟩, by show (-2147483648 : Int) ≤ 0 ∧ (0 : Int) ≤ 2147483647; decide, h.pc, Nat.zero_le _⟩

set_option maxRecDepth 100000 in
set_option maxHeartbeats 1000000 in
theorem Finish_no (v : Vm) (va : Value) (xs : List Int) (w : World) (ht : v.typed) (hx : U64s w va xs) (h : ¬ v.waitErr = 0) :
    Calls Try.prog 21 #[.agg v.cells, va] w fun e w' => e = .returned (pairVal (Vm.zero, v.waitErr)) ∧ Below w.heap.size w w' := by
  have KN := Kn.start w
  obtain ⟨a, c, rfl, -⟩ := hx.form
  have n1 : (v.waitErr != 0) = true := by rw [bne_iff_ne]; exact h
  clear h hx
  go_enter Try.func21, Try.ntmps21
  go_wp2_with (first | (go_at_call 37; refine (checkWaiting_any v _ ht).mono ?_; rintro e w1 ⟨rfl, hb1⟩; replace KN := KN.below hb1; clear hb1) | ((with_reducible refine wpList_gate ?_); first | ((refine gate_load (by rfl) ?_); first | (refine wpList_kn_loadW KN (by rfl) 35 _ rfl _ rfl _ _ (by repeat (first | exact Has.here | refine Has.there ?_)) _ Try.underlying35 rfl (by kernel_rfl) ?_) | (refine wpList_kn_load1 KN (by rfl) 3 _ rfl _ _ rfl _ _ (by repeat (first | exact Has.here | refine Has.there ?_)) _ (by (repeat (first | ((with_reducible refine get_hit ?_); exact Nat.le_of_ble_eq_true (by kernel_rfl)) | ((with_reducible refine (get_miss ?_).trans ?_); (focus kernel_rfl)) | ((with_reducible refine (get_pmiss ?_).trans ?_); (focus kernel_rfl)))); all_goals (conv => lhs; whnf; arg 1; whnf)) _ Try.underlying3 rfl ?_) | (refine wpList_kn_load1 KN (by rfl) 30 _ rfl _ _ rfl _ _ (by repeat (first | exact Has.here | refine Has.there ?_)) _ (by (repeat (first | ((with_reducible refine get_hit ?_); exact Nat.le_of_ble_eq_true (by kernel_rfl)) | ((with_reducible refine (get_miss ?_).trans ?_); (focus kernel_rfl)) | ((with_reducible refine (get_pmiss ?_).trans ?_); (focus kernel_rfl)))); all_goals (conv => lhs; whnf; arg 1; whnf)) _ Try.underlying30 rfl ?_)) | ((refine gate_store (by rfl) ?_); first | (refine wpList_kn_storeW KN (by rfl) 35 _ _ rfl _ rfl _ rfl _ _ (by repeat (first | exact Repl.here | apply Repl.there)) (by kernel_rfl) (by kernel_rfl) (by kernel_rfl) ?_; clear KN; intro wx KN) | (refine wpList_kn_storeA KN (by rfl) 35 _ _ rfl _ _ rfl _ rfl _ _ (by repeat (first | exact Repl.here | apply Repl.there)) (by (try simp only [Array.size_setIfInBounds, putL_size]); first | exact Nat.le_of_ble_eq_true rfl | (simp; omega)) (by kernel_rfl) (by kernel_rfl) ?_; clear KN; intro wx KN) | (refine wpList_kn_storeW KN (by rfl) 74 _ _ rfl _ rfl _ rfl _ _ (by repeat (first | exact Repl.here | apply Repl.there)) (by kernel_rfl) (by kernel_rfl) (by kernel_rfl) ?_; clear KN; intro wx KN) | (refine wpList_kn_storeA KN (by rfl) 74 _ _ rfl _ _ rfl _ rfl _ _ (by repeat (first | exact Repl.here | apply Repl.there)) (by (try simp only [Array.size_setIfInBounds, putL_size]); first | exact Nat.le_of_ble_eq_true rfl | (simp; omega)) (by kernel_rfl) (by kernel_rfl) ?_; clear KN; intro wx KN) | (refine wpList_kn_store1 KN (by rfl) 30 _ _ rfl _ _ rfl _ (by conv => lhs; whnf) (by rfl) _ _ (by repeat (first | exact Repl.here | apply Repl.there)) (by (try simp only [Array.size_setIfInBounds, putL_size]); first | exact Nat.le_of_ble_eq_true rfl | (simp; omega)) (by kernel_rfl) (by rfl) ?_; clear KN; intro wx KN) | (refine wpList_kn_store1 KN (by rfl) 3 _ _ rfl _ _ rfl _ (by conv => lhs; whnf) (by rfl) _ _ (by repeat (first | exact Repl.here | apply Repl.there)) (by (try simp only [Array.size_setIfInBounds, putL_size]); first | exact Nat.le_of_ble_eq_true rfl | (simp; omega)) (by kernel_rfl) (by rfl) ?_; clear KN; intro wx KN) | (refine wpList_kn_storeW KN (by rfl) 33 _ _ rfl _ rfl _ rfl _ _ (by repeat (first | exact Repl.here | apply Repl.there)) (by kernel_rfl) (by kernel_rfl) (by kernel_rfl) ?_; clear KN; intro wx KN) | (refine wpList_kn_storeA KN (by rfl) 33 _ _ rfl _ _ rfl _ rfl _ _ (by repeat (first | exact Repl.here | apply Repl.there)) (by (try simp only [Array.size_setIfInBounds, putL_size]); first | exact Nat.le_of_ble_eq_true rfl | (simp; omega)) (by kernel_rfl) (by kernel_rfl) ?_; clear KN; intro wx KN)) | ((refine gate_new (by rfl) ?_); first | (refine wpList_kn_boxA KN (by rfl) 35 _ rfl 2 rfl _ rfl ?_; clear KN; intro g2 wx hg2 KN) | (refine wpList_kn_alloc KN (by rfl) 35 rfl 4 rfl Vm.zero.cells (by kernel_rfl) ?_; clear KN; intro g4 wx hg4 KN) | (refine wpList_built rfl 35 #[] rfl Vm.zero.cells (by kernel_rfl) ?_) | (refine wpList_kn_alloc KN (by rfl) 74 rfl 7 rfl #[.int .i64 0, .int .i64 0, .int .i64 0, .int .i64 0] (by kernel_rfl) ?_; clear KN; intro g7 wx hg7 KN) | (refine wpList_kn_alloc KN (by rfl) 74 rfl 8 rfl #[.int .i64 0, .int .i64 0, .int .i64 0, .int .i64 0] (by kernel_rfl) ?_; clear KN; intro g8 wx hg8 KN) | (refine wpList_kn_boxA KN (by rfl) 64 _ rfl 41 rfl _ rfl ?_; clear KN; intro g41 wx hg41 KN) | (refine wpList_built rfl 33 #[] rfl Eff.none.cells (by kernel_rfl) ?_))))
  exact bodyPost_ret (results_ct Try.results21 _ _ _ Vm.zero.cells _ rfl (load_vm (KN.at_ (by repeat (first | exact Has.here | refine Has.there ?_)))) rfl) rfl ⟨rfl, KN.toBelow⟩
def leastA : Array Value := #[.int .i64 0, .int .i64 1, .int .i64 0, .int .i64 0]
def mostA : Array Value := #[.int .i64 0, .int .i64 1, .int .i64 0, .int .i64 4]
/-- What is so at each round's head. -/
def FRel (v : Vm) (xs : List Int) (g2 g4 g7 g8 g41 : Nat) (W : World) (cn : Value) (wr : World) : Prop :=
  ∃ (k : Nat), k ≤ xs.length ∧ cn = .int .i64 k ∧ Kn [] W wr [(g41, At (Mach.start (v.setRs v.wait.reg.toNat (xs.take k)) none 0 0).cells 64), (g8, At mostA 74), (g7, At leastA 74), (g4, At Vm.zero.cells 35), (g2, At v.cells 35)]
set_option maxRecDepth 100000 in
set_option maxHeartbeats 2000000 in
theorem Finish_1 (wd pc st ca : Int) (regs : List Int) (kd nm ad vl : Int) (R : Nat) (va : Value) (xs : List Int) (w : World) (hk : kd = 1 ∨ kd = 2 ∨ kd = 3) (ht : Vm.typed ⟨wd, pc, st, ca, regs, ⟨kd, R, nm, ad, vl⟩⟩) (hx : U64s w va xs) (h : Vm.waitErr ⟨wd, pc, st, ca, regs, ⟨kd, R, nm, ad, vl⟩⟩ = 0) (hn : finOk kd xs.length = true) (hr : R + xs.length ≤ 16) :
    Calls Try.prog 21 #[.agg (Vm.mk wd pc st ca regs ⟨kd, R, nm, ad, vl⟩).cells, va] w fun e w' => e = .returned (pairVal (finV ⟨wd, pc, st, ca, regs, ⟨kd, R, nm, ad, vl⟩⟩ xs, 0)) ∧ Below w.heap.size w w' := by
  have KN := Kn.start w
  obtain ⟨a, c, rfl, hxl, hxc⟩ := hx.form
  have HC := Lib.hid hxc
  have HX := Lib.hid hx
  obtain ⟨v, hv⟩ : ∃ v : Vm, v = ⟨wd, pc, st, ca, regs, ⟨kd, R, nm, ad, vl⟩⟩ := ⟨_, rfl⟩
  rw [← hv] at ht h ⊢
  have HW := Lib.hid h
  have FT := Lib.hid (Vm.ok_fits (Vm.wait_ok h).1 ht)
  have hreg : v.wait.reg = R := by rw [hv]
  have hg20 : v.cells[20]? = some (.int .i64 kd) := by rw [hv]; rfl
  have hg21 : v.cells[21]? = some (.int .i64 R) := by rw [hv]; rfl
  have G20 := Lib.hid hg20
  have G21 := Lib.hid hg21
  have HREG := Lib.hid hreg
  have HT := Lib.hid ht
  clear hx hxc h hreg hg20 hg21 hv ht
  unfold maxLen at hxl
  obtain ⟨n, hnn⟩ : ∃ n, n = xs.length := ⟨_, rfl⟩
  rw [← hnn] at hn hr hxl ⊢
  have HN := Lib.hid hnn
  clear hnn
  rcases hk with rfl | rfl | rfl
  case' inl => have hn' : 1 ≤ n ∧ n ≤ 1 := by simp [finOk] at hn; omega
  case' inr.inl => have hn' : 0 ≤ n ∧ n ≤ 0 := by simp [finOk] at hn; omega
  case' inr.inr => have hn' : 0 ≤ n ∧ n ≤ 4 := by simp [finOk] at hn; omega
  case inl =>
    obtain ⟨n0, n1⟩ := hn'
    have hb1 : decide ((n : Int) < 1) = false := by (simp; omega)
    clear hn
    go_enter Try.func21, Try.ntmps21
    go_wp2_with (first | (go_at_call 37; refine (checkWaiting_any v _ HT.out).mono ?_; rintro e w1 ⟨rfl, hb1⟩; replace KN := KN.below hb1; clear hb1; rw [HW.out]) | ((with_reducible refine wpList_gate ?_); first | ((refine gate_load (by rfl) ?_); first | (refine wpList_kn_load1 KN (by rfl) 3 (.tmp 23) rfl g2 20 rfl _ _ (by repeat (first | exact Has.here | refine Has.there ?_)) _ G20.out _ Try.underlying3 rfl ?_) | (refine wpList_kn_load1 KN (by rfl) 3 (.tmp 32) rfl g2 20 rfl _ _ (by repeat (first | exact Has.here | refine Has.there ?_)) _ G20.out _ Try.underlying3 rfl ?_) | (refine wpList_kn_loadW KN (by rfl) 35 _ rfl _ rfl _ _ (by repeat (first | exact Has.here | refine Has.there ?_)) _ Try.underlying35 rfl (by kernel_rfl) ?_) | (refine wpList_kn_load1 KN (by rfl) 3 _ rfl _ _ rfl _ _ (by repeat (first | exact Has.here | refine Has.there ?_)) _ (by (repeat (first | ((with_reducible refine get_hit ?_); exact Nat.le_of_ble_eq_true (by kernel_rfl)) | ((with_reducible refine (get_miss ?_).trans ?_); (focus kernel_rfl)) | ((with_reducible refine (get_pmiss ?_).trans ?_); (focus kernel_rfl)))); all_goals (conv => lhs; whnf; arg 1; whnf)) _ Try.underlying3 rfl ?_) | (refine wpList_kn_load1 KN (by rfl) 30 _ rfl _ _ rfl _ _ (by repeat (first | exact Has.here | refine Has.there ?_)) _ (by (repeat (first | ((with_reducible refine get_hit ?_); exact Nat.le_of_ble_eq_true (by kernel_rfl)) | ((with_reducible refine (get_miss ?_).trans ?_); (focus kernel_rfl)) | ((with_reducible refine (get_pmiss ?_).trans ?_); (focus kernel_rfl)))); all_goals (conv => lhs; whnf; arg 1; whnf)) _ Try.underlying30 rfl ?_)) | ((refine gate_store (by rfl) ?_); first | (refine wpList_kn_storeW KN (by rfl) 35 _ _ rfl _ rfl _ rfl _ _ (by repeat (first | exact Repl.here | apply Repl.there)) (by kernel_rfl) (by kernel_rfl) (by kernel_rfl) ?_; clear KN; intro wx KN) | (refine wpList_kn_storeA KN (by rfl) 35 _ _ rfl _ _ rfl _ rfl _ _ (by repeat (first | exact Repl.here | apply Repl.there)) (by (try simp only [Array.size_setIfInBounds, putL_size]); first | exact Nat.le_of_ble_eq_true rfl | (simp; omega)) (by kernel_rfl) (by kernel_rfl) ?_; clear KN; intro wx KN) | (refine wpList_kn_storeW KN (by rfl) 74 _ _ rfl _ rfl _ rfl _ _ (by repeat (first | exact Repl.here | apply Repl.there)) (by kernel_rfl) (by kernel_rfl) (by kernel_rfl) ?_; clear KN; intro wx KN) | (refine wpList_kn_storeA KN (by rfl) 74 _ _ rfl _ _ rfl _ rfl _ _ (by repeat (first | exact Repl.here | apply Repl.there)) (by (try simp only [Array.size_setIfInBounds, putL_size]); first | exact Nat.le_of_ble_eq_true rfl | (simp; omega)) (by kernel_rfl) (by kernel_rfl) ?_; clear KN; intro wx KN) | (refine wpList_kn_store1 KN (by rfl) 30 _ _ rfl _ _ rfl _ (by conv => lhs; whnf) (by rfl) _ _ (by repeat (first | exact Repl.here | apply Repl.there)) (by (try simp only [Array.size_setIfInBounds, putL_size]); first | exact Nat.le_of_ble_eq_true rfl | (simp; omega)) (by kernel_rfl) (by rfl) ?_; clear KN; intro wx KN) | (refine wpList_kn_store1 KN (by rfl) 3 _ _ rfl _ _ rfl _ (by conv => lhs; whnf) (by rfl) _ _ (by repeat (first | exact Repl.here | apply Repl.there)) (by (try simp only [Array.size_setIfInBounds, putL_size]); first | exact Nat.le_of_ble_eq_true rfl | (simp; omega)) (by kernel_rfl) (by rfl) ?_; clear KN; intro wx KN) | (refine wpList_kn_storeW KN (by rfl) 33 _ _ rfl _ rfl _ rfl _ _ (by repeat (first | exact Repl.here | apply Repl.there)) (by kernel_rfl) (by kernel_rfl) (by kernel_rfl) ?_; clear KN; intro wx KN) | (refine wpList_kn_storeA KN (by rfl) 33 _ _ rfl _ _ rfl _ rfl _ _ (by repeat (first | exact Repl.here | apply Repl.there)) (by (try simp only [Array.size_setIfInBounds, putL_size]); first | exact Nat.le_of_ble_eq_true rfl | (simp; omega)) (by kernel_rfl) (by kernel_rfl) ?_; clear KN; intro wx KN)) | ((refine gate_new (by rfl) ?_); first | (refine wpList_built rfl 74 #[_, _, _, (3, .const (.int .i64 0))] rfl leastA (by kernel_rfl) ?_) | (refine wpList_built rfl 74 #[_, _, _, (3, .const (.int .i64 4))] rfl mostA (by kernel_rfl) ?_) | (refine wpList_built rfl 64 _ rfl (Mach.start v none 0 0).cells (by kernel_rfl) ?_) | (refine wpList_kn_boxA KN (by rfl) 35 _ rfl 2 rfl _ rfl ?_; clear KN; intro g2 wx hg2 KN) | (refine wpList_kn_alloc KN (by rfl) 35 rfl 4 rfl Vm.zero.cells (by kernel_rfl) ?_; clear KN; intro g4 wx hg4 KN) | (refine wpList_built rfl 35 #[] rfl Vm.zero.cells (by kernel_rfl) ?_) | (refine wpList_kn_alloc KN (by rfl) 74 rfl 7 rfl #[.int .i64 0, .int .i64 0, .int .i64 0, .int .i64 0] (by kernel_rfl) ?_; clear KN; intro g7 wx hg7 KN) | (refine wpList_kn_alloc KN (by rfl) 74 rfl 8 rfl #[.int .i64 0, .int .i64 0, .int .i64 0, .int .i64 0] (by kernel_rfl) ?_; clear KN; intro g8 wx hg8 KN) | (refine wpList_kn_boxA KN (by rfl) 64 _ rfl 41 rfl _ rfl ?_; clear KN; intro g41 wx hg41 KN) | (refine wpList_built rfl 33 #[] rfl Eff.none.cells (by kernel_rfl) ?_))))
    have HREL : Hid (FRel v xs g2 g4 g7 g8 g41 w (.int .i64 0) wx) := Lib.hid ⟨0, Nat.zero_le _, rfl, KN⟩
    clear KN
    go_loopw [44] (fun cn wr => FRel v xs g2 g4 g7 g8 g41 w cn wr) (fun cn _ => n - (intOf cn).toNat)
    case atStart => exact HREL.out
    case round =>
      obtain ⟨k, hk, rfl, KN⟩ := hrel
      rw [← HN.out] at hk
      rw [HREG.out, Int.toNat_natCast] at KN
      by_cases hlt : k < n
      · obtain ⟨x, hxk⟩ : ∃ x, xs[k]? = some x := ⟨_, List.getElem?_eq_getElem (by rw [← HN.out]; exact hlt)⟩
        obtain ⟨gv, ov, rfl, hgv, hlc, hcm, hcell⟩ := HC.out k x hxk
        unfold maxLen at hcm
        have hxm := HX.out.2 x (List.mem_of_getElem? hxk)
        have hxm0 := hxm.1
        have hxm1 := hxm.2
        have hts : (xs.take (k + 1)) = xs.take k ++ [x] := by rw [List.take_add_one, hxk]; rfl
        have hln : (xs.take k).length = k := by rw [List.length_take, ← HN.out]; omega
        obtain ⟨u, hu⟩ : ∃ u, u = v.setRs R (xs.take k) := ⟨_, rfl⟩
        rw [← hu] at KN
        have FU := Lib.hid (show u.fits by rw [hu]; exact Vm.setRs_fits _ _ _ FT.out (by omega))
        have hnext : v.setRs R (xs.take (k + 1)) = u.setR (R + k) (x % pw2 u.width) := by
          rw [hts, Vm.setRs_snoc, hln, ← hu, hu, (Vm.setRs_parts _ _ _).1]
        have HNX := Lib.hid hnext
        have HTS := Lib.hid hts
        have HU := Lib.hid hu
        have HXK := Lib.hid hxk
        clear hxm hts hln hu hnext hxk
        go_wp2_with (first | ((with_reducible refine wpList_gate ?_); first | ((refine gate_load (by rfl) ?_); first | (refine wpList_kn_old1 KN (by rfl) 30 _ rfl _ _ rfl _ hcell (by simp) _ Try.underlying30 rfl ?_) | (refine wpList_kn_loadW KN (by rfl) 35 _ rfl _ rfl _ _ (by repeat (first | exact Has.here | refine Has.there ?_)) _ Try.underlying35 rfl (by kernel_rfl) ?_) | (refine wpList_kn_load1 KN (by rfl) 3 _ rfl _ _ rfl _ _ (by repeat (first | exact Has.here | refine Has.there ?_)) _ (by (repeat (first | ((with_reducible refine get_hit ?_); exact Nat.le_of_ble_eq_true (by kernel_rfl)) | ((with_reducible refine (get_miss ?_).trans ?_); (focus kernel_rfl)) | ((with_reducible refine (get_pmiss ?_).trans ?_); (focus kernel_rfl)))); all_goals (conv => lhs; whnf; arg 1; whnf)) _ Try.underlying3 rfl ?_) | (refine wpList_kn_load1 KN (by rfl) 30 _ rfl _ _ rfl _ _ (by repeat (first | exact Has.here | refine Has.there ?_)) _ (by (repeat (first | ((with_reducible refine get_hit ?_); exact Nat.le_of_ble_eq_true (by kernel_rfl)) | ((with_reducible refine (get_miss ?_).trans ?_); (focus kernel_rfl)) | ((with_reducible refine (get_pmiss ?_).trans ?_); (focus kernel_rfl)))); all_goals (conv => lhs; whnf; arg 1; whnf)) _ Try.underlying30 rfl ?_)) | ((refine gate_store (by rfl) ?_); first | (refine wpList_kn_storeW KN (by rfl) 35 _ _ rfl _ rfl _ rfl _ _ (by repeat (first | exact Repl.here | apply Repl.there)) (by kernel_rfl) (by kernel_rfl) (by kernel_rfl) ?_; clear KN; intro wx KN) | (refine wpList_kn_storeA KN (by rfl) 35 _ _ rfl _ _ rfl _ rfl _ _ (by repeat (first | exact Repl.here | apply Repl.there)) (by (try simp only [Array.size_setIfInBounds, putL_size]); first | exact Nat.le_of_ble_eq_true rfl | (simp; omega)) (by kernel_rfl) (by kernel_rfl) ?_; clear KN; intro wx KN) | (refine wpList_kn_storeW KN (by rfl) 74 _ _ rfl _ rfl _ rfl _ _ (by repeat (first | exact Repl.here | apply Repl.there)) (by kernel_rfl) (by kernel_rfl) (by kernel_rfl) ?_; clear KN; intro wx KN) | (refine wpList_kn_storeA KN (by rfl) 74 _ _ rfl _ _ rfl _ rfl _ _ (by repeat (first | exact Repl.here | apply Repl.there)) (by (try simp only [Array.size_setIfInBounds, putL_size]); first | exact Nat.le_of_ble_eq_true rfl | (simp; omega)) (by kernel_rfl) (by kernel_rfl) ?_; clear KN; intro wx KN) | (refine wpList_kn_store1 KN (by rfl) 30 _ _ rfl _ _ rfl _ (by conv => lhs; whnf) (by rfl) _ _ (by repeat (first | exact Repl.here | apply Repl.there)) (by (try simp only [Array.size_setIfInBounds, putL_size]); first | exact Nat.le_of_ble_eq_true rfl | (simp; omega)) (by kernel_rfl) (by rfl) ?_; clear KN; intro wx KN) | (refine wpList_kn_store1 KN (by rfl) 3 _ _ rfl _ _ rfl _ (by conv => lhs; whnf) (by rfl) _ _ (by repeat (first | exact Repl.here | apply Repl.there)) (by (try simp only [Array.size_setIfInBounds, putL_size]); first | exact Nat.le_of_ble_eq_true rfl | (simp; omega)) (by kernel_rfl) (by rfl) ?_; clear KN; intro wx KN) | (refine wpList_kn_storeW KN (by rfl) 33 _ _ rfl _ rfl _ rfl _ _ (by repeat (first | exact Repl.here | apply Repl.there)) (by kernel_rfl) (by kernel_rfl) (by kernel_rfl) ?_; clear KN; intro wx KN) | (refine wpList_kn_storeA KN (by rfl) 33 _ _ rfl _ _ rfl _ rfl _ _ (by repeat (first | exact Repl.here | apply Repl.there)) (by (try simp only [Array.size_setIfInBounds, putL_size]); first | exact Nat.le_of_ble_eq_true rfl | (simp; omega)) (by kernel_rfl) (by kernel_rfl) ?_; clear KN; intro wx KN)) | ((refine gate_new (by rfl) ?_); first | (refine wpList_kn_boxA KN (by rfl) 35 _ rfl 2 rfl _ rfl ?_; clear KN; intro g2 wx hg2 KN) | (refine wpList_kn_alloc KN (by rfl) 35 rfl 4 rfl Vm.zero.cells (by kernel_rfl) ?_; clear KN; intro g4 wx hg4 KN) | (refine wpList_built rfl 35 #[] rfl Vm.zero.cells (by kernel_rfl) ?_) | (refine wpList_kn_alloc KN (by rfl) 74 rfl 7 rfl #[.int .i64 0, .int .i64 0, .int .i64 0, .int .i64 0] (by kernel_rfl) ?_; clear KN; intro g7 wx hg7 KN) | (refine wpList_kn_alloc KN (by rfl) 74 rfl 8 rfl #[.int .i64 0, .int .i64 0, .int .i64 0, .int .i64 0] (by kernel_rfl) ?_; clear KN; intro g8 wx hg8 KN) | (refine wpList_kn_boxA KN (by rfl) 64 _ rfl 41 rfl _ rfl ?_; clear KN; intro g41 wx hg41 KN) | (refine wpList_built rfl 33 #[] rfl Eff.none.cells (by kernel_rfl) ?_))))
        replace KN := KN.drew
        have hs0 : IntKind.i64.wrap ((R : Int) + (k : Int)) = (R : Int) + (k : Int) := IntWalk.i64_in _ (by omega)
        have hs1 : 0 ≤ (R : Int) + (k : Int) := by omega
        have hs2 : (R : Int) + (k : Int) < 16 := by omega
        have hs3 : ((R : Int) + (k : Int)).toNat = R + k := by omega
        refine wp_region_held_drew (S := (fun w' => BlkT w' g2 v.cells 35)) (by kernel_rfl) ?qahS (fun hHeld => ?qarest)
        case qahS => exact KN.at_ (by repeat (first | exact Has.here | refine Has.there ?_))
        refine wpAnyH_take (i := 0) (oi := ⟨some 49, _, _, _, _, _⟩) (v := ?qav0) rfl (by kernel_rfl) (by kernel_rfl) (by kernel_rfl) (fun _ _ _ h => h) (Or.inl ⟨by rfl, ?qahy0⟩) hHeld ?qar0
        case qahy0 => (intro w hSw; (try dsimp only at hSw); go_simp; (try with_reducible rfl))
        (try simp only [Act.put, List.setIfInBounds_toArray, List.set_cons_zero, List.set_cons_succ])
        refine wpAnyH_take (i := 1) (oi := ⟨some 50, _, _, _, _, _⟩) (v := ?qav1) rfl (by kernel_rfl) (by kernel_rfl) (by kernel_rfl) (fun _ _ _ h => h) (Or.inl ⟨by rfl, ?qahy1⟩) hHeld ?qar1
        case qahy1 => (intro w hSw; (try dsimp only at hSw); go_simp; (try with_reducible rfl))
        (try simp only [Act.put, List.setIfInBounds_toArray, List.set_cons_zero, List.set_cons_succ])
        refine wpAnyH_take (i := 2) (oi := ⟨some 51, _, _, _, _, _⟩) (v := ?qav2) rfl (by kernel_rfl) (by kernel_rfl) (by kernel_rfl) (fun _ _ _ h => h) (Or.inl ⟨by rfl, ?qahy2⟩) hHeld ?qar2
        case qahy2 => (intro w hSw; (try dsimp only at hSw); go_simp; (try with_reducible rfl))
        (try simp only [Act.put, List.setIfInBounds_toArray, List.set_cons_zero, List.set_cons_succ])
        refine wpAnyH_take (i := 3) (oi := ⟨some 52, _, _, _, _, _⟩) (v := (.int .i64 R)) rfl (by kernel_rfl) (by kernel_rfl) (by kernel_rfl) (fun _ _ _ h => h) (kn_yields1 (by rfl) 3 _ rfl g2 21 rfl v.cells 35 (fun _ h => h) _ G21.out _ Try.underlying3 rfl) hHeld ?qar3
        (try simp only [Act.put, List.setIfInBounds_toArray, List.set_cons_zero, List.set_cons_succ])
        refine wpAnyH_take (i := 4) (oi := ⟨some 53, _, _, _, _, _⟩) (v := ?qav4) rfl (by kernel_rfl) (by kernel_rfl) (by kernel_rfl) (fun _ _ _ h => h) (Or.inl ⟨by rfl, ?qahy4⟩) hHeld ?qar4
        case qahy4 => (intro w hSw; (try dsimp only at hSw); go_simp; (try with_reducible rfl))
        (try simp only [Act.put, List.setIfInBounds_toArray, List.set_cons_zero, List.set_cons_succ])
        refine wpAnyH_take (i := 5) (oi := ⟨some 54, _, _, _, _, _⟩) (v := ?qav5) rfl (by kernel_rfl) (by kernel_rfl) (by kernel_rfl) (fun _ _ _ h => h) (Or.inl ⟨by rfl, ?qahy5⟩) hHeld ?qar5
        case qahy5 => (intro w hSw; (try dsimp only at hSw); go_simp; (try with_reducible rfl))
        (try simp only [Act.put, List.setIfInBounds_toArray, List.set_cons_zero, List.set_cons_succ])
        refine wpAnyH_take (i := 6) (oi := ⟨some 55, _, _, _, _, _⟩) (v := ?qav6) rfl (by kernel_rfl) (by kernel_rfl) (by kernel_rfl) (fun _ _ _ h => h) (Or.inl ⟨by rfl, ?qahy6⟩) hHeld ?qar6
        case qahy6 => (intro w hSw; (try dsimp only at hSw); go_simp; (try with_reducible rfl))
        (try simp only [Act.put, List.setIfInBounds_toArray, List.set_cons_zero, List.set_cons_succ])
        refine wpAnyH_take (i := 7) (oi := ⟨some 56, _, _, _, _, _⟩) (v := ?qav7) rfl (by kernel_rfl) (by kernel_rfl) (by kernel_rfl) (fun _ _ _ h => h) (Or.inl ⟨by rfl, ?qahy7⟩) hHeld ?qar7
        case qahy7 => (intro w hSw; (try dsimp only at hSw); go_simp; (try with_reducible rfl))
        (try simp only [Act.put, List.setIfInBounds_toArray, List.set_cons_zero, List.set_cons_succ])
        refine wpAnyH_take (i := 9) (oi := ⟨some 58, _, _, _, _, _⟩) (v := ?qav9) rfl (by kernel_rfl) (by kernel_rfl) (by kernel_rfl) (fun _ _ _ h => h) (Or.inl ⟨by rfl, ?qahy9⟩) hHeld ?qar9
        case qahy9 => (intro w hSw; (try dsimp only at hSw); go_simp; (try with_reducible rfl))
        (try simp only [Act.put, List.setIfInBounds_toArray, List.set_cons_zero, List.set_cons_succ])
        refine wpAnyH_take (i := 10) (oi := ⟨some 59, _, _, _, _, _⟩) (v := ?qav10) rfl (by kernel_rfl) (by kernel_rfl) (by kernel_rfl) (fun _ _ _ h => h) (Or.inl ⟨by rfl, ?qahy10⟩) hHeld ?qar10
        case qahy10 => (intro w hSw; (try dsimp only at hSw); go_simp; (try with_reducible rfl))
        (try simp only [Act.put, List.setIfInBounds_toArray, List.set_cons_zero, List.set_cons_succ])
        refine wpAnyH_take (i := 11) (oi := ⟨some 60, _, _, _, _, _⟩) (v := ?qav11) rfl (by kernel_rfl) (by kernel_rfl) (by kernel_rfl) (fun _ _ _ h => h) (Or.inl ⟨by rfl, ?qahy11⟩) hHeld ?qar11
        case qahy11 => (intro w hSw; (try dsimp only at hSw); go_simp; (try with_reducible rfl))
        (try simp only [Act.put, List.setIfInBounds_toArray, List.set_cons_zero, List.set_cons_succ])
        refine wpAnyH_ready (rs := [8]) (by kernel_rfl) (by simp) ?qac8
        refine AllReadyH.cons (o := ⟨some 57, _, _, _, _, _⟩) rfl (fun K hK => ?qast8) AllReadyH.nil
        go_simp
        (refine (reduce_any g41 (Mach.start u none 0 0) _ _ (KN.at_ (by repeat (first | exact Has.here | refine Has.there ?_))) (machStart_fits FU.out) hxm0 hxm1).mono ?_; rintro e wx ⟨rfl, nr, rfl⟩; replace KN := KN.drewN nr)
        refine hK.out _ _ ?qak8 (fun hHeld2 => ?qam8)
        case qak8 => exact KN.at_ (by repeat (first | exact Has.here | refine Has.there ?_))
        clear hK K hHeld
        have hHeld := hHeld2; clear hHeld2
        (try simp only [Act.put, List.setIfInBounds_toArray, List.set_cons_zero, List.set_cons_succ])
        refine wpAnyH_take (i := 12) (oi := ⟨some 61, _, _, _, _, _⟩) (v := ?qav12) rfl (by kernel_rfl) (by kernel_rfl) (by kernel_rfl) (fun _ _ _ h => h) (Or.inl ⟨by rfl, ?qahy12⟩) hHeld ?qar12
        case qahy12 => (intro w hSw; (try dsimp only at hSw); go_simp; (try with_reducible rfl))
        (try simp only [Act.put, List.setIfInBounds_toArray, List.set_cons_zero, List.set_cons_succ])
        refine wpAnyH_ready (rs := [13]) (by kernel_rfl) (by simp) ?qac13
        refine AllReadyH.cons (o := ⟨none, _, _, _, _, _⟩) rfl (fun K hK => ?qast13) AllReadyH.nil
        (rw [if_pos (by rfl)]; refine wp_kn_store1 KN 30 _ _ rfl g41 (4 + (R + k)) rfl _ (by conv => lhs; whnf) (by rfl) _ _ (by repeat (first | exact Repl.here | apply Repl.there)) (by show 4 + (R + k) + 1 ≤ 37; omega) (by kernel_rfl) (by rfl) ?_; clear KN; intro wx KN; replace KN := KN.as_ g41 _ (by repeat (first | exact Repl.here | apply Repl.there)) ((Mach.start u none 0 0).set_reg (R + k) _ FU.out.len (by omega)))
        refine hK.out _ _ ?qak13 (fun hHeld2 => ?qam13)
        case qak13 => exact KN.at_ (by repeat (first | exact Has.here | refine Has.there ?_))
        clear hK K hHeld
        have hHeld := hHeld2; clear hHeld2
        (try simp only [Act.put, List.setIfInBounds_toArray, List.set_cons_zero, List.set_cons_succ])
        refine wpAnyH_done (by kernel_rfl) ?qadone _
        clear hHeld hs0 hs1 hs2 hs3
        go_wp2_with fail
        go_roundw
        case rel =>
          refine ⟨k + 1, by rw [← HN.out]; omega, by go_num, ?_⟩
          rw [HREG.out, Int.toNat_natCast, HNX.out]
          exact KN
        case measure => simp [intOf]; omega
      · have hfull : xs.take k = xs := List.take_of_length_le (by rw [← HN.out]; omega)
        rw [hfull] at KN
        clear hfull
        obtain ⟨u, hu⟩ : ∃ u, u = v.setRs R xs := ⟨_, rfl⟩
        rw [← hu] at KN
        have HU := Lib.hid hu
        clear hu
        go_wp2_with (first | ((with_reducible refine wpList_gate ?_); first | ((refine gate_load (by rfl) ?_); first | (refine wpList_kn_loadN KN (by rfl) 35 (.tmp 74) rfl g41 0 rfl _ _ (by repeat (first | exact Has.here | refine Has.there ?_)) ({ u with state := 0, wait := Eff.none } : Vm).cells (by kernel_rfl) _ Try.underlying35 rfl (by kernel_rfl) ?_) | (refine wpList_kn_loadW KN (by rfl) 35 _ rfl _ rfl _ _ (by repeat (first | exact Has.here | refine Has.there ?_)) _ Try.underlying35 rfl (by kernel_rfl) ?_) | (refine wpList_kn_load1 KN (by rfl) 3 _ rfl _ _ rfl _ _ (by repeat (first | exact Has.here | refine Has.there ?_)) _ (by (repeat (first | ((with_reducible refine get_hit ?_); exact Nat.le_of_ble_eq_true (by kernel_rfl)) | ((with_reducible refine (get_miss ?_).trans ?_); (focus kernel_rfl)) | ((with_reducible refine (get_pmiss ?_).trans ?_); (focus kernel_rfl)))); all_goals (conv => lhs; whnf; arg 1; whnf)) _ Try.underlying3 rfl ?_) | (refine wpList_kn_load1 KN (by rfl) 30 _ rfl _ _ rfl _ _ (by repeat (first | exact Has.here | refine Has.there ?_)) _ (by (repeat (first | ((with_reducible refine get_hit ?_); exact Nat.le_of_ble_eq_true (by kernel_rfl)) | ((with_reducible refine (get_miss ?_).trans ?_); (focus kernel_rfl)) | ((with_reducible refine (get_pmiss ?_).trans ?_); (focus kernel_rfl)))); all_goals (conv => lhs; whnf; arg 1; whnf)) _ Try.underlying30 rfl ?_)) | ((refine gate_store (by rfl) ?_); first | (refine wpList_kn_storeA KN (by rfl) 33 _ _ rfl g41 20 rfl _ rfl _ _ (by repeat (first | exact Repl.here | apply Repl.there)) (by show 20 + 5 ≤ 37; decide) (by kernel_rfl) (by kernel_rfl) ?_; clear KN; intro wx KN; replace KN := KN.as_ g41 (Mach.start { u with state := 0, wait := Eff.none } none 0 0).cells (by repeat (first | exact Repl.here | apply Repl.there)) (by kernel_rfl)) | (refine wpList_kn_storeW KN (by rfl) 35 _ _ rfl _ rfl _ rfl _ _ (by repeat (first | exact Repl.here | apply Repl.there)) (by kernel_rfl) (by kernel_rfl) (by kernel_rfl) ?_; clear KN; intro wx KN) | (refine wpList_kn_storeA KN (by rfl) 35 _ _ rfl _ _ rfl _ rfl _ _ (by repeat (first | exact Repl.here | apply Repl.there)) (by (try simp only [Array.size_setIfInBounds, putL_size]); first | exact Nat.le_of_ble_eq_true rfl | (simp; omega)) (by kernel_rfl) (by kernel_rfl) ?_; clear KN; intro wx KN) | (refine wpList_kn_storeW KN (by rfl) 74 _ _ rfl _ rfl _ rfl _ _ (by repeat (first | exact Repl.here | apply Repl.there)) (by kernel_rfl) (by kernel_rfl) (by kernel_rfl) ?_; clear KN; intro wx KN) | (refine wpList_kn_storeA KN (by rfl) 74 _ _ rfl _ _ rfl _ rfl _ _ (by repeat (first | exact Repl.here | apply Repl.there)) (by (try simp only [Array.size_setIfInBounds, putL_size]); first | exact Nat.le_of_ble_eq_true rfl | (simp; omega)) (by kernel_rfl) (by kernel_rfl) ?_; clear KN; intro wx KN) | (refine wpList_kn_store1 KN (by rfl) 30 _ _ rfl _ _ rfl _ (by conv => lhs; whnf) (by rfl) _ _ (by repeat (first | exact Repl.here | apply Repl.there)) (by (try simp only [Array.size_setIfInBounds, putL_size]); first | exact Nat.le_of_ble_eq_true rfl | (simp; omega)) (by kernel_rfl) (by rfl) ?_; clear KN; intro wx KN) | (refine wpList_kn_store1 KN (by rfl) 3 _ _ rfl _ _ rfl _ (by conv => lhs; whnf) (by rfl) _ _ (by repeat (first | exact Repl.here | apply Repl.there)) (by (try simp only [Array.size_setIfInBounds, putL_size]); first | exact Nat.le_of_ble_eq_true rfl | (simp; omega)) (by kernel_rfl) (by rfl) ?_; clear KN; intro wx KN) | (refine wpList_kn_storeW KN (by rfl) 33 _ _ rfl _ rfl _ rfl _ _ (by repeat (first | exact Repl.here | apply Repl.there)) (by kernel_rfl) (by kernel_rfl) (by kernel_rfl) ?_; clear KN; intro wx KN) | (refine wpList_kn_storeA KN (by rfl) 33 _ _ rfl _ _ rfl _ rfl _ _ (by repeat (first | exact Repl.here | apply Repl.there)) (by (try simp only [Array.size_setIfInBounds, putL_size]); first | exact Nat.le_of_ble_eq_true rfl | (simp; omega)) (by kernel_rfl) (by kernel_rfl) ?_; clear KN; intro wx KN)) | ((refine gate_new (by rfl) ?_); first | (refine wpList_kn_boxA KN (by rfl) 35 _ rfl 2 rfl _ rfl ?_; clear KN; intro g2 wx hg2 KN) | (refine wpList_kn_alloc KN (by rfl) 35 rfl 4 rfl Vm.zero.cells (by kernel_rfl) ?_; clear KN; intro g4 wx hg4 KN) | (refine wpList_built rfl 35 #[] rfl Vm.zero.cells (by kernel_rfl) ?_) | (refine wpList_kn_alloc KN (by rfl) 74 rfl 7 rfl #[.int .i64 0, .int .i64 0, .int .i64 0, .int .i64 0] (by kernel_rfl) ?_; clear KN; intro g7 wx hg7 KN) | (refine wpList_kn_alloc KN (by rfl) 74 rfl 8 rfl #[.int .i64 0, .int .i64 0, .int .i64 0, .int .i64 0] (by kernel_rfl) ?_; clear KN; intro g8 wx hg8 KN) | (refine wpList_kn_boxA KN (by rfl) 64 _ rfl 41 rfl _ rfl ?_; clear KN; intro g41 wx hg41 KN) | (refine wpList_built rfl 33 #[] rfl Eff.none.cells (by kernel_rfl) ?_))))
        refine bodyPost_ret (results_ct Try.results21 _ _ _ ({ u with state := 0, wait := Eff.none } : Vm).cells _ rfl (load_vm (KN.at_ (by repeat (first | exact Has.here | refine Has.there ?_)))) rfl) rfl ⟨?_, KN.toBelow⟩
        unfold finV
        rw [HREG.out, Int.toNat_natCast, ← HU.out]
        rfl
  case inr.inl =>
    obtain ⟨n0, n1⟩ := hn'
    skip
    clear hn
    go_enter Try.func21, Try.ntmps21
    go_wp2_with (first | (go_at_call 37; refine (checkWaiting_any v _ HT.out).mono ?_; rintro e w1 ⟨rfl, hb1⟩; replace KN := KN.below hb1; clear hb1; rw [HW.out]) | ((with_reducible refine wpList_gate ?_); first | ((refine gate_load (by rfl) ?_); first | (refine wpList_kn_load1 KN (by rfl) 3 (.tmp 23) rfl g2 20 rfl _ _ (by repeat (first | exact Has.here | refine Has.there ?_)) _ G20.out _ Try.underlying3 rfl ?_) | (refine wpList_kn_load1 KN (by rfl) 3 (.tmp 32) rfl g2 20 rfl _ _ (by repeat (first | exact Has.here | refine Has.there ?_)) _ G20.out _ Try.underlying3 rfl ?_) | (refine wpList_kn_loadW KN (by rfl) 35 _ rfl _ rfl _ _ (by repeat (first | exact Has.here | refine Has.there ?_)) _ Try.underlying35 rfl (by kernel_rfl) ?_) | (refine wpList_kn_load1 KN (by rfl) 3 _ rfl _ _ rfl _ _ (by repeat (first | exact Has.here | refine Has.there ?_)) _ (by (repeat (first | ((with_reducible refine get_hit ?_); exact Nat.le_of_ble_eq_true (by kernel_rfl)) | ((with_reducible refine (get_miss ?_).trans ?_); (focus kernel_rfl)) | ((with_reducible refine (get_pmiss ?_).trans ?_); (focus kernel_rfl)))); all_goals (conv => lhs; whnf; arg 1; whnf)) _ Try.underlying3 rfl ?_) | (refine wpList_kn_load1 KN (by rfl) 30 _ rfl _ _ rfl _ _ (by repeat (first | exact Has.here | refine Has.there ?_)) _ (by (repeat (first | ((with_reducible refine get_hit ?_); exact Nat.le_of_ble_eq_true (by kernel_rfl)) | ((with_reducible refine (get_miss ?_).trans ?_); (focus kernel_rfl)) | ((with_reducible refine (get_pmiss ?_).trans ?_); (focus kernel_rfl)))); all_goals (conv => lhs; whnf; arg 1; whnf)) _ Try.underlying30 rfl ?_)) | ((refine gate_store (by rfl) ?_); first | (refine wpList_kn_storeW KN (by rfl) 35 _ _ rfl _ rfl _ rfl _ _ (by repeat (first | exact Repl.here | apply Repl.there)) (by kernel_rfl) (by kernel_rfl) (by kernel_rfl) ?_; clear KN; intro wx KN) | (refine wpList_kn_storeA KN (by rfl) 35 _ _ rfl _ _ rfl _ rfl _ _ (by repeat (first | exact Repl.here | apply Repl.there)) (by (try simp only [Array.size_setIfInBounds, putL_size]); first | exact Nat.le_of_ble_eq_true rfl | (simp; omega)) (by kernel_rfl) (by kernel_rfl) ?_; clear KN; intro wx KN) | (refine wpList_kn_storeW KN (by rfl) 74 _ _ rfl _ rfl _ rfl _ _ (by repeat (first | exact Repl.here | apply Repl.there)) (by kernel_rfl) (by kernel_rfl) (by kernel_rfl) ?_; clear KN; intro wx KN) | (refine wpList_kn_storeA KN (by rfl) 74 _ _ rfl _ _ rfl _ rfl _ _ (by repeat (first | exact Repl.here | apply Repl.there)) (by (try simp only [Array.size_setIfInBounds, putL_size]); first | exact Nat.le_of_ble_eq_true rfl | (simp; omega)) (by kernel_rfl) (by kernel_rfl) ?_; clear KN; intro wx KN) | (refine wpList_kn_store1 KN (by rfl) 30 _ _ rfl _ _ rfl _ (by conv => lhs; whnf) (by rfl) _ _ (by repeat (first | exact Repl.here | apply Repl.there)) (by (try simp only [Array.size_setIfInBounds, putL_size]); first | exact Nat.le_of_ble_eq_true rfl | (simp; omega)) (by kernel_rfl) (by rfl) ?_; clear KN; intro wx KN) | (refine wpList_kn_store1 KN (by rfl) 3 _ _ rfl _ _ rfl _ (by conv => lhs; whnf) (by rfl) _ _ (by repeat (first | exact Repl.here | apply Repl.there)) (by (try simp only [Array.size_setIfInBounds, putL_size]); first | exact Nat.le_of_ble_eq_true rfl | (simp; omega)) (by kernel_rfl) (by rfl) ?_; clear KN; intro wx KN) | (refine wpList_kn_storeW KN (by rfl) 33 _ _ rfl _ rfl _ rfl _ _ (by repeat (first | exact Repl.here | apply Repl.there)) (by kernel_rfl) (by kernel_rfl) (by kernel_rfl) ?_; clear KN; intro wx KN) | (refine wpList_kn_storeA KN (by rfl) 33 _ _ rfl _ _ rfl _ rfl _ _ (by repeat (first | exact Repl.here | apply Repl.there)) (by (try simp only [Array.size_setIfInBounds, putL_size]); first | exact Nat.le_of_ble_eq_true rfl | (simp; omega)) (by kernel_rfl) (by kernel_rfl) ?_; clear KN; intro wx KN)) | ((refine gate_new (by rfl) ?_); first | (refine wpList_built rfl 74 #[_, _, _, (3, .const (.int .i64 0))] rfl leastA (by kernel_rfl) ?_) | (refine wpList_built rfl 74 #[_, _, _, (3, .const (.int .i64 4))] rfl mostA (by kernel_rfl) ?_) | (refine wpList_built rfl 64 _ rfl (Mach.start v none 0 0).cells (by kernel_rfl) ?_) | (refine wpList_kn_boxA KN (by rfl) 35 _ rfl 2 rfl _ rfl ?_; clear KN; intro g2 wx hg2 KN) | (refine wpList_kn_alloc KN (by rfl) 35 rfl 4 rfl Vm.zero.cells (by kernel_rfl) ?_; clear KN; intro g4 wx hg4 KN) | (refine wpList_built rfl 35 #[] rfl Vm.zero.cells (by kernel_rfl) ?_) | (refine wpList_kn_alloc KN (by rfl) 74 rfl 7 rfl #[.int .i64 0, .int .i64 0, .int .i64 0, .int .i64 0] (by kernel_rfl) ?_; clear KN; intro g7 wx hg7 KN) | (refine wpList_kn_alloc KN (by rfl) 74 rfl 8 rfl #[.int .i64 0, .int .i64 0, .int .i64 0, .int .i64 0] (by kernel_rfl) ?_; clear KN; intro g8 wx hg8 KN) | (refine wpList_kn_boxA KN (by rfl) 64 _ rfl 41 rfl _ rfl ?_; clear KN; intro g41 wx hg41 KN) | (refine wpList_built rfl 33 #[] rfl Eff.none.cells (by kernel_rfl) ?_))))
    have HREL : Hid (FRel v xs g2 g4 g7 g8 g41 w (.int .i64 0) wx) := Lib.hid ⟨0, Nat.zero_le _, rfl, KN⟩
    clear KN
    go_loopw [44] (fun cn wr => FRel v xs g2 g4 g7 g8 g41 w cn wr) (fun cn _ => n - (intOf cn).toNat)
    case atStart => exact HREL.out
    case round =>
      obtain ⟨k, hk, rfl, KN⟩ := hrel
      rw [← HN.out] at hk
      rw [HREG.out, Int.toNat_natCast] at KN
      by_cases hlt : k < n
      · obtain ⟨x, hxk⟩ : ∃ x, xs[k]? = some x := ⟨_, List.getElem?_eq_getElem (by rw [← HN.out]; exact hlt)⟩
        obtain ⟨gv, ov, rfl, hgv, hlc, hcm, hcell⟩ := HC.out k x hxk
        unfold maxLen at hcm
        have hxm := HX.out.2 x (List.mem_of_getElem? hxk)
        have hxm0 := hxm.1
        have hxm1 := hxm.2
        have hts : (xs.take (k + 1)) = xs.take k ++ [x] := by rw [List.take_add_one, hxk]; rfl
        have hln : (xs.take k).length = k := by rw [List.length_take, ← HN.out]; omega
        obtain ⟨u, hu⟩ : ∃ u, u = v.setRs R (xs.take k) := ⟨_, rfl⟩
        rw [← hu] at KN
        have FU := Lib.hid (show u.fits by rw [hu]; exact Vm.setRs_fits _ _ _ FT.out (by omega))
        have hnext : v.setRs R (xs.take (k + 1)) = u.setR (R + k) (x % pw2 u.width) := by
          rw [hts, Vm.setRs_snoc, hln, ← hu, hu, (Vm.setRs_parts _ _ _).1]
        have HNX := Lib.hid hnext
        have HTS := Lib.hid hts
        have HU := Lib.hid hu
        have HXK := Lib.hid hxk
        clear hxm hts hln hu hnext hxk
        go_wp2_with (first | ((with_reducible refine wpList_gate ?_); first | ((refine gate_load (by rfl) ?_); first | (refine wpList_kn_old1 KN (by rfl) 30 _ rfl _ _ rfl _ hcell (by simp) _ Try.underlying30 rfl ?_) | (refine wpList_kn_loadW KN (by rfl) 35 _ rfl _ rfl _ _ (by repeat (first | exact Has.here | refine Has.there ?_)) _ Try.underlying35 rfl (by kernel_rfl) ?_) | (refine wpList_kn_load1 KN (by rfl) 3 _ rfl _ _ rfl _ _ (by repeat (first | exact Has.here | refine Has.there ?_)) _ (by (repeat (first | ((with_reducible refine get_hit ?_); exact Nat.le_of_ble_eq_true (by kernel_rfl)) | ((with_reducible refine (get_miss ?_).trans ?_); (focus kernel_rfl)) | ((with_reducible refine (get_pmiss ?_).trans ?_); (focus kernel_rfl)))); all_goals (conv => lhs; whnf; arg 1; whnf)) _ Try.underlying3 rfl ?_) | (refine wpList_kn_load1 KN (by rfl) 30 _ rfl _ _ rfl _ _ (by repeat (first | exact Has.here | refine Has.there ?_)) _ (by (repeat (first | ((with_reducible refine get_hit ?_); exact Nat.le_of_ble_eq_true (by kernel_rfl)) | ((with_reducible refine (get_miss ?_).trans ?_); (focus kernel_rfl)) | ((with_reducible refine (get_pmiss ?_).trans ?_); (focus kernel_rfl)))); all_goals (conv => lhs; whnf; arg 1; whnf)) _ Try.underlying30 rfl ?_)) | ((refine gate_store (by rfl) ?_); first | (refine wpList_kn_storeW KN (by rfl) 35 _ _ rfl _ rfl _ rfl _ _ (by repeat (first | exact Repl.here | apply Repl.there)) (by kernel_rfl) (by kernel_rfl) (by kernel_rfl) ?_; clear KN; intro wx KN) | (refine wpList_kn_storeA KN (by rfl) 35 _ _ rfl _ _ rfl _ rfl _ _ (by repeat (first | exact Repl.here | apply Repl.there)) (by (try simp only [Array.size_setIfInBounds, putL_size]); first | exact Nat.le_of_ble_eq_true rfl | (simp; omega)) (by kernel_rfl) (by kernel_rfl) ?_; clear KN; intro wx KN) | (refine wpList_kn_storeW KN (by rfl) 74 _ _ rfl _ rfl _ rfl _ _ (by repeat (first | exact Repl.here | apply Repl.there)) (by kernel_rfl) (by kernel_rfl) (by kernel_rfl) ?_; clear KN; intro wx KN) | (refine wpList_kn_storeA KN (by rfl) 74 _ _ rfl _ _ rfl _ rfl _ _ (by repeat (first | exact Repl.here | apply Repl.there)) (by (try simp only [Array.size_setIfInBounds, putL_size]); first | exact Nat.le_of_ble_eq_true rfl | (simp; omega)) (by kernel_rfl) (by kernel_rfl) ?_; clear KN; intro wx KN) | (refine wpList_kn_store1 KN (by rfl) 30 _ _ rfl _ _ rfl _ (by conv => lhs; whnf) (by rfl) _ _ (by repeat (first | exact Repl.here | apply Repl.there)) (by (try simp only [Array.size_setIfInBounds, putL_size]); first | exact Nat.le_of_ble_eq_true rfl | (simp; omega)) (by kernel_rfl) (by rfl) ?_; clear KN; intro wx KN) | (refine wpList_kn_store1 KN (by rfl) 3 _ _ rfl _ _ rfl _ (by conv => lhs; whnf) (by rfl) _ _ (by repeat (first | exact Repl.here | apply Repl.there)) (by (try simp only [Array.size_setIfInBounds, putL_size]); first | exact Nat.le_of_ble_eq_true rfl | (simp; omega)) (by kernel_rfl) (by rfl) ?_; clear KN; intro wx KN) | (refine wpList_kn_storeW KN (by rfl) 33 _ _ rfl _ rfl _ rfl _ _ (by repeat (first | exact Repl.here | apply Repl.there)) (by kernel_rfl) (by kernel_rfl) (by kernel_rfl) ?_; clear KN; intro wx KN) | (refine wpList_kn_storeA KN (by rfl) 33 _ _ rfl _ _ rfl _ rfl _ _ (by repeat (first | exact Repl.here | apply Repl.there)) (by (try simp only [Array.size_setIfInBounds, putL_size]); first | exact Nat.le_of_ble_eq_true rfl | (simp; omega)) (by kernel_rfl) (by kernel_rfl) ?_; clear KN; intro wx KN)) | ((refine gate_new (by rfl) ?_); first | (refine wpList_kn_boxA KN (by rfl) 35 _ rfl 2 rfl _ rfl ?_; clear KN; intro g2 wx hg2 KN) | (refine wpList_kn_alloc KN (by rfl) 35 rfl 4 rfl Vm.zero.cells (by kernel_rfl) ?_; clear KN; intro g4 wx hg4 KN) | (refine wpList_built rfl 35 #[] rfl Vm.zero.cells (by kernel_rfl) ?_) | (refine wpList_kn_alloc KN (by rfl) 74 rfl 7 rfl #[.int .i64 0, .int .i64 0, .int .i64 0, .int .i64 0] (by kernel_rfl) ?_; clear KN; intro g7 wx hg7 KN) | (refine wpList_kn_alloc KN (by rfl) 74 rfl 8 rfl #[.int .i64 0, .int .i64 0, .int .i64 0, .int .i64 0] (by kernel_rfl) ?_; clear KN; intro g8 wx hg8 KN) | (refine wpList_kn_boxA KN (by rfl) 64 _ rfl 41 rfl _ rfl ?_; clear KN; intro g41 wx hg41 KN) | (refine wpList_built rfl 33 #[] rfl Eff.none.cells (by kernel_rfl) ?_))))
        replace KN := KN.drew
        have hs0 : IntKind.i64.wrap ((R : Int) + (k : Int)) = (R : Int) + (k : Int) := IntWalk.i64_in _ (by omega)
        have hs1 : 0 ≤ (R : Int) + (k : Int) := by omega
        have hs2 : (R : Int) + (k : Int) < 16 := by omega
        have hs3 : ((R : Int) + (k : Int)).toNat = R + k := by omega
        refine wp_region_held_drew (S := (fun w' => BlkT w' g2 v.cells 35)) (by kernel_rfl) ?qbhS (fun hHeld => ?qbrest)
        case qbhS => exact KN.at_ (by repeat (first | exact Has.here | refine Has.there ?_))
        refine wpAnyH_take (i := 0) (oi := ⟨some 49, _, _, _, _, _⟩) (v := ?qbv0) rfl (by kernel_rfl) (by kernel_rfl) (by kernel_rfl) (fun _ _ _ h => h) (Or.inl ⟨by rfl, ?qbhy0⟩) hHeld ?qbr0
        case qbhy0 => (intro w hSw; (try dsimp only at hSw); go_simp; (try with_reducible rfl))
        (try simp only [Act.put, List.setIfInBounds_toArray, List.set_cons_zero, List.set_cons_succ])
        refine wpAnyH_take (i := 1) (oi := ⟨some 50, _, _, _, _, _⟩) (v := ?qbv1) rfl (by kernel_rfl) (by kernel_rfl) (by kernel_rfl) (fun _ _ _ h => h) (Or.inl ⟨by rfl, ?qbhy1⟩) hHeld ?qbr1
        case qbhy1 => (intro w hSw; (try dsimp only at hSw); go_simp; (try with_reducible rfl))
        (try simp only [Act.put, List.setIfInBounds_toArray, List.set_cons_zero, List.set_cons_succ])
        refine wpAnyH_take (i := 2) (oi := ⟨some 51, _, _, _, _, _⟩) (v := ?qbv2) rfl (by kernel_rfl) (by kernel_rfl) (by kernel_rfl) (fun _ _ _ h => h) (Or.inl ⟨by rfl, ?qbhy2⟩) hHeld ?qbr2
        case qbhy2 => (intro w hSw; (try dsimp only at hSw); go_simp; (try with_reducible rfl))
        (try simp only [Act.put, List.setIfInBounds_toArray, List.set_cons_zero, List.set_cons_succ])
        refine wpAnyH_take (i := 3) (oi := ⟨some 52, _, _, _, _, _⟩) (v := (.int .i64 R)) rfl (by kernel_rfl) (by kernel_rfl) (by kernel_rfl) (fun _ _ _ h => h) (kn_yields1 (by rfl) 3 _ rfl g2 21 rfl v.cells 35 (fun _ h => h) _ G21.out _ Try.underlying3 rfl) hHeld ?qbr3
        (try simp only [Act.put, List.setIfInBounds_toArray, List.set_cons_zero, List.set_cons_succ])
        refine wpAnyH_take (i := 4) (oi := ⟨some 53, _, _, _, _, _⟩) (v := ?qbv4) rfl (by kernel_rfl) (by kernel_rfl) (by kernel_rfl) (fun _ _ _ h => h) (Or.inl ⟨by rfl, ?qbhy4⟩) hHeld ?qbr4
        case qbhy4 => (intro w hSw; (try dsimp only at hSw); go_simp; (try with_reducible rfl))
        (try simp only [Act.put, List.setIfInBounds_toArray, List.set_cons_zero, List.set_cons_succ])
        refine wpAnyH_take (i := 5) (oi := ⟨some 54, _, _, _, _, _⟩) (v := ?qbv5) rfl (by kernel_rfl) (by kernel_rfl) (by kernel_rfl) (fun _ _ _ h => h) (Or.inl ⟨by rfl, ?qbhy5⟩) hHeld ?qbr5
        case qbhy5 => (intro w hSw; (try dsimp only at hSw); go_simp; (try with_reducible rfl))
        (try simp only [Act.put, List.setIfInBounds_toArray, List.set_cons_zero, List.set_cons_succ])
        refine wpAnyH_take (i := 6) (oi := ⟨some 55, _, _, _, _, _⟩) (v := ?qbv6) rfl (by kernel_rfl) (by kernel_rfl) (by kernel_rfl) (fun _ _ _ h => h) (Or.inl ⟨by rfl, ?qbhy6⟩) hHeld ?qbr6
        case qbhy6 => (intro w hSw; (try dsimp only at hSw); go_simp; (try with_reducible rfl))
        (try simp only [Act.put, List.setIfInBounds_toArray, List.set_cons_zero, List.set_cons_succ])
        refine wpAnyH_take (i := 7) (oi := ⟨some 56, _, _, _, _, _⟩) (v := ?qbv7) rfl (by kernel_rfl) (by kernel_rfl) (by kernel_rfl) (fun _ _ _ h => h) (Or.inl ⟨by rfl, ?qbhy7⟩) hHeld ?qbr7
        case qbhy7 => (intro w hSw; (try dsimp only at hSw); go_simp; (try with_reducible rfl))
        (try simp only [Act.put, List.setIfInBounds_toArray, List.set_cons_zero, List.set_cons_succ])
        refine wpAnyH_take (i := 9) (oi := ⟨some 58, _, _, _, _, _⟩) (v := ?qbv9) rfl (by kernel_rfl) (by kernel_rfl) (by kernel_rfl) (fun _ _ _ h => h) (Or.inl ⟨by rfl, ?qbhy9⟩) hHeld ?qbr9
        case qbhy9 => (intro w hSw; (try dsimp only at hSw); go_simp; (try with_reducible rfl))
        (try simp only [Act.put, List.setIfInBounds_toArray, List.set_cons_zero, List.set_cons_succ])
        refine wpAnyH_take (i := 10) (oi := ⟨some 59, _, _, _, _, _⟩) (v := ?qbv10) rfl (by kernel_rfl) (by kernel_rfl) (by kernel_rfl) (fun _ _ _ h => h) (Or.inl ⟨by rfl, ?qbhy10⟩) hHeld ?qbr10
        case qbhy10 => (intro w hSw; (try dsimp only at hSw); go_simp; (try with_reducible rfl))
        (try simp only [Act.put, List.setIfInBounds_toArray, List.set_cons_zero, List.set_cons_succ])
        refine wpAnyH_take (i := 11) (oi := ⟨some 60, _, _, _, _, _⟩) (v := ?qbv11) rfl (by kernel_rfl) (by kernel_rfl) (by kernel_rfl) (fun _ _ _ h => h) (Or.inl ⟨by rfl, ?qbhy11⟩) hHeld ?qbr11
        case qbhy11 => (intro w hSw; (try dsimp only at hSw); go_simp; (try with_reducible rfl))
        (try simp only [Act.put, List.setIfInBounds_toArray, List.set_cons_zero, List.set_cons_succ])
        refine wpAnyH_ready (rs := [8]) (by kernel_rfl) (by simp) ?qbc8
        refine AllReadyH.cons (o := ⟨some 57, _, _, _, _, _⟩) rfl (fun K hK => ?qbst8) AllReadyH.nil
        go_simp
        (refine (reduce_any g41 (Mach.start u none 0 0) _ _ (KN.at_ (by repeat (first | exact Has.here | refine Has.there ?_))) (machStart_fits FU.out) hxm0 hxm1).mono ?_; rintro e wx ⟨rfl, nr, rfl⟩; replace KN := KN.drewN nr)
        refine hK.out _ _ ?qbk8 (fun hHeld2 => ?qbm8)
        case qbk8 => exact KN.at_ (by repeat (first | exact Has.here | refine Has.there ?_))
        clear hK K hHeld
        have hHeld := hHeld2; clear hHeld2
        (try simp only [Act.put, List.setIfInBounds_toArray, List.set_cons_zero, List.set_cons_succ])
        refine wpAnyH_take (i := 12) (oi := ⟨some 61, _, _, _, _, _⟩) (v := ?qbv12) rfl (by kernel_rfl) (by kernel_rfl) (by kernel_rfl) (fun _ _ _ h => h) (Or.inl ⟨by rfl, ?qbhy12⟩) hHeld ?qbr12
        case qbhy12 => (intro w hSw; (try dsimp only at hSw); go_simp; (try with_reducible rfl))
        (try simp only [Act.put, List.setIfInBounds_toArray, List.set_cons_zero, List.set_cons_succ])
        refine wpAnyH_ready (rs := [13]) (by kernel_rfl) (by simp) ?qbc13
        refine AllReadyH.cons (o := ⟨none, _, _, _, _, _⟩) rfl (fun K hK => ?qbst13) AllReadyH.nil
        (rw [if_pos (by rfl)]; refine wp_kn_store1 KN 30 _ _ rfl g41 (4 + (R + k)) rfl _ (by conv => lhs; whnf) (by rfl) _ _ (by repeat (first | exact Repl.here | apply Repl.there)) (by show 4 + (R + k) + 1 ≤ 37; omega) (by kernel_rfl) (by rfl) ?_; clear KN; intro wx KN; replace KN := KN.as_ g41 _ (by repeat (first | exact Repl.here | apply Repl.there)) ((Mach.start u none 0 0).set_reg (R + k) _ FU.out.len (by omega)))
        refine hK.out _ _ ?qbk13 (fun hHeld2 => ?qbm13)
        case qbk13 => exact KN.at_ (by repeat (first | exact Has.here | refine Has.there ?_))
        clear hK K hHeld
        have hHeld := hHeld2; clear hHeld2
        (try simp only [Act.put, List.setIfInBounds_toArray, List.set_cons_zero, List.set_cons_succ])
        refine wpAnyH_done (by kernel_rfl) ?qbdone _
        clear hHeld hs0 hs1 hs2 hs3
        go_wp2_with fail
        go_roundw
        case rel =>
          refine ⟨k + 1, by rw [← HN.out]; omega, by go_num, ?_⟩
          rw [HREG.out, Int.toNat_natCast, HNX.out]
          exact KN
        case measure => simp [intOf]; omega
      · have hfull : xs.take k = xs := List.take_of_length_le (by rw [← HN.out]; omega)
        rw [hfull] at KN
        clear hfull
        obtain ⟨u, hu⟩ : ∃ u, u = v.setRs R xs := ⟨_, rfl⟩
        rw [← hu] at KN
        have HU := Lib.hid hu
        clear hu
        go_wp2_with (first | ((with_reducible refine wpList_gate ?_); first | ((refine gate_load (by rfl) ?_); first | (refine wpList_kn_loadN KN (by rfl) 35 (.tmp 74) rfl g41 0 rfl _ _ (by repeat (first | exact Has.here | refine Has.there ?_)) ({ u with state := 0, wait := Eff.none } : Vm).cells (by kernel_rfl) _ Try.underlying35 rfl (by kernel_rfl) ?_) | (refine wpList_kn_loadW KN (by rfl) 35 _ rfl _ rfl _ _ (by repeat (first | exact Has.here | refine Has.there ?_)) _ Try.underlying35 rfl (by kernel_rfl) ?_) | (refine wpList_kn_load1 KN (by rfl) 3 _ rfl _ _ rfl _ _ (by repeat (first | exact Has.here | refine Has.there ?_)) _ (by (repeat (first | ((with_reducible refine get_hit ?_); exact Nat.le_of_ble_eq_true (by kernel_rfl)) | ((with_reducible refine (get_miss ?_).trans ?_); (focus kernel_rfl)) | ((with_reducible refine (get_pmiss ?_).trans ?_); (focus kernel_rfl)))); all_goals (conv => lhs; whnf; arg 1; whnf)) _ Try.underlying3 rfl ?_) | (refine wpList_kn_load1 KN (by rfl) 30 _ rfl _ _ rfl _ _ (by repeat (first | exact Has.here | refine Has.there ?_)) _ (by (repeat (first | ((with_reducible refine get_hit ?_); exact Nat.le_of_ble_eq_true (by kernel_rfl)) | ((with_reducible refine (get_miss ?_).trans ?_); (focus kernel_rfl)) | ((with_reducible refine (get_pmiss ?_).trans ?_); (focus kernel_rfl)))); all_goals (conv => lhs; whnf; arg 1; whnf)) _ Try.underlying30 rfl ?_)) | ((refine gate_store (by rfl) ?_); first | (refine wpList_kn_storeA KN (by rfl) 33 _ _ rfl g41 20 rfl _ rfl _ _ (by repeat (first | exact Repl.here | apply Repl.there)) (by show 20 + 5 ≤ 37; decide) (by kernel_rfl) (by kernel_rfl) ?_; clear KN; intro wx KN; replace KN := KN.as_ g41 (Mach.start { u with state := 0, wait := Eff.none } none 0 0).cells (by repeat (first | exact Repl.here | apply Repl.there)) (by kernel_rfl)) | (refine wpList_kn_storeW KN (by rfl) 35 _ _ rfl _ rfl _ rfl _ _ (by repeat (first | exact Repl.here | apply Repl.there)) (by kernel_rfl) (by kernel_rfl) (by kernel_rfl) ?_; clear KN; intro wx KN) | (refine wpList_kn_storeA KN (by rfl) 35 _ _ rfl _ _ rfl _ rfl _ _ (by repeat (first | exact Repl.here | apply Repl.there)) (by (try simp only [Array.size_setIfInBounds, putL_size]); first | exact Nat.le_of_ble_eq_true rfl | (simp; omega)) (by kernel_rfl) (by kernel_rfl) ?_; clear KN; intro wx KN) | (refine wpList_kn_storeW KN (by rfl) 74 _ _ rfl _ rfl _ rfl _ _ (by repeat (first | exact Repl.here | apply Repl.there)) (by kernel_rfl) (by kernel_rfl) (by kernel_rfl) ?_; clear KN; intro wx KN) | (refine wpList_kn_storeA KN (by rfl) 74 _ _ rfl _ _ rfl _ rfl _ _ (by repeat (first | exact Repl.here | apply Repl.there)) (by (try simp only [Array.size_setIfInBounds, putL_size]); first | exact Nat.le_of_ble_eq_true rfl | (simp; omega)) (by kernel_rfl) (by kernel_rfl) ?_; clear KN; intro wx KN) | (refine wpList_kn_store1 KN (by rfl) 30 _ _ rfl _ _ rfl _ (by conv => lhs; whnf) (by rfl) _ _ (by repeat (first | exact Repl.here | apply Repl.there)) (by (try simp only [Array.size_setIfInBounds, putL_size]); first | exact Nat.le_of_ble_eq_true rfl | (simp; omega)) (by kernel_rfl) (by rfl) ?_; clear KN; intro wx KN) | (refine wpList_kn_store1 KN (by rfl) 3 _ _ rfl _ _ rfl _ (by conv => lhs; whnf) (by rfl) _ _ (by repeat (first | exact Repl.here | apply Repl.there)) (by (try simp only [Array.size_setIfInBounds, putL_size]); first | exact Nat.le_of_ble_eq_true rfl | (simp; omega)) (by kernel_rfl) (by rfl) ?_; clear KN; intro wx KN) | (refine wpList_kn_storeW KN (by rfl) 33 _ _ rfl _ rfl _ rfl _ _ (by repeat (first | exact Repl.here | apply Repl.there)) (by kernel_rfl) (by kernel_rfl) (by kernel_rfl) ?_; clear KN; intro wx KN) | (refine wpList_kn_storeA KN (by rfl) 33 _ _ rfl _ _ rfl _ rfl _ _ (by repeat (first | exact Repl.here | apply Repl.there)) (by (try simp only [Array.size_setIfInBounds, putL_size]); first | exact Nat.le_of_ble_eq_true rfl | (simp; omega)) (by kernel_rfl) (by kernel_rfl) ?_; clear KN; intro wx KN)) | ((refine gate_new (by rfl) ?_); first | (refine wpList_kn_boxA KN (by rfl) 35 _ rfl 2 rfl _ rfl ?_; clear KN; intro g2 wx hg2 KN) | (refine wpList_kn_alloc KN (by rfl) 35 rfl 4 rfl Vm.zero.cells (by kernel_rfl) ?_; clear KN; intro g4 wx hg4 KN) | (refine wpList_built rfl 35 #[] rfl Vm.zero.cells (by kernel_rfl) ?_) | (refine wpList_kn_alloc KN (by rfl) 74 rfl 7 rfl #[.int .i64 0, .int .i64 0, .int .i64 0, .int .i64 0] (by kernel_rfl) ?_; clear KN; intro g7 wx hg7 KN) | (refine wpList_kn_alloc KN (by rfl) 74 rfl 8 rfl #[.int .i64 0, .int .i64 0, .int .i64 0, .int .i64 0] (by kernel_rfl) ?_; clear KN; intro g8 wx hg8 KN) | (refine wpList_kn_boxA KN (by rfl) 64 _ rfl 41 rfl _ rfl ?_; clear KN; intro g41 wx hg41 KN) | (refine wpList_built rfl 33 #[] rfl Eff.none.cells (by kernel_rfl) ?_))))
        refine bodyPost_ret (results_ct Try.results21 _ _ _ ({ u with state := 0, wait := Eff.none } : Vm).cells _ rfl (load_vm (KN.at_ (by repeat (first | exact Has.here | refine Has.there ?_)))) rfl) rfl ⟨?_, KN.toBelow⟩
        unfold finV
        rw [HREG.out, Int.toNat_natCast, ← HU.out]
        rfl
  case inr.inr =>
    obtain ⟨n0, n1⟩ := hn'
    skip
    clear hn
    go_enter Try.func21, Try.ntmps21
    go_wp2_with (first | (go_at_call 37; refine (checkWaiting_any v _ HT.out).mono ?_; rintro e w1 ⟨rfl, hb1⟩; replace KN := KN.below hb1; clear hb1; rw [HW.out]) | ((with_reducible refine wpList_gate ?_); first | ((refine gate_load (by rfl) ?_); first | (refine wpList_kn_load1 KN (by rfl) 3 (.tmp 23) rfl g2 20 rfl _ _ (by repeat (first | exact Has.here | refine Has.there ?_)) _ G20.out _ Try.underlying3 rfl ?_) | (refine wpList_kn_load1 KN (by rfl) 3 (.tmp 32) rfl g2 20 rfl _ _ (by repeat (first | exact Has.here | refine Has.there ?_)) _ G20.out _ Try.underlying3 rfl ?_) | (refine wpList_kn_loadW KN (by rfl) 35 _ rfl _ rfl _ _ (by repeat (first | exact Has.here | refine Has.there ?_)) _ Try.underlying35 rfl (by kernel_rfl) ?_) | (refine wpList_kn_load1 KN (by rfl) 3 _ rfl _ _ rfl _ _ (by repeat (first | exact Has.here | refine Has.there ?_)) _ (by (repeat (first | ((with_reducible refine get_hit ?_); exact Nat.le_of_ble_eq_true (by kernel_rfl)) | ((with_reducible refine (get_miss ?_).trans ?_); (focus kernel_rfl)) | ((with_reducible refine (get_pmiss ?_).trans ?_); (focus kernel_rfl)))); all_goals (conv => lhs; whnf; arg 1; whnf)) _ Try.underlying3 rfl ?_) | (refine wpList_kn_load1 KN (by rfl) 30 _ rfl _ _ rfl _ _ (by repeat (first | exact Has.here | refine Has.there ?_)) _ (by (repeat (first | ((with_reducible refine get_hit ?_); exact Nat.le_of_ble_eq_true (by kernel_rfl)) | ((with_reducible refine (get_miss ?_).trans ?_); (focus kernel_rfl)) | ((with_reducible refine (get_pmiss ?_).trans ?_); (focus kernel_rfl)))); all_goals (conv => lhs; whnf; arg 1; whnf)) _ Try.underlying30 rfl ?_)) | ((refine gate_store (by rfl) ?_); first | (refine wpList_kn_storeW KN (by rfl) 35 _ _ rfl _ rfl _ rfl _ _ (by repeat (first | exact Repl.here | apply Repl.there)) (by kernel_rfl) (by kernel_rfl) (by kernel_rfl) ?_; clear KN; intro wx KN) | (refine wpList_kn_storeA KN (by rfl) 35 _ _ rfl _ _ rfl _ rfl _ _ (by repeat (first | exact Repl.here | apply Repl.there)) (by (try simp only [Array.size_setIfInBounds, putL_size]); first | exact Nat.le_of_ble_eq_true rfl | (simp; omega)) (by kernel_rfl) (by kernel_rfl) ?_; clear KN; intro wx KN) | (refine wpList_kn_storeW KN (by rfl) 74 _ _ rfl _ rfl _ rfl _ _ (by repeat (first | exact Repl.here | apply Repl.there)) (by kernel_rfl) (by kernel_rfl) (by kernel_rfl) ?_; clear KN; intro wx KN) | (refine wpList_kn_storeA KN (by rfl) 74 _ _ rfl _ _ rfl _ rfl _ _ (by repeat (first | exact Repl.here | apply Repl.there)) (by (try simp only [Array.size_setIfInBounds, putL_size]); first | exact Nat.le_of_ble_eq_true rfl | (simp; omega)) (by kernel_rfl) (by kernel_rfl) ?_; clear KN; intro wx KN) | (refine wpList_kn_store1 KN (by rfl) 30 _ _ rfl _ _ rfl _ (by conv => lhs; whnf) (by rfl) _ _ (by repeat (first | exact Repl.here | apply Repl.there)) (by (try simp only [Array.size_setIfInBounds, putL_size]); first | exact Nat.le_of_ble_eq_true rfl | (simp; omega)) (by kernel_rfl) (by rfl) ?_; clear KN; intro wx KN) | (refine wpList_kn_store1 KN (by rfl) 3 _ _ rfl _ _ rfl _ (by conv => lhs; whnf) (by rfl) _ _ (by repeat (first | exact Repl.here | apply Repl.there)) (by (try simp only [Array.size_setIfInBounds, putL_size]); first | exact Nat.le_of_ble_eq_true rfl | (simp; omega)) (by kernel_rfl) (by rfl) ?_; clear KN; intro wx KN) | (refine wpList_kn_storeW KN (by rfl) 33 _ _ rfl _ rfl _ rfl _ _ (by repeat (first | exact Repl.here | apply Repl.there)) (by kernel_rfl) (by kernel_rfl) (by kernel_rfl) ?_; clear KN; intro wx KN) | (refine wpList_kn_storeA KN (by rfl) 33 _ _ rfl _ _ rfl _ rfl _ _ (by repeat (first | exact Repl.here | apply Repl.there)) (by (try simp only [Array.size_setIfInBounds, putL_size]); first | exact Nat.le_of_ble_eq_true rfl | (simp; omega)) (by kernel_rfl) (by kernel_rfl) ?_; clear KN; intro wx KN)) | ((refine gate_new (by rfl) ?_); first | (refine wpList_built rfl 74 #[_, _, _, (3, .const (.int .i64 0))] rfl leastA (by kernel_rfl) ?_) | (refine wpList_built rfl 74 #[_, _, _, (3, .const (.int .i64 4))] rfl mostA (by kernel_rfl) ?_) | (refine wpList_built rfl 64 _ rfl (Mach.start v none 0 0).cells (by kernel_rfl) ?_) | (refine wpList_kn_boxA KN (by rfl) 35 _ rfl 2 rfl _ rfl ?_; clear KN; intro g2 wx hg2 KN) | (refine wpList_kn_alloc KN (by rfl) 35 rfl 4 rfl Vm.zero.cells (by kernel_rfl) ?_; clear KN; intro g4 wx hg4 KN) | (refine wpList_built rfl 35 #[] rfl Vm.zero.cells (by kernel_rfl) ?_) | (refine wpList_kn_alloc KN (by rfl) 74 rfl 7 rfl #[.int .i64 0, .int .i64 0, .int .i64 0, .int .i64 0] (by kernel_rfl) ?_; clear KN; intro g7 wx hg7 KN) | (refine wpList_kn_alloc KN (by rfl) 74 rfl 8 rfl #[.int .i64 0, .int .i64 0, .int .i64 0, .int .i64 0] (by kernel_rfl) ?_; clear KN; intro g8 wx hg8 KN) | (refine wpList_kn_boxA KN (by rfl) 64 _ rfl 41 rfl _ rfl ?_; clear KN; intro g41 wx hg41 KN) | (refine wpList_built rfl 33 #[] rfl Eff.none.cells (by kernel_rfl) ?_))))
    have HREL : Hid (FRel v xs g2 g4 g7 g8 g41 w (.int .i64 0) wx) := Lib.hid ⟨0, Nat.zero_le _, rfl, KN⟩
    clear KN
    go_loopw [44] (fun cn wr => FRel v xs g2 g4 g7 g8 g41 w cn wr) (fun cn _ => n - (intOf cn).toNat)
    case atStart => exact HREL.out
    case round =>
      obtain ⟨k, hk, rfl, KN⟩ := hrel
      rw [← HN.out] at hk
      rw [HREG.out, Int.toNat_natCast] at KN
      by_cases hlt : k < n
      · obtain ⟨x, hxk⟩ : ∃ x, xs[k]? = some x := ⟨_, List.getElem?_eq_getElem (by rw [← HN.out]; exact hlt)⟩
        obtain ⟨gv, ov, rfl, hgv, hlc, hcm, hcell⟩ := HC.out k x hxk
        unfold maxLen at hcm
        have hxm := HX.out.2 x (List.mem_of_getElem? hxk)
        have hxm0 := hxm.1
        have hxm1 := hxm.2
        have hts : (xs.take (k + 1)) = xs.take k ++ [x] := by rw [List.take_add_one, hxk]; rfl
        have hln : (xs.take k).length = k := by rw [List.length_take, ← HN.out]; omega
        obtain ⟨u, hu⟩ : ∃ u, u = v.setRs R (xs.take k) := ⟨_, rfl⟩
        rw [← hu] at KN
        have FU := Lib.hid (show u.fits by rw [hu]; exact Vm.setRs_fits _ _ _ FT.out (by omega))
        have hnext : v.setRs R (xs.take (k + 1)) = u.setR (R + k) (x % pw2 u.width) := by
          rw [hts, Vm.setRs_snoc, hln, ← hu, hu, (Vm.setRs_parts _ _ _).1]
        have HNX := Lib.hid hnext
        have HTS := Lib.hid hts
        have HU := Lib.hid hu
        have HXK := Lib.hid hxk
        clear hxm hts hln hu hnext hxk
        go_wp2_with (first | ((with_reducible refine wpList_gate ?_); first | ((refine gate_load (by rfl) ?_); first | (refine wpList_kn_old1 KN (by rfl) 30 _ rfl _ _ rfl _ hcell (by simp) _ Try.underlying30 rfl ?_) | (refine wpList_kn_loadW KN (by rfl) 35 _ rfl _ rfl _ _ (by repeat (first | exact Has.here | refine Has.there ?_)) _ Try.underlying35 rfl (by kernel_rfl) ?_) | (refine wpList_kn_load1 KN (by rfl) 3 _ rfl _ _ rfl _ _ (by repeat (first | exact Has.here | refine Has.there ?_)) _ (by (repeat (first | ((with_reducible refine get_hit ?_); exact Nat.le_of_ble_eq_true (by kernel_rfl)) | ((with_reducible refine (get_miss ?_).trans ?_); (focus kernel_rfl)) | ((with_reducible refine (get_pmiss ?_).trans ?_); (focus kernel_rfl)))); all_goals (conv => lhs; whnf; arg 1; whnf)) _ Try.underlying3 rfl ?_) | (refine wpList_kn_load1 KN (by rfl) 30 _ rfl _ _ rfl _ _ (by repeat (first | exact Has.here | refine Has.there ?_)) _ (by (repeat (first | ((with_reducible refine get_hit ?_); exact Nat.le_of_ble_eq_true (by kernel_rfl)) | ((with_reducible refine (get_miss ?_).trans ?_); (focus kernel_rfl)) | ((with_reducible refine (get_pmiss ?_).trans ?_); (focus kernel_rfl)))); all_goals (conv => lhs; whnf; arg 1; whnf)) _ Try.underlying30 rfl ?_)) | ((refine gate_store (by rfl) ?_); first | (refine wpList_kn_storeW KN (by rfl) 35 _ _ rfl _ rfl _ rfl _ _ (by repeat (first | exact Repl.here | apply Repl.there)) (by kernel_rfl) (by kernel_rfl) (by kernel_rfl) ?_; clear KN; intro wx KN) | (refine wpList_kn_storeA KN (by rfl) 35 _ _ rfl _ _ rfl _ rfl _ _ (by repeat (first | exact Repl.here | apply Repl.there)) (by (try simp only [Array.size_setIfInBounds, putL_size]); first | exact Nat.le_of_ble_eq_true rfl | (simp; omega)) (by kernel_rfl) (by kernel_rfl) ?_; clear KN; intro wx KN) | (refine wpList_kn_storeW KN (by rfl) 74 _ _ rfl _ rfl _ rfl _ _ (by repeat (first | exact Repl.here | apply Repl.there)) (by kernel_rfl) (by kernel_rfl) (by kernel_rfl) ?_; clear KN; intro wx KN) | (refine wpList_kn_storeA KN (by rfl) 74 _ _ rfl _ _ rfl _ rfl _ _ (by repeat (first | exact Repl.here | apply Repl.there)) (by (try simp only [Array.size_setIfInBounds, putL_size]); first | exact Nat.le_of_ble_eq_true rfl | (simp; omega)) (by kernel_rfl) (by kernel_rfl) ?_; clear KN; intro wx KN) | (refine wpList_kn_store1 KN (by rfl) 30 _ _ rfl _ _ rfl _ (by conv => lhs; whnf) (by rfl) _ _ (by repeat (first | exact Repl.here | apply Repl.there)) (by (try simp only [Array.size_setIfInBounds, putL_size]); first | exact Nat.le_of_ble_eq_true rfl | (simp; omega)) (by kernel_rfl) (by rfl) ?_; clear KN; intro wx KN) | (refine wpList_kn_store1 KN (by rfl) 3 _ _ rfl _ _ rfl _ (by conv => lhs; whnf) (by rfl) _ _ (by repeat (first | exact Repl.here | apply Repl.there)) (by (try simp only [Array.size_setIfInBounds, putL_size]); first | exact Nat.le_of_ble_eq_true rfl | (simp; omega)) (by kernel_rfl) (by rfl) ?_; clear KN; intro wx KN) | (refine wpList_kn_storeW KN (by rfl) 33 _ _ rfl _ rfl _ rfl _ _ (by repeat (first | exact Repl.here | apply Repl.there)) (by kernel_rfl) (by kernel_rfl) (by kernel_rfl) ?_; clear KN; intro wx KN) | (refine wpList_kn_storeA KN (by rfl) 33 _ _ rfl _ _ rfl _ rfl _ _ (by repeat (first | exact Repl.here | apply Repl.there)) (by (try simp only [Array.size_setIfInBounds, putL_size]); first | exact Nat.le_of_ble_eq_true rfl | (simp; omega)) (by kernel_rfl) (by kernel_rfl) ?_; clear KN; intro wx KN)) | ((refine gate_new (by rfl) ?_); first | (refine wpList_kn_boxA KN (by rfl) 35 _ rfl 2 rfl _ rfl ?_; clear KN; intro g2 wx hg2 KN) | (refine wpList_kn_alloc KN (by rfl) 35 rfl 4 rfl Vm.zero.cells (by kernel_rfl) ?_; clear KN; intro g4 wx hg4 KN) | (refine wpList_built rfl 35 #[] rfl Vm.zero.cells (by kernel_rfl) ?_) | (refine wpList_kn_alloc KN (by rfl) 74 rfl 7 rfl #[.int .i64 0, .int .i64 0, .int .i64 0, .int .i64 0] (by kernel_rfl) ?_; clear KN; intro g7 wx hg7 KN) | (refine wpList_kn_alloc KN (by rfl) 74 rfl 8 rfl #[.int .i64 0, .int .i64 0, .int .i64 0, .int .i64 0] (by kernel_rfl) ?_; clear KN; intro g8 wx hg8 KN) | (refine wpList_kn_boxA KN (by rfl) 64 _ rfl 41 rfl _ rfl ?_; clear KN; intro g41 wx hg41 KN) | (refine wpList_built rfl 33 #[] rfl Eff.none.cells (by kernel_rfl) ?_))))
        replace KN := KN.drew
        have hs0 : IntKind.i64.wrap ((R : Int) + (k : Int)) = (R : Int) + (k : Int) := IntWalk.i64_in _ (by omega)
        have hs1 : 0 ≤ (R : Int) + (k : Int) := by omega
        have hs2 : (R : Int) + (k : Int) < 16 := by omega
        have hs3 : ((R : Int) + (k : Int)).toNat = R + k := by omega
        refine wp_region_held_drew (S := (fun w' => BlkT w' g2 v.cells 35)) (by kernel_rfl) ?qchS (fun hHeld => ?qcrest)
        case qchS => exact KN.at_ (by repeat (first | exact Has.here | refine Has.there ?_))
        refine wpAnyH_take (i := 0) (oi := ⟨some 49, _, _, _, _, _⟩) (v := ?qcv0) rfl (by kernel_rfl) (by kernel_rfl) (by kernel_rfl) (fun _ _ _ h => h) (Or.inl ⟨by rfl, ?qchy0⟩) hHeld ?qcr0
        case qchy0 => (intro w hSw; (try dsimp only at hSw); go_simp; (try with_reducible rfl))
        (try simp only [Act.put, List.setIfInBounds_toArray, List.set_cons_zero, List.set_cons_succ])
        refine wpAnyH_take (i := 1) (oi := ⟨some 50, _, _, _, _, _⟩) (v := ?qcv1) rfl (by kernel_rfl) (by kernel_rfl) (by kernel_rfl) (fun _ _ _ h => h) (Or.inl ⟨by rfl, ?qchy1⟩) hHeld ?qcr1
        case qchy1 => (intro w hSw; (try dsimp only at hSw); go_simp; (try with_reducible rfl))
        (try simp only [Act.put, List.setIfInBounds_toArray, List.set_cons_zero, List.set_cons_succ])
        refine wpAnyH_take (i := 2) (oi := ⟨some 51, _, _, _, _, _⟩) (v := ?qcv2) rfl (by kernel_rfl) (by kernel_rfl) (by kernel_rfl) (fun _ _ _ h => h) (Or.inl ⟨by rfl, ?qchy2⟩) hHeld ?qcr2
        case qchy2 => (intro w hSw; (try dsimp only at hSw); go_simp; (try with_reducible rfl))
        (try simp only [Act.put, List.setIfInBounds_toArray, List.set_cons_zero, List.set_cons_succ])
        refine wpAnyH_take (i := 3) (oi := ⟨some 52, _, _, _, _, _⟩) (v := (.int .i64 R)) rfl (by kernel_rfl) (by kernel_rfl) (by kernel_rfl) (fun _ _ _ h => h) (kn_yields1 (by rfl) 3 _ rfl g2 21 rfl v.cells 35 (fun _ h => h) _ G21.out _ Try.underlying3 rfl) hHeld ?qcr3
        (try simp only [Act.put, List.setIfInBounds_toArray, List.set_cons_zero, List.set_cons_succ])
        refine wpAnyH_take (i := 4) (oi := ⟨some 53, _, _, _, _, _⟩) (v := ?qcv4) rfl (by kernel_rfl) (by kernel_rfl) (by kernel_rfl) (fun _ _ _ h => h) (Or.inl ⟨by rfl, ?qchy4⟩) hHeld ?qcr4
        case qchy4 => (intro w hSw; (try dsimp only at hSw); go_simp; (try with_reducible rfl))
        (try simp only [Act.put, List.setIfInBounds_toArray, List.set_cons_zero, List.set_cons_succ])
        refine wpAnyH_take (i := 5) (oi := ⟨some 54, _, _, _, _, _⟩) (v := ?qcv5) rfl (by kernel_rfl) (by kernel_rfl) (by kernel_rfl) (fun _ _ _ h => h) (Or.inl ⟨by rfl, ?qchy5⟩) hHeld ?qcr5
        case qchy5 => (intro w hSw; (try dsimp only at hSw); go_simp; (try with_reducible rfl))
        (try simp only [Act.put, List.setIfInBounds_toArray, List.set_cons_zero, List.set_cons_succ])
        refine wpAnyH_take (i := 6) (oi := ⟨some 55, _, _, _, _, _⟩) (v := ?qcv6) rfl (by kernel_rfl) (by kernel_rfl) (by kernel_rfl) (fun _ _ _ h => h) (Or.inl ⟨by rfl, ?qchy6⟩) hHeld ?qcr6
        case qchy6 => (intro w hSw; (try dsimp only at hSw); go_simp; (try with_reducible rfl))
        (try simp only [Act.put, List.setIfInBounds_toArray, List.set_cons_zero, List.set_cons_succ])
        refine wpAnyH_take (i := 7) (oi := ⟨some 56, _, _, _, _, _⟩) (v := ?qcv7) rfl (by kernel_rfl) (by kernel_rfl) (by kernel_rfl) (fun _ _ _ h => h) (Or.inl ⟨by rfl, ?qchy7⟩) hHeld ?qcr7
        case qchy7 => (intro w hSw; (try dsimp only at hSw); go_simp; (try with_reducible rfl))
        (try simp only [Act.put, List.setIfInBounds_toArray, List.set_cons_zero, List.set_cons_succ])
        refine wpAnyH_take (i := 9) (oi := ⟨some 58, _, _, _, _, _⟩) (v := ?qcv9) rfl (by kernel_rfl) (by kernel_rfl) (by kernel_rfl) (fun _ _ _ h => h) (Or.inl ⟨by rfl, ?qchy9⟩) hHeld ?qcr9
        case qchy9 => (intro w hSw; (try dsimp only at hSw); go_simp; (try with_reducible rfl))
        (try simp only [Act.put, List.setIfInBounds_toArray, List.set_cons_zero, List.set_cons_succ])
        refine wpAnyH_take (i := 10) (oi := ⟨some 59, _, _, _, _, _⟩) (v := ?qcv10) rfl (by kernel_rfl) (by kernel_rfl) (by kernel_rfl) (fun _ _ _ h => h) (Or.inl ⟨by rfl, ?qchy10⟩) hHeld ?qcr10
        case qchy10 => (intro w hSw; (try dsimp only at hSw); go_simp; (try with_reducible rfl))
        (try simp only [Act.put, List.setIfInBounds_toArray, List.set_cons_zero, List.set_cons_succ])
        refine wpAnyH_take (i := 11) (oi := ⟨some 60, _, _, _, _, _⟩) (v := ?qcv11) rfl (by kernel_rfl) (by kernel_rfl) (by kernel_rfl) (fun _ _ _ h => h) (Or.inl ⟨by rfl, ?qchy11⟩) hHeld ?qcr11
        case qchy11 => (intro w hSw; (try dsimp only at hSw); go_simp; (try with_reducible rfl))
        (try simp only [Act.put, List.setIfInBounds_toArray, List.set_cons_zero, List.set_cons_succ])
        refine wpAnyH_ready (rs := [8]) (by kernel_rfl) (by simp) ?qcc8
        refine AllReadyH.cons (o := ⟨some 57, _, _, _, _, _⟩) rfl (fun K hK => ?qcst8) AllReadyH.nil
        go_simp
        (refine (reduce_any g41 (Mach.start u none 0 0) _ _ (KN.at_ (by repeat (first | exact Has.here | refine Has.there ?_))) (machStart_fits FU.out) hxm0 hxm1).mono ?_; rintro e wx ⟨rfl, nr, rfl⟩; replace KN := KN.drewN nr)
        refine hK.out _ _ ?qck8 (fun hHeld2 => ?qcm8)
        case qck8 => exact KN.at_ (by repeat (first | exact Has.here | refine Has.there ?_))
        clear hK K hHeld
        have hHeld := hHeld2; clear hHeld2
        (try simp only [Act.put, List.setIfInBounds_toArray, List.set_cons_zero, List.set_cons_succ])
        refine wpAnyH_take (i := 12) (oi := ⟨some 61, _, _, _, _, _⟩) (v := ?qcv12) rfl (by kernel_rfl) (by kernel_rfl) (by kernel_rfl) (fun _ _ _ h => h) (Or.inl ⟨by rfl, ?qchy12⟩) hHeld ?qcr12
        case qchy12 => (intro w hSw; (try dsimp only at hSw); go_simp; (try with_reducible rfl))
        (try simp only [Act.put, List.setIfInBounds_toArray, List.set_cons_zero, List.set_cons_succ])
        refine wpAnyH_ready (rs := [13]) (by kernel_rfl) (by simp) ?qcc13
        refine AllReadyH.cons (o := ⟨none, _, _, _, _, _⟩) rfl (fun K hK => ?qcst13) AllReadyH.nil
        (rw [if_pos (by rfl)]; refine wp_kn_store1 KN 30 _ _ rfl g41 (4 + (R + k)) rfl _ (by conv => lhs; whnf) (by rfl) _ _ (by repeat (first | exact Repl.here | apply Repl.there)) (by show 4 + (R + k) + 1 ≤ 37; omega) (by kernel_rfl) (by rfl) ?_; clear KN; intro wx KN; replace KN := KN.as_ g41 _ (by repeat (first | exact Repl.here | apply Repl.there)) ((Mach.start u none 0 0).set_reg (R + k) _ FU.out.len (by omega)))
        refine hK.out _ _ ?qck13 (fun hHeld2 => ?qcm13)
        case qck13 => exact KN.at_ (by repeat (first | exact Has.here | refine Has.there ?_))
        clear hK K hHeld
        have hHeld := hHeld2; clear hHeld2
        (try simp only [Act.put, List.setIfInBounds_toArray, List.set_cons_zero, List.set_cons_succ])
        refine wpAnyH_done (by kernel_rfl) ?qcdone _
        clear hHeld hs0 hs1 hs2 hs3
        go_wp2_with fail
        go_roundw
        case rel =>
          refine ⟨k + 1, by rw [← HN.out]; omega, by go_num, ?_⟩
          rw [HREG.out, Int.toNat_natCast, HNX.out]
          exact KN
        case measure => simp [intOf]; omega
      · have hfull : xs.take k = xs := List.take_of_length_le (by rw [← HN.out]; omega)
        rw [hfull] at KN
        clear hfull
        obtain ⟨u, hu⟩ : ∃ u, u = v.setRs R xs := ⟨_, rfl⟩
        rw [← hu] at KN
        have HU := Lib.hid hu
        clear hu
        go_wp2_with (first | ((with_reducible refine wpList_gate ?_); first | ((refine gate_load (by rfl) ?_); first | (refine wpList_kn_loadN KN (by rfl) 35 (.tmp 74) rfl g41 0 rfl _ _ (by repeat (first | exact Has.here | refine Has.there ?_)) ({ u with state := 0, wait := Eff.none } : Vm).cells (by kernel_rfl) _ Try.underlying35 rfl (by kernel_rfl) ?_) | (refine wpList_kn_loadW KN (by rfl) 35 _ rfl _ rfl _ _ (by repeat (first | exact Has.here | refine Has.there ?_)) _ Try.underlying35 rfl (by kernel_rfl) ?_) | (refine wpList_kn_load1 KN (by rfl) 3 _ rfl _ _ rfl _ _ (by repeat (first | exact Has.here | refine Has.there ?_)) _ (by (repeat (first | ((with_reducible refine get_hit ?_); exact Nat.le_of_ble_eq_true (by kernel_rfl)) | ((with_reducible refine (get_miss ?_).trans ?_); (focus kernel_rfl)) | ((with_reducible refine (get_pmiss ?_).trans ?_); (focus kernel_rfl)))); all_goals (conv => lhs; whnf; arg 1; whnf)) _ Try.underlying3 rfl ?_) | (refine wpList_kn_load1 KN (by rfl) 30 _ rfl _ _ rfl _ _ (by repeat (first | exact Has.here | refine Has.there ?_)) _ (by (repeat (first | ((with_reducible refine get_hit ?_); exact Nat.le_of_ble_eq_true (by kernel_rfl)) | ((with_reducible refine (get_miss ?_).trans ?_); (focus kernel_rfl)) | ((with_reducible refine (get_pmiss ?_).trans ?_); (focus kernel_rfl)))); all_goals (conv => lhs; whnf; arg 1; whnf)) _ Try.underlying30 rfl ?_)) | ((refine gate_store (by rfl) ?_); first | (refine wpList_kn_storeA KN (by rfl) 33 _ _ rfl g41 20 rfl _ rfl _ _ (by repeat (first | exact Repl.here | apply Repl.there)) (by show 20 + 5 ≤ 37; decide) (by kernel_rfl) (by kernel_rfl) ?_; clear KN; intro wx KN; replace KN := KN.as_ g41 (Mach.start { u with state := 0, wait := Eff.none } none 0 0).cells (by repeat (first | exact Repl.here | apply Repl.there)) (by kernel_rfl)) | (refine wpList_kn_storeW KN (by rfl) 35 _ _ rfl _ rfl _ rfl _ _ (by repeat (first | exact Repl.here | apply Repl.there)) (by kernel_rfl) (by kernel_rfl) (by kernel_rfl) ?_; clear KN; intro wx KN) | (refine wpList_kn_storeA KN (by rfl) 35 _ _ rfl _ _ rfl _ rfl _ _ (by repeat (first | exact Repl.here | apply Repl.there)) (by (try simp only [Array.size_setIfInBounds, putL_size]); first | exact Nat.le_of_ble_eq_true rfl | (simp; omega)) (by kernel_rfl) (by kernel_rfl) ?_; clear KN; intro wx KN) | (refine wpList_kn_storeW KN (by rfl) 74 _ _ rfl _ rfl _ rfl _ _ (by repeat (first | exact Repl.here | apply Repl.there)) (by kernel_rfl) (by kernel_rfl) (by kernel_rfl) ?_; clear KN; intro wx KN) | (refine wpList_kn_storeA KN (by rfl) 74 _ _ rfl _ _ rfl _ rfl _ _ (by repeat (first | exact Repl.here | apply Repl.there)) (by (try simp only [Array.size_setIfInBounds, putL_size]); first | exact Nat.le_of_ble_eq_true rfl | (simp; omega)) (by kernel_rfl) (by kernel_rfl) ?_; clear KN; intro wx KN) | (refine wpList_kn_store1 KN (by rfl) 30 _ _ rfl _ _ rfl _ (by conv => lhs; whnf) (by rfl) _ _ (by repeat (first | exact Repl.here | apply Repl.there)) (by (try simp only [Array.size_setIfInBounds, putL_size]); first | exact Nat.le_of_ble_eq_true rfl | (simp; omega)) (by kernel_rfl) (by rfl) ?_; clear KN; intro wx KN) | (refine wpList_kn_store1 KN (by rfl) 3 _ _ rfl _ _ rfl _ (by conv => lhs; whnf) (by rfl) _ _ (by repeat (first | exact Repl.here | apply Repl.there)) (by (try simp only [Array.size_setIfInBounds, putL_size]); first | exact Nat.le_of_ble_eq_true rfl | (simp; omega)) (by kernel_rfl) (by rfl) ?_; clear KN; intro wx KN) | (refine wpList_kn_storeW KN (by rfl) 33 _ _ rfl _ rfl _ rfl _ _ (by repeat (first | exact Repl.here | apply Repl.there)) (by kernel_rfl) (by kernel_rfl) (by kernel_rfl) ?_; clear KN; intro wx KN) | (refine wpList_kn_storeA KN (by rfl) 33 _ _ rfl _ _ rfl _ rfl _ _ (by repeat (first | exact Repl.here | apply Repl.there)) (by (try simp only [Array.size_setIfInBounds, putL_size]); first | exact Nat.le_of_ble_eq_true rfl | (simp; omega)) (by kernel_rfl) (by kernel_rfl) ?_; clear KN; intro wx KN)) | ((refine gate_new (by rfl) ?_); first | (refine wpList_kn_boxA KN (by rfl) 35 _ rfl 2 rfl _ rfl ?_; clear KN; intro g2 wx hg2 KN) | (refine wpList_kn_alloc KN (by rfl) 35 rfl 4 rfl Vm.zero.cells (by kernel_rfl) ?_; clear KN; intro g4 wx hg4 KN) | (refine wpList_built rfl 35 #[] rfl Vm.zero.cells (by kernel_rfl) ?_) | (refine wpList_kn_alloc KN (by rfl) 74 rfl 7 rfl #[.int .i64 0, .int .i64 0, .int .i64 0, .int .i64 0] (by kernel_rfl) ?_; clear KN; intro g7 wx hg7 KN) | (refine wpList_kn_alloc KN (by rfl) 74 rfl 8 rfl #[.int .i64 0, .int .i64 0, .int .i64 0, .int .i64 0] (by kernel_rfl) ?_; clear KN; intro g8 wx hg8 KN) | (refine wpList_kn_boxA KN (by rfl) 64 _ rfl 41 rfl _ rfl ?_; clear KN; intro g41 wx hg41 KN) | (refine wpList_built rfl 33 #[] rfl Eff.none.cells (by kernel_rfl) ?_))))
        refine bodyPost_ret (results_ct Try.results21 _ _ _ ({ u with state := 0, wait := Eff.none } : Vm).cells _ rfl (load_vm (KN.at_ (by repeat (first | exact Has.here | refine Has.there ?_)))) rfl) rfl ⟨?_, KN.toBelow⟩
        unfold finV
        rw [HREG.out, Int.toNat_natCast, ← HU.out]
        rfl
set_option maxRecDepth 100000 in
set_option maxHeartbeats 2000000 in
theorem Finish_bad (wd pc st ca : Int) (regs : List Int) (kd nm ad vl : Int) (R : Nat) (va : Value) (xs : List Int) (w : World) (hk : kd = 1 ∨ kd = 2 ∨ kd = 3) (ht : Vm.typed ⟨wd, pc, st, ca, regs, ⟨kd, R, nm, ad, vl⟩⟩) (hx : U64s w va xs) (h : Vm.waitErr ⟨wd, pc, st, ca, regs, ⟨kd, R, nm, ad, vl⟩⟩ = 0) (hn : finOk kd xs.length = false) :
    Calls Try.prog 21 #[.agg (Vm.mk wd pc st ca regs ⟨kd, R, nm, ad, vl⟩).cells, va] w fun e w' => e = .returned (pairVal (Vm.zero, 1)) ∧ Below w.heap.size w w' := by
  have KN := Kn.start w
  obtain ⟨a, c, rfl, hxl, -⟩ := hx.form
  obtain ⟨v, hv⟩ : ∃ v : Vm, v = ⟨wd, pc, st, ca, regs, ⟨kd, R, nm, ad, vl⟩⟩ := ⟨_, rfl⟩
  rw [← hv] at ht h ⊢
  have HW := Lib.hid h
  have hg20 : v.cells[20]? = some (.int .i64 kd) := by rw [hv]; rfl
  have G20 := Lib.hid hg20
  have HT := Lib.hid ht
  clear hx h hg20 hv ht
  unfold maxLen at hxl
  obtain ⟨n, hnn⟩ : ∃ n, n = xs.length := ⟨_, rfl⟩
  rw [← hnn] at hn hxl ⊢
  clear hnn
  have h4 : (kd = 1 ∧ n < 1) ∨ (kd = 1 ∧ 2 ≤ n) ∨ (kd = 2 ∧ 1 ≤ n) ∨ (kd = 3 ∧ 5 ≤ n) := by
    rcases hk with rfl | rfl | rfl
    · simp [finOk] at hn; omega
    · simp [finOk] at hn; omega
    · simp [finOk] at hn; omega
  clear hn hk
  rcases h4 with ⟨rfl, h1⟩ | ⟨rfl, h1⟩ | ⟨rfl, h1⟩ | ⟨rfl, h1⟩
  case' inl => have hb1 : decide ((n : Int) < 1) = true := by simp; omega
  case' inr.inl => have hb1 : decide ((n : Int) < 1) = false := by simp; omega
  all_goals
    go_enter Try.func21, Try.ntmps21
    go_wp2_with (first | (go_at_call 37; refine (checkWaiting_any v _ HT.out).mono ?_; rintro e w1 ⟨rfl, hb1⟩; replace KN := KN.below hb1; clear hb1; rw [HW.out]) | ((with_reducible refine wpList_gate ?_); first | ((refine gate_load (by rfl) ?_); first | (refine wpList_kn_load1 KN (by rfl) 3 (.tmp 23) rfl g2 20 rfl _ _ (by repeat (first | exact Has.here | refine Has.there ?_)) _ G20.out _ Try.underlying3 rfl ?_) | (refine wpList_kn_load1 KN (by rfl) 3 (.tmp 32) rfl g2 20 rfl _ _ (by repeat (first | exact Has.here | refine Has.there ?_)) _ G20.out _ Try.underlying3 rfl ?_) | (refine wpList_kn_loadW KN (by rfl) 35 _ rfl _ rfl _ _ (by repeat (first | exact Has.here | refine Has.there ?_)) _ Try.underlying35 rfl (by kernel_rfl) ?_) | (refine wpList_kn_load1 KN (by rfl) 3 _ rfl _ _ rfl _ _ (by repeat (first | exact Has.here | refine Has.there ?_)) _ (by (repeat (first | ((with_reducible refine get_hit ?_); exact Nat.le_of_ble_eq_true (by kernel_rfl)) | ((with_reducible refine (get_miss ?_).trans ?_); (focus kernel_rfl)) | ((with_reducible refine (get_pmiss ?_).trans ?_); (focus kernel_rfl)))); all_goals (conv => lhs; whnf; arg 1; whnf)) _ Try.underlying3 rfl ?_) | (refine wpList_kn_load1 KN (by rfl) 30 _ rfl _ _ rfl _ _ (by repeat (first | exact Has.here | refine Has.there ?_)) _ (by (repeat (first | ((with_reducible refine get_hit ?_); exact Nat.le_of_ble_eq_true (by kernel_rfl)) | ((with_reducible refine (get_miss ?_).trans ?_); (focus kernel_rfl)) | ((with_reducible refine (get_pmiss ?_).trans ?_); (focus kernel_rfl)))); all_goals (conv => lhs; whnf; arg 1; whnf)) _ Try.underlying30 rfl ?_)) | ((refine gate_store (by rfl) ?_); first | (refine wpList_kn_storeW KN (by rfl) 35 _ _ rfl _ rfl _ rfl _ _ (by repeat (first | exact Repl.here | apply Repl.there)) (by kernel_rfl) (by kernel_rfl) (by kernel_rfl) ?_; clear KN; intro wx KN) | (refine wpList_kn_storeA KN (by rfl) 35 _ _ rfl _ _ rfl _ rfl _ _ (by repeat (first | exact Repl.here | apply Repl.there)) (by (try simp only [Array.size_setIfInBounds, putL_size]); first | exact Nat.le_of_ble_eq_true rfl | (simp; omega)) (by kernel_rfl) (by kernel_rfl) ?_; clear KN; intro wx KN) | (refine wpList_kn_storeW KN (by rfl) 74 _ _ rfl _ rfl _ rfl _ _ (by repeat (first | exact Repl.here | apply Repl.there)) (by kernel_rfl) (by kernel_rfl) (by kernel_rfl) ?_; clear KN; intro wx KN) | (refine wpList_kn_storeA KN (by rfl) 74 _ _ rfl _ _ rfl _ rfl _ _ (by repeat (first | exact Repl.here | apply Repl.there)) (by (try simp only [Array.size_setIfInBounds, putL_size]); first | exact Nat.le_of_ble_eq_true rfl | (simp; omega)) (by kernel_rfl) (by kernel_rfl) ?_; clear KN; intro wx KN) | (refine wpList_kn_store1 KN (by rfl) 30 _ _ rfl _ _ rfl _ (by conv => lhs; whnf) (by rfl) _ _ (by repeat (first | exact Repl.here | apply Repl.there)) (by (try simp only [Array.size_setIfInBounds, putL_size]); first | exact Nat.le_of_ble_eq_true rfl | (simp; omega)) (by kernel_rfl) (by rfl) ?_; clear KN; intro wx KN) | (refine wpList_kn_store1 KN (by rfl) 3 _ _ rfl _ _ rfl _ (by conv => lhs; whnf) (by rfl) _ _ (by repeat (first | exact Repl.here | apply Repl.there)) (by (try simp only [Array.size_setIfInBounds, putL_size]); first | exact Nat.le_of_ble_eq_true rfl | (simp; omega)) (by kernel_rfl) (by rfl) ?_; clear KN; intro wx KN) | (refine wpList_kn_storeW KN (by rfl) 33 _ _ rfl _ rfl _ rfl _ _ (by repeat (first | exact Repl.here | apply Repl.there)) (by kernel_rfl) (by kernel_rfl) (by kernel_rfl) ?_; clear KN; intro wx KN) | (refine wpList_kn_storeA KN (by rfl) 33 _ _ rfl _ _ rfl _ rfl _ _ (by repeat (first | exact Repl.here | apply Repl.there)) (by (try simp only [Array.size_setIfInBounds, putL_size]); first | exact Nat.le_of_ble_eq_true rfl | (simp; omega)) (by kernel_rfl) (by kernel_rfl) ?_; clear KN; intro wx KN)) | ((refine gate_new (by rfl) ?_); first | (refine wpList_built rfl 74 #[_, _, _, (3, .const (.int .i64 0))] rfl leastA (by kernel_rfl) ?_) | (refine wpList_built rfl 74 #[_, _, _, (3, .const (.int .i64 4))] rfl mostA (by kernel_rfl) ?_) | (refine wpList_kn_boxA KN (by rfl) 35 _ rfl 2 rfl _ rfl ?_; clear KN; intro g2 wx hg2 KN) | (refine wpList_kn_alloc KN (by rfl) 35 rfl 4 rfl Vm.zero.cells (by kernel_rfl) ?_; clear KN; intro g4 wx hg4 KN) | (refine wpList_built rfl 35 #[] rfl Vm.zero.cells (by kernel_rfl) ?_) | (refine wpList_kn_alloc KN (by rfl) 74 rfl 7 rfl #[.int .i64 0, .int .i64 0, .int .i64 0, .int .i64 0] (by kernel_rfl) ?_; clear KN; intro g7 wx hg7 KN) | (refine wpList_kn_alloc KN (by rfl) 74 rfl 8 rfl #[.int .i64 0, .int .i64 0, .int .i64 0, .int .i64 0] (by kernel_rfl) ?_; clear KN; intro g8 wx hg8 KN) | (refine wpList_kn_boxA KN (by rfl) 64 _ rfl 41 rfl _ rfl ?_; clear KN; intro g41 wx hg41 KN) | (refine wpList_built rfl 33 #[] rfl Eff.none.cells (by kernel_rfl) ?_))))
    exact bodyPost_ret (results_ct Try.results21 _ _ _ Vm.zero.cells _ rfl (load_vm (KN.at_ (by repeat (first | exact Has.here | refine Has.there ?_)))) rfl) rfl ⟨rfl, KN.toBelow⟩
theorem finOk_room {v : Vm} {n : Nat} (h : v.waitErr = 0) (hn : finOk v.wait.kind n = true) : v.wait.reg.toNat + n ≤ 16 := by
  rcases Vm.wait_kind h with ⟨hk, h0, h1⟩ | ⟨hk, hr⟩ | ⟨hk, hr⟩
  · rw [hk] at hn; simp [finOk] at hn; omega
  · rw [hk] at hn; simp [finOk] at hn; omega
  · rw [hk] at hn; simp [finOk] at hn; omega
theorem Finish_any (v : Vm) (va : Value) (xs : List Int) (w : World) (ht : v.typed) (hx : U64s w va xs) :
    Calls Try.prog 21 #[.agg v.cells, va] w fun e w' => e = .returned (pairVal (finRes v xs)) ∧ Below w.heap.size w w' := by
  by_cases h : v.waitErr = 0
  · have hk := Vm.wait_kind h
    obtain ⟨wd, pc, st, ca, regs, ⟨kd, rg, nm, ad, vl⟩⟩ := v
    have hr0 : 0 ≤ rg := by simp only at hk; omega
    obtain ⟨R, rfl⟩ := Int.eq_ofNat_of_zero_le hr0
    have hk' : kd = 1 ∨ kd = 2 ∨ kd = 3 := by simp only at hk; omega
    cases hn : finOk kd xs.length with
    | false => rw [finRes_bad h hn]; exact Finish_bad wd pc st ca regs kd nm ad vl R va xs w hk' ht hx h hn
    | true =>
      rw [finRes_ok h hn]
      have := finOk_room h hn
      simp only [Int.toNat_natCast] at this
      exact Finish_1 wd pc st ca regs kd nm ad vl R va xs w hk' ht hx h hn this
  · rw [finRes_no h]; exact Finish_no v va xs w ht hx h
end Go.Proofs.Ytbllialcfmpkaaa
