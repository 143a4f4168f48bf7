/- The law's sanity check. -/
import Derived.Test.YtokppdegklfkmaaGreatDoorPkStepG
import Derived.Test.YtokppdegklfkmaaGreatDoorPkKnAll
set_option linter.unusedVariables false
set_option linter.unusedSimpArgs false
set_option linter.unusedSectionVars false
namespace Go.Proofs.YtokppdegklfkmaaGreatDoor
open Go.RowKit
def vm0 (wd : Int) : Vm := { Vm.zero with width := wd, pc := 0 }
def p1 : List Ins := [⟨1, 1, 0, 0, -1⟩]
def vm1 (wd x : Int) : Vm := { (vm0 wd).setR 1 x with pc := 1 }
def cellsOf (p : List Ins) : Array Value := (p.map fun x => x.cells.toList).flatten.toArray
theorem Instrs.of_blk {w : World} {g : Nat} {p : List Ins} {T : TypeId} (h : BlkT w g (cellsOf p) T) (h0 : 0 < p.length) (hm : p.length ≤ 100) (hf : ∀ x ∈ p, x.fits) : Instrs w (.slice (some ⟨g, 0, none⟩) p.length p.length) p :=
  ⟨Row.of_blk h rfl (by intro c hc; obtain ⟨x, _, rfl⟩ := List.mem_map.1 hc; rfl) (by simp) (by simp [maxLen]; omega) (by simpa using h0), hf⟩
theorem zero_typed (wd pc : Int) : Vm.typed { Vm.zero with width := wd, pc := pc } := by
  refine ⟨rfl, fun i => ?_, (by show (0 : Int) ≤ 0 ∧ (0 : Int) ≤ 18446744073709551615; decide), (by show (0 : Int) ≤ 0 ∧ (0 : Int) ≤ 18446744073709551615; decide)⟩
  have : Vm.r { Vm.zero with width := wd, pc := pc } i = 0 := by
    show (List.replicate 16 (0 : Int)).getD i 0 = 0
    rw [List.getD_eq_getElem?_getD, List.getElem?_replicate]
    split <;> rfl
  rw [this]; decide
theorem new_vm0 (wd : Int) (h : wd = 32 ∨ wd = 39) : newRes wd 0 = (vm0 wd, 0) := by rcases h with rfl | rfl <;> rfl
theorem New_0 (wd : Int) (h : wd = 32 ∨ wd = 39) (w : World) : Calls Tryz.prog 22 #[.int .i64 wd, .int .i64 0] w fun e w' => e = .returned (.tuple #[.agg (vm0 wd).cells, .int .i64 0]) ∧ Below w.heap.size w w' := by
  have := New_any wd 0 w
  rw [new_vm0 wd h] at this
  exact this
theorem step_32 : stepRes (vm0 32) p1 = (vm1 32 4294967295, Eff.none, 0) := by kernel_rfl
theorem step_39 : stepRes (vm0 39) p1 = (vm1 39 549755813887, Eff.none, 0) := by kernel_rfl
theorem p1_fits : ∀ x ∈ p1, x.fits := by intro x hx; simp [p1] at hx; subst hx; unfold Ins.fits; decide
theorem Step_32 (g : Nat) (w : World) (h : BlkT w g (cellsOf p1) 56) : Calls Tryz.prog 23 #[.agg (vm0 32).cells, .slice (some ⟨g, 0, none⟩) 1 1] w fun e w' => e = .returned (.tuple #[.agg (vm1 32 4294967295).cells, .agg Eff.none.cells, .int .i64 0]) ∧ Below w.heap.size w w' := by
  have := Step_any (vm0 32) _ p1 w (zero_typed 32 0) (Instrs.of_blk h (by decide) (by decide) p1_fits)
  rw [step_32] at this
  exact this
theorem Step_39 (g : Nat) (w : World) (h : BlkT w g (cellsOf p1) 56) : Calls Tryz.prog 23 #[.agg (vm0 39).cells, .slice (some ⟨g, 0, none⟩) 1 1] w fun e w' => e = .returned (.tuple #[.agg (vm1 39 549755813887).cells, .agg Eff.none.cells, .int .i64 0]) ∧ Below w.heap.size w w' := by
  have := Step_any (vm0 39) _ p1 w (zero_typed 39 0) (Instrs.of_blk h (by decide) (by decide) p1_fits)
  rw [step_39] at this
  exact this
theorem vm1_typed : Vm.typed (vm1 32 4294967295) := by
  refine ⟨rfl, fun i => ?_, by decide, by decide⟩
  rcases Nat.lt_or_ge i 16 with hi | hi
  · rw [show (vm1 32 4294967295).r i = ((vm0 32).setR 1 4294967295).r i from rfl, Vm.r_set _ _ _ _ rfl (by decide)]
    split
    · decide
    · exact (zero_typed 32 0).reg i
  · rw [Vm.r_out _ rfl i hi]; decide
theorem Valid_1 (w : World) : Calls Tryz.prog 24 #[.agg (vm1 32 4294967295).cells] w fun e w' => e = .returned (.bool true) ∧ Below w.heap.size w w' := by
  have := Valid_any (vm1 32 4294967295) w vm1_typed
  rw [show (vm1 32 4294967295).ok = true from by kernel_rfl] at this
  exact this
theorem Signed_1 (w : World) : Calls Tryz.prog 25 #[.int .i64 32, .int .u64 4294967295] w fun e w' => e = .returned (.int .i64 (-1)) ∧ w = w' := by
  have := Signed_any 32 4294967295 w (by decide) (by decide)
  rw [show signed 32 4294967295 = -1 from by kernel_rfl] at this
  exact this
set_option maxRecDepth 100000 in
set_option maxHeartbeats 2000000 in
theorem awake_any (w : World) : Calls Tryz.prog 8 #[] w fun e w' => e = .returned (.bool true) ∧ Below w.heap.size w w' := by
  have KN := Kn.start w
  go_enter Tryz.func8, Tryz.ntmps8
  go_wp2_with (first | (go_at_call 22; refine (New_0 _ (by decide) _).mono ?_; rintro e wx ⟨rfl, hb1⟩; replace KN := KN.below hb1; clear hb1) | (go_at_call 23; ((with_reducible refine (Step_32 g11 _ (KN.at_ (by repeat (first | exact Has.here | refine Has.there ?_)))).mono ?_); rintro e wx ⟨rfl, hb1⟩; replace KN := KN.below hb1; clear hb1)) | (go_at_call 23; ((with_reducible refine (Step_39 g11 _ (KN.at_ (by repeat (first | exact Has.here | refine Has.there ?_)))).mono ?_); rintro e wx ⟨rfl, hb1⟩; replace KN := KN.below hb1; clear hb1)) | (go_at_call 24; refine (Valid_1 _).mono ?_; rintro e wx ⟨rfl, hb1⟩; replace KN := KN.below hb1; clear hb1) | (go_at_call 25; refine (Signed_1 _).mono ?_; rintro e w' ⟨rfl, rfl⟩) | ((with_reducible refine wpList_gate ?_); first | (refine wpList_kn_lit KN rfl 23 56 1 _ rfl 11 rfl Tryz.underlying23 (cellsOf p1) (by kernel_rfl) ?_; clear KN; intro g11 wx hg11 KN) | ((refine gate_load (by rfl) ?_); first | (refine wpList_kn_loadW KN (by rfl) 35 _ rfl _ rfl _ _ (by repeat (first | exact Has.here | refine Has.there ?_)) _ Tryz.underlying35 rfl (by kernel_rfl) ?_) | (refine wpList_kn_load1 KN (by rfl) 30 _ rfl _ _ rfl _ _ (by repeat (first | exact Has.here | refine Has.there ?_)) _ (by (repeat (first | ((with_reducible refine get_hit ?_); exact Nat.le_of_ble_eq_true (by kernel_rfl)) | ((with_reducible refine (get_miss ?_).trans ?_); (focus kernel_rfl)) | ((with_reducible refine (get_pmiss ?_).trans ?_); (focus kernel_rfl)))); all_goals (conv => lhs; whnf; arg 1; whnf)) _ Tryz.underlying30 rfl ?_) | (refine wpList_kn_load1 KN (by rfl) 3 _ rfl _ _ rfl _ _ (by repeat (first | exact Has.here | refine Has.there ?_)) _ (by (repeat (first | ((with_reducible refine get_hit ?_); exact Nat.le_of_ble_eq_true (by kernel_rfl)) | ((with_reducible refine (get_miss ?_).trans ?_); (focus kernel_rfl)) | ((with_reducible refine (get_pmiss ?_).trans ?_); (focus kernel_rfl)))); all_goals (conv => lhs; whnf; arg 1; whnf)) _ Tryz.underlying3 rfl ?_)) | ((refine gate_store (by rfl) ?_); first | (refine wpList_kn_storeW KN (by rfl) 35 _ _ rfl _ rfl _ rfl _ _ (by repeat (first | exact Repl.here | apply Repl.there)) (by kernel_rfl) (by kernel_rfl) (by kernel_rfl) ?_; clear KN; intro wx KN) | (refine wpList_kn_storeA KN (by rfl) 35 _ _ rfl _ _ rfl _ rfl _ _ (by repeat (first | exact Repl.here | apply Repl.there)) (by (try simp only [Array.size_setIfInBounds, putL_size]); first | exact Nat.le_of_ble_eq_true rfl | (simp; omega)) (by kernel_rfl) (by kernel_rfl) ?_; clear KN; intro wx KN) | (refine wpList_kn_storeW KN (by rfl) 33 _ _ rfl _ rfl _ rfl _ _ (by repeat (first | exact Repl.here | apply Repl.there)) (by kernel_rfl) (by kernel_rfl) (by kernel_rfl) ?_; clear KN; intro wx KN) | (refine wpList_kn_storeA KN (by rfl) 33 _ _ rfl _ _ rfl _ rfl _ _ (by repeat (first | exact Repl.here | apply Repl.there)) (by (try simp only [Array.size_setIfInBounds, putL_size]); first | exact Nat.le_of_ble_eq_true rfl | (simp; omega)) (by kernel_rfl) (by kernel_rfl) ?_; clear KN; intro wx KN)) | ((refine gate_new (by rfl) ?_); first | (refine wpList_built rfl 56 #[(0, .const (.int .i64 1)), (1, .const (.int .i64 1)), (4, .const (.int .i32 (-1)))] rfl (Ins.mk 1 1 0 0 (-1)).cells (by kernel_rfl) ?_) | (refine wpList_kn_alloc KN (by rfl) 35 rfl 2 rfl Vm.zero.cells (by kernel_rfl) ?_; clear KN; intro g2 wx hg2 KN) | (refine wpList_kn_alloc KN (by rfl) 35 rfl 4 rfl Vm.zero.cells (by kernel_rfl) ?_; clear KN; intro g4 wx hg4 KN) | (refine wpList_kn_alloc KN (by rfl) 33 rfl 6 rfl Eff.none.cells (by kernel_rfl) ?_; clear KN; intro g6 wx hg6 KN) | (refine wpList_kn_alloc KN (by rfl) 33 rfl 8 rfl Eff.none.cells (by kernel_rfl) ?_; clear KN; intro g8 wx hg8 KN))))
  go_ret
  exact ⟨rfl, KN.toBelow⟩
end Go.Proofs.YtokppdegklfkmaaGreatDoor
