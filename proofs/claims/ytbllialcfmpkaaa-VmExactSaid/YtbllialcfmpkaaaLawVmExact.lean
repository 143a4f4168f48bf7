/- VmExact. -/
import Derived.Test.YtbllialcfmpkaaaAwakeVm
import Derived.Deep.Cut
import Derived.Deep.DeepCutAuto
set_option linter.unusedVariables false
set_option linter.unusedSimpArgs false
set_option linter.unusedSectionVars false
namespace Go.Proofs.Ytbllialcfmpkaaa
open Go.RowKit
theorem ins_info : (Try.prog.info? 29).map (fun i => (i.zero, i.size, i.bytes)) = some (some (.agg (Ins.mk 0 0 0 0 0).cells), 5, 40) := by kernel_rfl
theorem u64_info : (Try.prog.info? 30).map (fun i => (i.zero, i.size, i.bytes)) = some (some (.int .u64 0), 1, 8) := by kernel_rfl
theorem ins_len (p : List Ins) : ∀ c ∈ p.map (fun x => x.cells.toList), c.length = 5 := by intro c hc; obtain ⟨x, _, rfl⟩ := List.mem_map.1 hc; rfl
theorem ins_one (p : List Ins) : ∀ c ∈ p.map (fun x => x.cells.toList), ∀ u ∈ c, u.oneCell' = true := by
  intro c hc u hu
  obtain ⟨x, _, rfl⟩ := List.mem_map.1 hc
  simp [Ins.cells] at hu
  rcases hu with rfl | rfl | rfl | rfl | rfl <;> rfl
theorem u64_len (xs : List Int) : ∀ c ∈ xs.map (fun x => [Value.int .u64 x]), c.length = 1 := by intro c hc; obtain ⟨x, _, rfl⟩ := List.mem_map.1 hc; rfl
theorem u64_one (xs : List Int) : ∀ c ∈ xs.map (fun x => [Value.int .u64 x]), ∀ u ∈ c, u.oneCell' = true := by
  intro c hc u hu
  obtain ⟨x, _, rfl⟩ := List.mem_map.1 hc
  simp at hu; subst hu; rfl

set_option maxRecDepth 100000 in
set_option maxHeartbeats 4000000 in
theorem exact_far (v : Vm) (va vv : Value) (p : List Ins) (xs : List Int) (n wd en word : Int) (w : World) (hp : Instrs w va p) (hx : U64s w vv xs) (h : 60 < p.length ∨ (p.length ≤ 60 ∧ 10 < xs.length) ∨ (p.length ≤ 60 ∧ xs.length ≤ 10 ∧ 300 < n)) :
    Calls Try.prog 8 #[.agg v.cells, va, .int .i64 n, vv, .int .i64 wd, .int .i64 en, .int .u64 word] w fun e w' => e = .returned (.bool true) ∧ Below w.heap.size w w' := by
  have KN := Kn.start w
  obtain ⟨a, c, rfl, -⟩ := hp.form
  obtain ⟨b, d, rfl, -, -⟩ := hx.form
  clear hp hx
  rcases h with h | ⟨h1, h2⟩ | ⟨h1, h2, h3⟩
  all_goals
    go_enter Try.func8, Try.ntmps8
    go_wp2_with (first | (go_at_call 9; refine (awake_any _).mono ?_; rintro e wx ⟨rfl, hb1⟩; replace KN := KN.below hb1; clear hb1) | ((with_reducible refine wpList_gate ?_); first | ((refine gate_load (by rfl) ?_); first | (refine wpList_kn_loadW KN (by rfl) 35 _ rfl _ rfl _ _ (by repeat (first | exact Has.here | refine Has.there ?_)) _ Try.underlying35 rfl (by kernel_rfl) ?_) | (refine wpList_kn_loadW KN (by rfl) 33 _ rfl _ rfl _ _ (by repeat (first | exact Has.here | refine Has.there ?_)) _ Try.underlying33 rfl (by kernel_rfl) ?_)) | ((refine gate_store (by rfl) ?_); first | (refine wpList_kn_storeW KN (by rfl) 35 _ _ rfl _ rfl _ rfl _ _ (by repeat (first | exact Repl.here | apply Repl.there)) (by kernel_rfl) (by kernel_rfl) (by kernel_rfl) ?_; clear KN; intro wx KN) | (refine wpList_kn_storeA KN (by rfl) 35 _ _ rfl _ _ rfl _ rfl _ _ (by repeat (first | exact Repl.here | apply Repl.there)) (by (try simp only [Array.size_setIfInBounds, putL_size]); first | exact Nat.le_of_ble_eq_true rfl | (simp; omega)) (by kernel_rfl) (by kernel_rfl) ?_; clear KN; intro wx KN) | (refine wpList_kn_storeW KN (by rfl) 33 _ _ rfl _ rfl _ rfl _ _ (by repeat (first | exact Repl.here | apply Repl.there)) (by kernel_rfl) (by kernel_rfl) (by kernel_rfl) ?_; clear KN; intro wx KN) | (refine wpList_kn_storeA KN (by rfl) 33 _ _ rfl _ _ rfl _ rfl _ _ (by repeat (first | exact Repl.here | apply Repl.there)) (by (try simp only [Array.size_setIfInBounds, putL_size]); first | exact Nat.le_of_ble_eq_true rfl | (simp; omega)) (by kernel_rfl) (by kernel_rfl) ?_; clear KN; intro wx KN)) | ((refine gate_new (by rfl) ?_); first | (refine wpList_kn_boxA KN (by rfl) 35 _ rfl 7 rfl _ rfl ?_; clear KN; intro g7 wx hg7 KN) | (refine wpList_kn_alloc KN (by rfl) 35 rfl 15 rfl Vm.zero.cells (by kernel_rfl) ?_; clear KN; intro g15 wx hg15 KN) | (refine wpList_kn_alloc KN (by rfl) 35 rfl 17 rfl Vm.zero.cells (by kernel_rfl) ?_; clear KN; intro g17 wx hg17 KN) | (refine wpList_kn_alloc KN (by rfl) 33 rfl 19 rfl Eff.none.cells (by kernel_rfl) ?_; clear KN; intro g19 wx hg19 KN) | (refine wpList_kn_alloc KN (by rfl) 33 rfl 20 rfl Eff.none.cells (by kernel_rfl) ?_; clear KN; intro g20 wx hg20 KN))))
    go_ret
    exact ⟨rfl, KN.toBelow⟩
set_option maxRecDepth 100000 in
set_option maxHeartbeats 8000000 in
theorem exact_near (v : Vm) (va vv : Value) (p : List Ins) (xs : List Int) (n wd en word : Int) (w : World) (ht : v.typed) (hp : Instrs w va p) (hx : U64s w vv xs) (w0 : 0 ≤ word) (w1 : word ≤ 18446744073709551615) (h1 : p.length ≤ 60) (h2 : xs.length ≤ 10) (h3 : n ≤ 300) :
    Calls Try.prog 8 #[.agg v.cells, va, .int .i64 n, vv, .int .i64 wd, .int .i64 en, .int .u64 word] w fun e w' => e = .returned (.bool true) ∧ Below w.heap.size w w' := by
  have KN := Kn.start w
  obtain ⟨a, c, rfl, -⟩ := hp.form
  obtain ⟨b, d, rfl, -, -⟩ := hx.form
  have HP := Lib.hid hp
  have HX := Lib.hid hx
  have HT := Lib.hid ht
  obtain ⟨i0, hi, hz0, hz1, hz2⟩ := info_parts ins_info
  obtain ⟨j0, hj, hy0, hy1, hy2⟩ := info_parts u64_info
  have II := Lib.hid hi
  have IZ := Lib.hid hz0
  have IS := Lib.hid hz1
  have IB := Lib.hid hz2
  have JI := Lib.hid hj
  have JZ := Lib.hid hy0
  have JS := Lib.hid hy1
  have JB := Lib.hid hy2
  obtain ⟨r, hr⟩ : ∃ r, r = newRes wd en := ⟨_, rfl⟩
  obtain ⟨R, hR⟩ : ∃ R, R = stepRes v p := ⟨_, rfl⟩
  obtain ⟨S, hS⟩ : ∃ S, S = runRes v p n := ⟨_, rfl⟩
  obtain ⟨f, hf⟩ : ∃ f, f = finRes v xs := ⟨_, rfl⟩
  obtain ⟨u, hu⟩ : ∃ u, u = faultRes v := ⟨_, rfl⟩
  have HR1 := Lib.hid hr
  have HR2 := Lib.hid hR
  have HR3 := Lib.hid hS
  have HR4 := Lib.hid hf
  have HR5 := Lib.hid hu
  clear hp hx ht hi hz0 hz1 hz2 hj hy0 hy1 hy2 hr hR hS hf hu
  go_enter Try.func8, Try.ntmps8
  go_wp2_with (first | (go_at_call 23; refine (New_any _ _ _).mono ?_; rintro e wx ⟨rfl, hb1⟩; replace KN := KN.below hb1; clear hb1; rw [← HR1.out]; unfold pairVal) | (go_at_call 24; refine (RNew_any _ _ _).mono ?_; rintro e wx ⟨rfl, hb1⟩; replace KN := KN.below hb1; clear hb1; rw [← HR1.out]; unfold pairVal) | ((with_reducible refine wpList_gate ?_); first | ((refine gate_load (by rfl) ?_); first | (refine wpList_kn_loadW KN (by rfl) 35 _ rfl _ rfl _ _ (by repeat (first | exact Has.here | refine Has.there ?_)) _ Try.underlying35 rfl (by kernel_rfl) ?_) | (refine wpList_kn_loadW KN (by rfl) 33 _ rfl _ rfl _ _ (by repeat (first | exact Has.here | refine Has.there ?_)) _ Try.underlying33 rfl (by kernel_rfl) ?_)) | ((refine gate_store (by rfl) ?_); first | (refine wpList_kn_storeW KN (by rfl) 35 _ _ rfl _ rfl _ rfl _ _ (by repeat (first | exact Repl.here | apply Repl.there)) (by kernel_rfl) (by kernel_rfl) (by kernel_rfl) ?_; clear KN; intro wx KN) | (refine wpList_kn_storeA KN (by rfl) 35 _ _ rfl _ _ rfl _ rfl _ _ (by repeat (first | exact Repl.here | apply Repl.there)) (by (try simp only [Array.size_setIfInBounds, putL_size]); first | exact Nat.le_of_ble_eq_true rfl | (simp; omega)) (by kernel_rfl) (by kernel_rfl) ?_; clear KN; intro wx KN) | (refine wpList_kn_storeW KN (by rfl) 33 _ _ rfl _ rfl _ rfl _ _ (by repeat (first | exact Repl.here | apply Repl.there)) (by kernel_rfl) (by kernel_rfl) (by kernel_rfl) ?_; clear KN; intro wx KN) | (refine wpList_kn_storeA KN (by rfl) 33 _ _ rfl _ _ rfl _ rfl _ _ (by repeat (first | exact Repl.here | apply Repl.there)) (by (try simp only [Array.size_setIfInBounds, putL_size]); first | exact Nat.le_of_ble_eq_true rfl | (simp; omega)) (by kernel_rfl) (by kernel_rfl) ?_; clear KN; intro wx KN)) | ((refine gate_new (by rfl) ?_); first | (refine wpList_kn_boxA KN (by rfl) 35 _ rfl 7 rfl _ rfl ?_; clear KN; intro g7 wx hg7 KN) | (refine wpList_kn_alloc KN (by rfl) 35 rfl 15 rfl Vm.zero.cells (by kernel_rfl) ?_; clear KN; intro g15 wx hg15 KN) | (refine wpList_kn_alloc KN (by rfl) 35 rfl 17 rfl Vm.zero.cells (by kernel_rfl) ?_; clear KN; intro g17 wx hg17 KN) | (refine wpList_kn_alloc KN (by rfl) 33 rfl 19 rfl Eff.none.cells (by kernel_rfl) ?_; clear KN; intro g19 wx hg19 KN) | (refine wpList_kn_alloc KN (by rfl) 33 rfl 20 rfl Eff.none.cells (by kernel_rfl) ?_; clear KN; intro g20 wx hg20 KN))))
  replace KN := KN.drew
  refine wp_region_held_drew (S := (fun w' => BlkT w' g15 r.1.cells 35 ∧ BlkT w' g17 r.1.cells 35 ∧ BlkT w' g7 v.cells 35)) (by kernel_rfl) ?qehS (fun hHeld => ?qerest)
  case qehS => exact ⟨KN.at_ (by repeat (first | exact Has.here | refine Has.there ?_)), KN.at_ (by repeat (first | exact Has.here | refine Has.there ?_)), KN.at_ (by repeat (first | exact Has.here | refine Has.there ?_))⟩
  refine wpAnyH_take (i := 0) (oi := ⟨some 48, _, _, _, _, _⟩) (v := (.agg r.1.cells)) rfl (by kernel_rfl) (by kernel_rfl) (by kernel_rfl) (fun _ _ _ h => h) (kn_yieldsN (by rfl) 35 _ rfl g15 0 rfl _ 35 (fun _ h => h.1) _ (extract_whole _) _ Try.underlying35 rfl vm_size) hHeld ?qer0
  (try simp only [Act.put, List.setIfInBounds_toArray, List.set_cons_zero, List.set_cons_succ])
  refine wpAnyH_take (i := 1) (oi := ⟨some 49, _, _, _, _, _⟩) (v := (.agg r.1.cells)) rfl (by kernel_rfl) (by kernel_rfl) (by kernel_rfl) (fun _ _ _ h => h) (kn_yieldsN (by rfl) 35 _ rfl g17 0 rfl _ 35 (fun _ h => h.2.1) _ (extract_whole _) _ Try.underlying35 rfl vm_size) hHeld ?qer1
  (try simp only [Act.put, List.setIfInBounds_toArray, List.set_cons_zero, List.set_cons_succ])
  refine wpAnyH_take (i := 2) (oi := ⟨some 50, _, _, _, _, _⟩) (v := (.bool false)) rfl (by kernel_rfl) (by kernel_rfl) (by kernel_rfl) (fun _ _ _ h => h) (kn_yields_neq (by rfl) 35 _ _ _ rfl r.1.cells rfl rfl (by kernel_rfl) (by kernel_rfl)) hHeld ?qer2
  (try simp only [Act.put, List.setIfInBounds_toArray, List.set_cons_zero, List.set_cons_succ])
  refine wpAnyH_take (i := 3) (oi := ⟨some 51, _, _, _, _, _⟩) (v := ?qev3) rfl (by kernel_rfl) (by kernel_rfl) (by kernel_rfl) (fun _ _ _ h => h) (Or.inl ⟨by rfl, ?qehy3⟩) hHeld ?qer3
  case qehy3 => (intro w hSw; (try dsimp only at hSw); go_simp; (try with_reducible rfl))
  (try simp only [Act.put, List.setIfInBounds_toArray, List.set_cons_zero, List.set_cons_succ])
  refine wpAnyH_take (i := 4) (oi := ⟨some 52, _, _, _, _, _⟩) (v := ?qev4) rfl (by kernel_rfl) (by kernel_rfl) (by kernel_rfl) (fun _ _ _ h => h) (Or.inl ⟨by rfl, ?qehy4⟩) hHeld ?qer4
  case qehy4 => (intro w hSw; (try dsimp only at hSw); go_simp; (try with_reducible rfl))
  (try simp only [Act.put, List.setIfInBounds_toArray, List.set_cons_zero, List.set_cons_succ])
  refine wpAnyH_take (i := 5) (oi := ⟨some 53, _, _, _, _, _⟩) (v := ?qev5) rfl (by kernel_rfl) (by kernel_rfl) (by kernel_rfl) (fun _ _ _ h => h) (Or.inl ⟨by rfl, ?qehy5⟩) hHeld ?qer5
  case qehy5 => (intro w hSw; (try dsimp only at hSw); go_simp; (try with_reducible rfl))
  (try simp only [Act.put, List.setIfInBounds_toArray, List.set_cons_zero, List.set_cons_succ])
  refine wpAnyH_take (i := 6) (oi := ⟨some 54, _, _, _, _, _⟩) (v := ?qev6) rfl (by kernel_rfl) (by kernel_rfl) (by kernel_rfl) (fun _ _ _ h => h) (Or.inl ⟨by rfl, ?qehy6⟩) hHeld ?qer6
  case qehy6 => (intro w hSw; (try dsimp only at hSw); go_simp; (try with_reducible rfl))
  (try simp only [Act.put, List.setIfInBounds_toArray, List.set_cons_zero, List.set_cons_succ])
  refine wpAnyH_take (i := 7) (oi := ⟨some 55, _, _, _, _, _⟩) (v := ?qev7) rfl (by kernel_rfl) (by kernel_rfl) (by kernel_rfl) (fun _ _ _ h => h) (Or.inl ⟨by rfl, ?qehy7⟩) hHeld ?qer7
  case qehy7 => (intro w hSw; (try dsimp only at hSw); go_simp; (try with_reducible rfl))
  (try simp only [Act.put, List.setIfInBounds_toArray, List.set_cons_zero, List.set_cons_succ])
  refine wpAnyH_take (i := 8) (oi := ⟨some 56, _, _, _, _, _⟩) (v := ?qev8) rfl (by kernel_rfl) (by kernel_rfl) (by kernel_rfl) (fun _ _ _ h => h) (Or.inl ⟨by rfl, ?qehy8⟩) hHeld ?qer8
  case qehy8 => (intro w hSw; (try dsimp only at hSw); go_simp; (try with_reducible rfl))
  (try simp only [Act.put, List.setIfInBounds_toArray, List.set_cons_zero, List.set_cons_succ])
  refine wpAnyH_take (i := 9) (oi := ⟨some 57, _, _, _, _, _⟩) (v := (.agg v.cells)) rfl (by kernel_rfl) (by kernel_rfl) (by kernel_rfl) (fun _ _ _ h => h) (kn_yieldsN (by rfl) 35 _ rfl g7 0 rfl _ 35 (fun _ h => h.2.2) _ (extract_whole _) _ Try.underlying35 rfl vm_size) hHeld ?qer9
  (try simp only [Act.put, List.setIfInBounds_toArray, List.set_cons_zero, List.set_cons_succ])
  refine wpAnyH_take (i := 11) (oi := ⟨some 59, _, _, _, _, _⟩) (v := (.agg v.cells)) rfl (by kernel_rfl) (by kernel_rfl) (by kernel_rfl) (fun _ _ _ h => h) (kn_yieldsN (by rfl) 35 _ rfl g7 0 rfl _ 35 (fun _ h => h.2.2) _ (extract_whole _) _ Try.underlying35 rfl vm_size) hHeld ?qer11
  (try simp only [Act.put, List.setIfInBounds_toArray, List.set_cons_zero, List.set_cons_succ])
  refine wpAnyH_ready (rs := [10]) (by kernel_rfl) (by simp) ?qec10
  refine AllReadyH.cons (o := ⟨some 58, _, _, _, _, _⟩) rfl (fun K hK => ?qest10) AllReadyH.nil
  go_simp
  (refine (Valid_any v _ HT.out).mono ?_; rintro e wx ⟨rfl, hb1⟩; replace KN := KN.below hb1; clear hb1)
  refine hK.out _ _ ?qek10 (fun hHeld2 => ?qem10)
  case qek10 => exact ⟨KN.at_ (by repeat (first | exact Has.here | refine Has.there ?_)), KN.at_ (by repeat (first | exact Has.here | refine Has.there ?_)), KN.at_ (by repeat (first | exact Has.here | refine Has.there ?_))⟩
  clear hK K hHeld
  have hHeld := hHeld2; clear hHeld2
  (try simp only [Act.put, List.setIfInBounds_toArray, List.set_cons_zero, List.set_cons_succ])
  refine wpAnyH_ready (rs := [12]) (by kernel_rfl) (by simp) ?qec12
  refine AllReadyH.cons (o := ⟨some 60, _, _, _, _, _⟩) rfl (fun K hK => ?qest12) AllReadyH.nil
  go_simp
  (refine (RValid_any v _ HT.out).mono ?_; rintro e wx ⟨rfl, hb1⟩; replace KN := KN.below hb1; clear hb1)
  refine hK.out _ _ ?qek12 (fun hHeld2 => ?qem12)
  case qek12 => exact ⟨KN.at_ (by repeat (first | exact Has.here | refine Has.there ?_)), KN.at_ (by repeat (first | exact Has.here | refine Has.there ?_)), KN.at_ (by repeat (first | exact Has.here | refine Has.there ?_))⟩
  clear hK K hHeld
  have hHeld := hHeld2; clear hHeld2
  (try simp only [Act.put, List.setIfInBounds_toArray, List.set_cons_zero, List.set_cons_succ])
  refine wpAnyH_take (i := 13) (oi := ⟨some 61, _, _, _, _, _⟩) (v := ?qev13) rfl (by kernel_rfl) (by kernel_rfl) (by kernel_rfl) (fun _ _ _ h => h) (Or.inl ⟨by rfl, ?qehy13⟩) hHeld ?qer13
  case qehy13 => (intro w hSw; (try dsimp only at hSw); go_simp; (try with_reducible rfl))
  (try simp only [Act.put, List.setIfInBounds_toArray, List.set_cons_zero, List.set_cons_succ])
  refine wpAnyH_take (i := 14) (oi := ⟨some 62, _, _, _, _, _⟩) (v := ?qev14) rfl (by kernel_rfl) (by kernel_rfl) (by kernel_rfl) (fun _ _ _ h => h) (Or.inl ⟨by rfl, ?qehy14⟩) hHeld ?qer14
  case qehy14 => (intro w hSw; (try dsimp only at hSw); go_simp; (try with_reducible rfl))
  (try simp only [Act.put, List.setIfInBounds_toArray, List.set_cons_zero, List.set_cons_succ])
  refine wpAnyH_take (i := 15) (oi := ⟨some 63, _, _, _, _, _⟩) (v := ?qev15) rfl (by kernel_rfl) (by kernel_rfl) (by kernel_rfl) (fun _ _ _ h => h) (Or.inl ⟨by rfl, ?qehy15⟩) hHeld ?qer15
  case qehy15 => (intro w hSw; (try dsimp only at hSw); go_simp; (try with_reducible rfl))
  (try simp only [Act.put, List.setIfInBounds_toArray, List.set_cons_zero, List.set_cons_succ])
  refine wpAnyH_take (i := 16) (oi := ⟨some 64, _, _, _, _, _⟩) (v := ?qev16) rfl (by kernel_rfl) (by kernel_rfl) (by kernel_rfl) (fun _ _ _ h => h) (Or.inl ⟨by rfl, ?qehy16⟩) hHeld ?qer16
  case qehy16 => (intro w hSw; (try dsimp only at hSw); go_simp; (try with_reducible rfl))
  (try simp only [Act.put, List.setIfInBounds_toArray, List.set_cons_zero, List.set_cons_succ])
  refine wpAnyH_take (i := 17) (oi := ⟨some 65, _, _, _, _, _⟩) (v := ?qev17) rfl (by kernel_rfl) (by kernel_rfl) (by kernel_rfl) (fun _ _ _ h => h) (Or.inl ⟨by rfl, ?qehy17⟩) hHeld ?qer17
  case qehy17 => (intro w hSw; (try dsimp only at hSw); go_simp; (try with_reducible rfl))
  (try simp only [Act.put, List.setIfInBounds_toArray, List.set_cons_zero, List.set_cons_succ])
  refine wpAnyH_take (i := 19) (oi := ⟨some 67, _, _, _, _, _⟩) (v := ?qev19) rfl (by kernel_rfl) (by kernel_rfl) (by kernel_rfl) (fun _ _ _ h => h) (Or.inl ⟨by rfl, ?qehy19⟩) hHeld ?qer19
  case qehy19 => (intro w hSw; (try dsimp only at hSw); go_simp; (try with_reducible rfl))
  (try simp only [Act.put, List.setIfInBounds_toArray, List.set_cons_zero, List.set_cons_succ])
  refine wpAnyH_take (i := 20) (oi := ⟨some 68, _, _, _, _, _⟩) (v := ?qev20) rfl (by kernel_rfl) (by kernel_rfl) (by kernel_rfl) (fun _ _ _ h => h) (Or.inl ⟨by rfl, ?qehy20⟩) hHeld ?qer20
  case qehy20 => (intro w hSw; (try dsimp only at hSw); go_simp; (try with_reducible rfl))
  (try simp only [Act.put, List.setIfInBounds_toArray, List.set_cons_zero, List.set_cons_succ])
  refine wpAnyH_ready (rs := [18]) (by kernel_rfl) (by simp) ?qec18
  refine AllReadyH.cons (o := ⟨some 66, _, _, _, _, _⟩) rfl (fun K hK => ?qest18) AllReadyH.nil
  go_simp
  (refine (Signed_any _ _ _ w0 w1).mono ?_; rintro e w' ⟨rfl, rfl⟩)
  refine hK.out _ _ ?qek18 (fun hHeld2 => ?qem18)
  case qek18 => exact ⟨KN.at_ (by repeat (first | exact Has.here | refine Has.there ?_)), KN.at_ (by repeat (first | exact Has.here | refine Has.there ?_)), KN.at_ (by repeat (first | exact Has.here | refine Has.there ?_))⟩
  clear hK K hHeld
  have hHeld := hHeld2; clear hHeld2
  (try simp only [Act.put, List.setIfInBounds_toArray, List.set_cons_zero, List.set_cons_succ])
  refine wpAnyH_ready (rs := [21]) (by kernel_rfl) (by simp) ?qec21
  refine AllReadyH.cons (o := ⟨some 69, _, _, _, _, _⟩) rfl (fun K hK => ?qest21) AllReadyH.nil
  go_simp
  (refine (RSigned_any _ _ _ w0 w1).mono ?_; rintro e w' ⟨rfl, rfl⟩)
  refine hK.out _ _ ?qek21 (fun hHeld2 => ?qem21)
  case qek21 => exact ⟨KN.at_ (by repeat (first | exact Has.here | refine Has.there ?_)), KN.at_ (by repeat (first | exact Has.here | refine Has.there ?_)), KN.at_ (by repeat (first | exact Has.here | refine Has.there ?_))⟩
  clear hK K hHeld
  have hHeld := hHeld2; clear hHeld2
  (try simp only [Act.put, List.setIfInBounds_toArray, List.set_cons_zero, List.set_cons_succ])
  refine wpAnyH_take (i := 22) (oi := ⟨some 70, _, _, _, _, _⟩) (v := ?qev22) rfl (by kernel_rfl) (by kernel_rfl) (by kernel_rfl) (fun _ _ _ h => h) (Or.inl ⟨by rfl, ?qehy22⟩) hHeld ?qer22
  case qehy22 => (intro w hSw; (try dsimp only at hSw); go_simp; (try with_reducible rfl))
  (try simp only [Act.put, List.setIfInBounds_toArray, List.set_cons_zero, List.set_cons_succ])
  refine wpAnyH_take (i := 23) (oi := ⟨some 71, _, _, _, _, _⟩) (v := ?qev23) rfl (by kernel_rfl) (by kernel_rfl) (by kernel_rfl) (fun _ _ _ h => h) (Or.inl ⟨by rfl, ?qehy23⟩) hHeld ?qer23
  case qehy23 => (intro w hSw; (try dsimp only at hSw); go_simp; (try with_reducible rfl))
  (try simp only [Act.put, List.setIfInBounds_toArray, List.set_cons_zero, List.set_cons_succ])
  refine wpAnyH_done (by kernel_rfl) ?qedone _
  clear hHeld
  go_wp2_with (first | ((with_reducible refine wpList_gate ?_); first | ((refine gate_load (by rfl) ?_); first | (refine wpList_kn_loadW KN (by rfl) 35 _ rfl _ rfl _ _ (by repeat (first | exact Has.here | refine Has.there ?_)) _ Try.underlying35 rfl (by kernel_rfl) ?_) | (refine wpList_kn_loadW KN (by rfl) 33 _ rfl _ rfl _ _ (by repeat (first | exact Has.here | refine Has.there ?_)) _ Try.underlying33 rfl (by kernel_rfl) ?_)) | ((refine gate_store (by rfl) ?_); first | (refine wpList_kn_storeW KN (by rfl) 35 _ _ rfl _ rfl _ rfl _ _ (by repeat (first | exact Repl.here | apply Repl.there)) (by kernel_rfl) (by kernel_rfl) (by kernel_rfl) ?_; clear KN; intro wx KN) | (refine wpList_kn_storeA KN (by rfl) 35 _ _ rfl _ _ rfl _ rfl _ _ (by repeat (first | exact Repl.here | apply Repl.there)) (by (try simp only [Array.size_setIfInBounds, putL_size]); first | exact Nat.le_of_ble_eq_true rfl | (simp; omega)) (by kernel_rfl) (by kernel_rfl) ?_; clear KN; intro wx KN) | (refine wpList_kn_storeW KN (by rfl) 33 _ _ rfl _ rfl _ rfl _ _ (by repeat (first | exact Repl.here | apply Repl.there)) (by kernel_rfl) (by kernel_rfl) (by kernel_rfl) ?_; clear KN; intro wx KN) | (refine wpList_kn_storeA KN (by rfl) 33 _ _ rfl _ _ rfl _ rfl _ _ (by repeat (first | exact Repl.here | apply Repl.there)) (by (try simp only [Array.size_setIfInBounds, putL_size]); first | exact Nat.le_of_ble_eq_true rfl | (simp; omega)) (by kernel_rfl) (by kernel_rfl) ?_; clear KN; intro wx KN)) | ((refine gate_new (by rfl) ?_); first | (refine wpList_kn_boxA KN (by rfl) 35 _ rfl 7 rfl _ rfl ?_; clear KN; intro g7 wx hg7 KN) | (refine wpList_kn_alloc KN (by rfl) 35 rfl 15 rfl Vm.zero.cells (by kernel_rfl) ?_; clear KN; intro g15 wx hg15 KN) | (refine wpList_kn_alloc KN (by rfl) 35 rfl 17 rfl Vm.zero.cells (by kernel_rfl) ?_; clear KN; intro g17 wx hg17 KN) | (refine wpList_kn_alloc KN (by rfl) 33 rfl 19 rfl Eff.none.cells (by kernel_rfl) ?_; clear KN; intro g19 wx hg19 KN) | (refine wpList_kn_alloc KN (by rfl) 33 rfl 20 rfl Eff.none.cells (by kernel_rfl) ?_; clear KN; intro g20 wx hg20 KN))))
  go_cut [19, 16] (fun s19 s16 wz => ∃ g19 : Nat, s19 = .pointer (some ⟨g19, 0, none⟩) ∧ s16 = .int .i64 R.2.2 ∧ Kn [] w wz [(g19, At R.2.1.cells 33), (g17, At r.1.cells 35), (g15, At R.1.cells 35), (g7, At v.cells 35)])
  case first =>
    replace KN := KN.drew
    refine wp_region_held_drew (S := (fun w' => BlkT w' g7 v.cells 35)) (by kernel_rfl) ?qfhS (fun hHeld => ?qfrest)
    case qfhS => exact KN.at_ (by repeat (first | exact Has.here | refine Has.there ?_))
    refine wpAnyH_take (i := 0) (oi := ⟨some 73, _, _, _, _, _⟩) (v := (.agg v.cells)) rfl (by kernel_rfl) (by kernel_rfl) (by kernel_rfl) (fun _ _ _ h => h) (kn_yieldsN (by rfl) 35 _ rfl g7 0 rfl _ 35 (fun _ h => h) _ (extract_whole _) _ Try.underlying35 rfl vm_size) hHeld ?qfr0
    (try simp only [Act.put, List.setIfInBounds_toArray, List.set_cons_zero, List.set_cons_succ])
    refine wpAnyH_take (i := 1) (oi := ⟨some 74, _, _, _, _, _⟩) (v := ?qfv1) rfl (by kernel_rfl) (by kernel_rfl) (by kernel_rfl) (fun _ _ _ h => h) (Or.inl ⟨by rfl, ?qfhy1⟩) hHeld ?qfr1
    case qfhy1 => (intro w hSw; (try dsimp only at hSw); go_simp; (try with_reducible rfl))
    (try simp only [Act.put, List.setIfInBounds_toArray, List.set_cons_zero, List.set_cons_succ])
    refine wpAnyH_ready (rs := [2, 8]) (by kernel_rfl) (by simp) ?qfc2_8
    refine (AllReadyH.cons (o := ⟨some 75, _, _, _, _, _⟩) rfl (fun K hK => ?qfst2) (AllReadyH.cons (o := ⟨some 19, _, _, _, _, _⟩) rfl (fun K hK => ?qfst8) AllReadyH.nil))
    case qfst2 =>
      (rw [if_pos (by rfl)]; refine wp_kn_copy KN _ _ 25 rfl 29 i0 _ 5 40 Try.underlying25 II.out IZ.out IS.out IB.out rfl (by decide) rfl _ rfl _ (HP.out.1.below KN.toBelow) (ins_len p) (ins_one p) (by simp; omega) ?_; clear KN; intro vc wx KN hrow)
      refine hK.out _ _ ?qf2xk2 (fun hHeld2 => ?qf2xm2)
      case qf2xk2 => exact KN.at_ (by repeat (first | exact Has.here | refine Has.there ?_))
      clear hK K hHeld
      have hHeld := hHeld2; clear hHeld2
      (try simp only [Act.put, List.setIfInBounds_toArray, List.set_cons_zero, List.set_cons_succ])
      refine wpAnyH_ready (rs := [3, 8]) (by kernel_rfl) (by simp) ?qf2xc3_8
      refine (AllReadyH.cons (o := ⟨some 76, _, _, _, _, _⟩) rfl (fun K hK => ?qf2xst3) (AllReadyH.cons (o := ⟨some 19, _, _, _, _, _⟩) rfl (fun K hK => ?qf2xst8) AllReadyH.nil))
      case qf2xst3 =>
        (go_simp; refine (Step_any v vc p _ HT.out ⟨hrow, HP.out.2⟩).mono ?_; rintro e wx ⟨rfl, hb1⟩; replace KN := KN.below hb1; clear hb1; rw [← HR2.out]; unfold stepVal)
        refine hK.out _ _ ?qf2x3xk3 (fun hHeld2 => ?qf2x3xm3)
        case qf2x3xk3 => exact KN.at_ (by repeat (first | exact Has.here | refine Has.there ?_))
        clear hK K hHeld
        have hHeld := hHeld2; clear hHeld2
        (try simp only [Act.put, List.setIfInBounds_toArray, List.set_cons_zero, List.set_cons_succ])
        refine wpAnyH_take (i := 4) (oi := ⟨some 72, _, _, _, _, _⟩) (v := ?qf2x3xv4) rfl (by kernel_rfl) (by kernel_rfl) (by kernel_rfl) (fun _ _ _ h => h) (Or.inl ⟨by rfl, ?qf2x3xhy4⟩) hHeld ?qf2x3xr4
        case qf2x3xhy4 => (intro w hSw; (try dsimp only at hSw); go_simp; (try with_reducible rfl))
        (try simp only [Act.put, List.setIfInBounds_toArray, List.set_cons_zero, List.set_cons_succ])
        refine wpAnyH_take (i := 5) (oi := ⟨some 77, _, _, _, _, _⟩) (v := ?qf2x3xv5) rfl (by kernel_rfl) (by kernel_rfl) (by kernel_rfl) (fun _ _ _ h => h) (Or.inl ⟨by rfl, ?qf2x3xhy5⟩) hHeld ?qf2x3xr5
        case qf2x3xhy5 => (intro w hSw; (try dsimp only at hSw); go_simp; (try with_reducible rfl))
        (try simp only [Act.put, List.setIfInBounds_toArray, List.set_cons_zero, List.set_cons_succ])
        refine wpAnyH_take (i := 6) (oi := ⟨some 78, _, _, _, _, _⟩) (v := ?qf2x3xv6) rfl (by kernel_rfl) (by kernel_rfl) (by kernel_rfl) (fun _ _ _ h => h) (Or.inl ⟨by rfl, ?qf2x3xhy6⟩) hHeld ?qf2x3xr6
        case qf2x3xhy6 => (intro w hSw; (try dsimp only at hSw); go_simp; (try with_reducible rfl))
        (try simp only [Act.put, List.setIfInBounds_toArray, List.set_cons_zero, List.set_cons_succ])
        refine wpAnyH_take (i := 7) (oi := ⟨some 79, _, _, _, _, _⟩) (v := ?qf2x3xv7) rfl (by kernel_rfl) (by kernel_rfl) (by kernel_rfl) (fun _ _ _ h => h) (Or.inl ⟨by rfl, ?qf2x3xhy7⟩) hHeld ?qf2x3xr7
        case qf2x3xhy7 => (intro w hSw; (try dsimp only at hSw); go_simp; (try with_reducible rfl))
        (try simp only [Act.put, List.setIfInBounds_toArray, List.set_cons_zero, List.set_cons_succ])
        refine wpAnyH_ready (rs := [8]) (by kernel_rfl) (by simp) ?qf2x3xc8
        refine AllReadyH.cons (o := ⟨some 19, _, _, _, _, _⟩) rfl (fun K hK => ?qf2x3xst8) AllReadyH.nil
        (rw [if_pos (by rfl)]; refine wp_kn_alloc KN 33 rfl 19 rfl Eff.none.cells (by kernel_rfl) ?_; clear KN; intro g19 wx hg19 KN hb1; (try replace hrow := hrow.below hb1); clear hb1)
        refine hK.out _ _ ?qf2x3xk8 (fun hHeld2 => ?qf2x3xm8)
        case qf2x3xk8 => exact KN.at_ (by repeat (first | exact Has.here | refine Has.there ?_))
        clear hK K hHeld
        have hHeld := hHeld2; clear hHeld2
        (try simp only [Act.put, List.setIfInBounds_toArray, List.set_cons_zero, List.set_cons_succ])
        refine wpAnyH_ready (rs := [9]) (by kernel_rfl) (by simp) ?qf2x3xc9
        refine AllReadyH.cons (o := ⟨none, _, _, _, _, _⟩) rfl (fun K hK => ?qf2x3xst9) AllReadyH.nil
        (rw [if_pos (by rfl)]; refine wp_kn_storeW KN 35 _ _ rfl _ rfl _ rfl _ _ (by repeat (first | exact Repl.here | apply Repl.there)) (by kernel_rfl) (by kernel_rfl) (by kernel_rfl) ?_; clear KN; intro wx KN)
        refine hK.out _ _ ?qf2x3xk9 (fun hHeld2 => ?qf2x3xm9)
        case qf2x3xk9 => exact KN.at_ (by repeat (first | exact Has.here | refine Has.there ?_))
        clear hK K hHeld
        have hHeld := hHeld2; clear hHeld2
        (try simp only [Act.put, List.setIfInBounds_toArray, List.set_cons_zero, List.set_cons_succ])
        refine wpAnyH_ready (rs := [10]) (by kernel_rfl) (by simp) ?qf2x3xc10
        refine AllReadyH.cons (o := ⟨none, _, _, _, _, _⟩) rfl (fun K hK => ?qf2x3xst10) AllReadyH.nil
        (rw [if_pos (by rfl)]; refine wp_kn_storeW KN 33 _ _ rfl _ rfl _ rfl _ _ (by repeat (first | exact Repl.here | apply Repl.there)) (by kernel_rfl) (by kernel_rfl) (by kernel_rfl) ?_; clear KN; intro wx KN)
        refine hK.out _ _ ?qf2x3xk10 (fun hHeld2 => ?qf2x3xm10)
        case qf2x3xk10 => exact KN.at_ (by repeat (first | exact Has.here | refine Has.there ?_))
        clear hK K hHeld
        have hHeld := hHeld2; clear hHeld2
        (try simp only [Act.put, List.setIfInBounds_toArray, List.set_cons_zero, List.set_cons_succ])
        refine wpAnyH_take (i := 11) (oi := ⟨some 16, _, _, _, _, _⟩) (v := ?qf2x3xv11) rfl (by kernel_rfl) (by kernel_rfl) (by kernel_rfl) (fun _ _ _ h => h) (Or.inl ⟨by rfl, ?qf2x3xhy11⟩) hHeld ?qf2x3xr11
        case qf2x3xhy11 => (intro w hSw; (try dsimp only at hSw); go_simp; (try with_reducible rfl))
        (try simp only [Act.put, List.setIfInBounds_toArray, List.set_cons_zero, List.set_cons_succ])
        refine wpAnyH_done (by kernel_rfl) ?qf2x3xdone _
        go_wp2_with fail
        go_meet
        exact ⟨_, rfl, rfl, KN⟩
      case qf2xst8 =>
        (rw [if_pos (by rfl)]; refine wp_kn_alloc KN 33 rfl 19 rfl Eff.none.cells (by kernel_rfl) ?_; clear KN; intro g19 wx hg19 KN hb1; (try replace hrow := hrow.below hb1); clear hb1)
        refine hK.out _ _ ?qf2x8xk8 (fun hHeld2 => ?qf2x8xm8)
        case qf2x8xk8 => exact KN.at_ (by repeat (first | exact Has.here | refine Has.there ?_))
        clear hK K hHeld
        have hHeld := hHeld2; clear hHeld2
        (try simp only [Act.put, List.setIfInBounds_toArray, List.set_cons_zero, List.set_cons_succ])
        refine wpAnyH_ready (rs := [3]) (by kernel_rfl) (by simp) ?qf2x8xc3
        refine AllReadyH.cons (o := ⟨some 76, _, _, _, _, _⟩) rfl (fun K hK => ?qf2x8xst3) AllReadyH.nil
        (go_simp; refine (Step_any v vc p _ HT.out ⟨hrow, HP.out.2⟩).mono ?_; rintro e wx ⟨rfl, hb1⟩; replace KN := KN.below hb1; clear hb1; rw [← HR2.out]; unfold stepVal)
        refine hK.out _ _ ?qf2x8xk3 (fun hHeld2 => ?qf2x8xm3)
        case qf2x8xk3 => exact KN.at_ (by repeat (first | exact Has.here | refine Has.there ?_))
        clear hK K hHeld
        have hHeld := hHeld2; clear hHeld2
        (try simp only [Act.put, List.setIfInBounds_toArray, List.set_cons_zero, List.set_cons_succ])
        refine wpAnyH_take (i := 4) (oi := ⟨some 72, _, _, _, _, _⟩) (v := ?qf2x8xv4) rfl (by kernel_rfl) (by kernel_rfl) (by kernel_rfl) (fun _ _ _ h => h) (Or.inl ⟨by rfl, ?qf2x8xhy4⟩) hHeld ?qf2x8xr4
        case qf2x8xhy4 => (intro w hSw; (try dsimp only at hSw); go_simp; (try with_reducible rfl))
        (try simp only [Act.put, List.setIfInBounds_toArray, List.set_cons_zero, List.set_cons_succ])
        refine wpAnyH_take (i := 5) (oi := ⟨some 77, _, _, _, _, _⟩) (v := ?qf2x8xv5) rfl (by kernel_rfl) (by kernel_rfl) (by kernel_rfl) (fun _ _ _ h => h) (Or.inl ⟨by rfl, ?qf2x8xhy5⟩) hHeld ?qf2x8xr5
        case qf2x8xhy5 => (intro w hSw; (try dsimp only at hSw); go_simp; (try with_reducible rfl))
        (try simp only [Act.put, List.setIfInBounds_toArray, List.set_cons_zero, List.set_cons_succ])
        refine wpAnyH_take (i := 6) (oi := ⟨some 78, _, _, _, _, _⟩) (v := ?qf2x8xv6) rfl (by kernel_rfl) (by kernel_rfl) (by kernel_rfl) (fun _ _ _ h => h) (Or.inl ⟨by rfl, ?qf2x8xhy6⟩) hHeld ?qf2x8xr6
        case qf2x8xhy6 => (intro w hSw; (try dsimp only at hSw); go_simp; (try with_reducible rfl))
        (try simp only [Act.put, List.setIfInBounds_toArray, List.set_cons_zero, List.set_cons_succ])
        refine wpAnyH_take (i := 7) (oi := ⟨some 79, _, _, _, _, _⟩) (v := ?qf2x8xv7) rfl (by kernel_rfl) (by kernel_rfl) (by kernel_rfl) (fun _ _ _ h => h) (Or.inl ⟨by rfl, ?qf2x8xhy7⟩) hHeld ?qf2x8xr7
        case qf2x8xhy7 => (intro w hSw; (try dsimp only at hSw); go_simp; (try with_reducible rfl))
        (try simp only [Act.put, List.setIfInBounds_toArray, List.set_cons_zero, List.set_cons_succ])
        refine wpAnyH_ready (rs := [9]) (by kernel_rfl) (by simp) ?qf2x8xc9
        refine AllReadyH.cons (o := ⟨none, _, _, _, _, _⟩) rfl (fun K hK => ?qf2x8xst9) AllReadyH.nil
        (rw [if_pos (by rfl)]; refine wp_kn_storeW KN 35 _ _ rfl _ rfl _ rfl _ _ (by repeat (first | exact Repl.here | apply Repl.there)) (by kernel_rfl) (by kernel_rfl) (by kernel_rfl) ?_; clear KN; intro wx KN)
        refine hK.out _ _ ?qf2x8xk9 (fun hHeld2 => ?qf2x8xm9)
        case qf2x8xk9 => exact KN.at_ (by repeat (first | exact Has.here | refine Has.there ?_))
        clear hK K hHeld
        have hHeld := hHeld2; clear hHeld2
        (try simp only [Act.put, List.setIfInBounds_toArray, List.set_cons_zero, List.set_cons_succ])
        refine wpAnyH_ready (rs := [10]) (by kernel_rfl) (by simp) ?qf2x8xc10
        refine AllReadyH.cons (o := ⟨none, _, _, _, _, _⟩) rfl (fun K hK => ?qf2x8xst10) AllReadyH.nil
        (rw [if_pos (by rfl)]; refine wp_kn_storeW KN 33 _ _ rfl _ rfl _ rfl _ _ (by repeat (first | exact Repl.here | apply Repl.there)) (by kernel_rfl) (by kernel_rfl) (by kernel_rfl) ?_; clear KN; intro wx KN)
        refine hK.out _ _ ?qf2x8xk10 (fun hHeld2 => ?qf2x8xm10)
        case qf2x8xk10 => exact KN.at_ (by repeat (first | exact Has.here | refine Has.there ?_))
        clear hK K hHeld
        have hHeld := hHeld2; clear hHeld2
        (try simp only [Act.put, List.setIfInBounds_toArray, List.set_cons_zero, List.set_cons_succ])
        refine wpAnyH_take (i := 11) (oi := ⟨some 16, _, _, _, _, _⟩) (v := ?qf2x8xv11) rfl (by kernel_rfl) (by kernel_rfl) (by kernel_rfl) (fun _ _ _ h => h) (Or.inl ⟨by rfl, ?qf2x8xhy11⟩) hHeld ?qf2x8xr11
        case qf2x8xhy11 => (intro w hSw; (try dsimp only at hSw); go_simp; (try with_reducible rfl))
        (try simp only [Act.put, List.setIfInBounds_toArray, List.set_cons_zero, List.set_cons_succ])
        refine wpAnyH_done (by kernel_rfl) ?qf2x8xdone _
        go_wp2_with fail
        go_meet
        exact ⟨_, rfl, rfl, KN⟩
    case qfst8 =>
      (rw [if_pos (by rfl)]; refine wp_kn_alloc KN 33 rfl 19 rfl Eff.none.cells (by kernel_rfl) ?_; clear KN; intro g19 wx hg19 KN hb1; (try replace hrow := hrow.below hb1); clear hb1)
      refine hK.out _ _ ?qf8xk8 (fun hHeld2 => ?qf8xm8)
      case qf8xk8 => exact KN.at_ (by repeat (first | exact Has.here | refine Has.there ?_))
      clear hK K hHeld
      have hHeld := hHeld2; clear hHeld2
      (try simp only [Act.put, List.setIfInBounds_toArray, List.set_cons_zero, List.set_cons_succ])
      refine wpAnyH_ready (rs := [2]) (by kernel_rfl) (by simp) ?qf8xc2
      refine AllReadyH.cons (o := ⟨some 75, _, _, _, _, _⟩) rfl (fun K hK => ?qf8xst2) AllReadyH.nil
      (rw [if_pos (by rfl)]; refine wp_kn_copy KN _ _ 25 rfl 29 i0 _ 5 40 Try.underlying25 II.out IZ.out IS.out IB.out rfl (by decide) rfl _ rfl _ (HP.out.1.below KN.toBelow) (ins_len p) (ins_one p) (by simp; omega) ?_; clear KN; intro vc wx KN hrow)
      refine hK.out _ _ ?qf8xk2 (fun hHeld2 => ?qf8xm2)
      case qf8xk2 => exact KN.at_ (by repeat (first | exact Has.here | refine Has.there ?_))
      clear hK K hHeld
      have hHeld := hHeld2; clear hHeld2
      (try simp only [Act.put, List.setIfInBounds_toArray, List.set_cons_zero, List.set_cons_succ])
      refine wpAnyH_ready (rs := [3]) (by kernel_rfl) (by simp) ?qf8xc3
      refine AllReadyH.cons (o := ⟨some 76, _, _, _, _, _⟩) rfl (fun K hK => ?qf8xst3) AllReadyH.nil
      (go_simp; refine (Step_any v vc p _ HT.out ⟨hrow, HP.out.2⟩).mono ?_; rintro e wx ⟨rfl, hb1⟩; replace KN := KN.below hb1; clear hb1; rw [← HR2.out]; unfold stepVal)
      refine hK.out _ _ ?qf8xk3 (fun hHeld2 => ?qf8xm3)
      case qf8xk3 => exact KN.at_ (by repeat (first | exact Has.here | refine Has.there ?_))
      clear hK K hHeld
      have hHeld := hHeld2; clear hHeld2
      (try simp only [Act.put, List.setIfInBounds_toArray, List.set_cons_zero, List.set_cons_succ])
      refine wpAnyH_take (i := 4) (oi := ⟨some 72, _, _, _, _, _⟩) (v := ?qf8xv4) rfl (by kernel_rfl) (by kernel_rfl) (by kernel_rfl) (fun _ _ _ h => h) (Or.inl ⟨by rfl, ?qf8xhy4⟩) hHeld ?qf8xr4
      case qf8xhy4 => (intro w hSw; (try dsimp only at hSw); go_simp; (try with_reducible rfl))
      (try simp only [Act.put, List.setIfInBounds_toArray, List.set_cons_zero, List.set_cons_succ])
      refine wpAnyH_take (i := 5) (oi := ⟨some 77, _, _, _, _, _⟩) (v := ?qf8xv5) rfl (by kernel_rfl) (by kernel_rfl) (by kernel_rfl) (fun _ _ _ h => h) (Or.inl ⟨by rfl, ?qf8xhy5⟩) hHeld ?qf8xr5
      case qf8xhy5 => (intro w hSw; (try dsimp only at hSw); go_simp; (try with_reducible rfl))
      (try simp only [Act.put, List.setIfInBounds_toArray, List.set_cons_zero, List.set_cons_succ])
      refine wpAnyH_take (i := 6) (oi := ⟨some 78, _, _, _, _, _⟩) (v := ?qf8xv6) rfl (by kernel_rfl) (by kernel_rfl) (by kernel_rfl) (fun _ _ _ h => h) (Or.inl ⟨by rfl, ?qf8xhy6⟩) hHeld ?qf8xr6
      case qf8xhy6 => (intro w hSw; (try dsimp only at hSw); go_simp; (try with_reducible rfl))
      (try simp only [Act.put, List.setIfInBounds_toArray, List.set_cons_zero, List.set_cons_succ])
      refine wpAnyH_take (i := 7) (oi := ⟨some 79, _, _, _, _, _⟩) (v := ?qf8xv7) rfl (by kernel_rfl) (by kernel_rfl) (by kernel_rfl) (fun _ _ _ h => h) (Or.inl ⟨by rfl, ?qf8xhy7⟩) hHeld ?qf8xr7
      case qf8xhy7 => (intro w hSw; (try dsimp only at hSw); go_simp; (try with_reducible rfl))
      (try simp only [Act.put, List.setIfInBounds_toArray, List.set_cons_zero, List.set_cons_succ])
      refine wpAnyH_ready (rs := [9]) (by kernel_rfl) (by simp) ?qf8xc9
      refine AllReadyH.cons (o := ⟨none, _, _, _, _, _⟩) rfl (fun K hK => ?qf8xst9) AllReadyH.nil
      (rw [if_pos (by rfl)]; refine wp_kn_storeW KN 35 _ _ rfl _ rfl _ rfl _ _ (by repeat (first | exact Repl.here | apply Repl.there)) (by kernel_rfl) (by kernel_rfl) (by kernel_rfl) ?_; clear KN; intro wx KN)
      refine hK.out _ _ ?qf8xk9 (fun hHeld2 => ?qf8xm9)
      case qf8xk9 => exact KN.at_ (by repeat (first | exact Has.here | refine Has.there ?_))
      clear hK K hHeld
      have hHeld := hHeld2; clear hHeld2
      (try simp only [Act.put, List.setIfInBounds_toArray, List.set_cons_zero, List.set_cons_succ])
      refine wpAnyH_ready (rs := [10]) (by kernel_rfl) (by simp) ?qf8xc10
      refine AllReadyH.cons (o := ⟨none, _, _, _, _, _⟩) rfl (fun K hK => ?qf8xst10) AllReadyH.nil
      (rw [if_pos (by rfl)]; refine wp_kn_storeW KN 33 _ _ rfl _ rfl _ rfl _ _ (by repeat (first | exact Repl.here | apply Repl.there)) (by kernel_rfl) (by kernel_rfl) (by kernel_rfl) ?_; clear KN; intro wx KN)
      refine hK.out _ _ ?qf8xk10 (fun hHeld2 => ?qf8xm10)
      case qf8xk10 => exact KN.at_ (by repeat (first | exact Has.here | refine Has.there ?_))
      clear hK K hHeld
      have hHeld := hHeld2; clear hHeld2
      (try simp only [Act.put, List.setIfInBounds_toArray, List.set_cons_zero, List.set_cons_succ])
      refine wpAnyH_take (i := 11) (oi := ⟨some 16, _, _, _, _, _⟩) (v := ?qf8xv11) rfl (by kernel_rfl) (by kernel_rfl) (by kernel_rfl) (fun _ _ _ h => h) (Or.inl ⟨by rfl, ?qf8xhy11⟩) hHeld ?qf8xr11
      case qf8xhy11 => (intro w hSw; (try dsimp only at hSw); go_simp; (try with_reducible rfl))
      (try simp only [Act.put, List.setIfInBounds_toArray, List.set_cons_zero, List.set_cons_succ])
      refine wpAnyH_done (by kernel_rfl) ?qf8xdone _
      go_wp2_with fail
      go_meet
      exact ⟨_, rfl, rfl, KN⟩
  case rest =>
    clear KN
    obtain ⟨g19, rfl, rfl, KN⟩ := hcut
    go_wp2_with (first | (go_at_call 17; refine (RStep_any v _ p _ HT.out (HP.out.below KN.toBelow)).mono ?_; rintro e wx ⟨rfl, hb1⟩; replace KN := KN.below hb1; clear hb1; rw [← HR2.out]; unfold stepVal) | ((with_reducible refine wpList_gate ?_); first | ((refine gate_load (by rfl) ?_); first | (refine wpList_kn_loadW KN (by rfl) 35 _ rfl _ rfl _ _ (by repeat (first | exact Has.here | refine Has.there ?_)) _ Try.underlying35 rfl (by kernel_rfl) ?_) | (refine wpList_kn_loadW KN (by rfl) 33 _ rfl _ rfl _ _ (by repeat (first | exact Has.here | refine Has.there ?_)) _ Try.underlying33 rfl (by kernel_rfl) ?_)) | ((refine gate_store (by rfl) ?_); first | (refine wpList_kn_storeW KN (by rfl) 35 _ _ rfl _ rfl _ rfl _ _ (by repeat (first | exact Repl.here | apply Repl.there)) (by kernel_rfl) (by kernel_rfl) (by kernel_rfl) ?_; clear KN; intro wx KN) | (refine wpList_kn_storeA KN (by rfl) 35 _ _ rfl _ _ rfl _ rfl _ _ (by repeat (first | exact Repl.here | apply Repl.there)) (by (try simp only [Array.size_setIfInBounds, putL_size]); first | exact Nat.le_of_ble_eq_true rfl | (simp; omega)) (by kernel_rfl) (by kernel_rfl) ?_; clear KN; intro wx KN) | (refine wpList_kn_storeW KN (by rfl) 33 _ _ rfl _ rfl _ rfl _ _ (by repeat (first | exact Repl.here | apply Repl.there)) (by kernel_rfl) (by kernel_rfl) (by kernel_rfl) ?_; clear KN; intro wx KN) | (refine wpList_kn_storeA KN (by rfl) 33 _ _ rfl _ _ rfl _ rfl _ _ (by repeat (first | exact Repl.here | apply Repl.there)) (by (try simp only [Array.size_setIfInBounds, putL_size]); first | exact Nat.le_of_ble_eq_true rfl | (simp; omega)) (by kernel_rfl) (by kernel_rfl) ?_; clear KN; intro wx KN)) | ((refine gate_new (by rfl) ?_); first | (refine wpList_kn_boxA KN (by rfl) 35 _ rfl 7 rfl _ rfl ?_; clear KN; intro g7 wx hg7 KN) | (refine wpList_kn_alloc KN (by rfl) 35 rfl 15 rfl Vm.zero.cells (by kernel_rfl) ?_; clear KN; intro g15 wx hg15 KN) | (refine wpList_kn_alloc KN (by rfl) 35 rfl 17 rfl Vm.zero.cells (by kernel_rfl) ?_; clear KN; intro g17 wx hg17 KN) | (refine wpList_kn_alloc KN (by rfl) 33 rfl 19 rfl Eff.none.cells (by kernel_rfl) ?_; clear KN; intro g19 wx hg19 KN) | (refine wpList_kn_alloc KN (by rfl) 33 rfl 20 rfl Eff.none.cells (by kernel_rfl) ?_; clear KN; intro g20 wx hg20 KN)) | ((refine gate_cmp (by rfl) ?_); first | (refine wpList_kn_neq (by rfl) 35 _ _ _ rfl _ rfl rfl (by kernel_rfl) (by kernel_rfl) ?_) | (refine wpList_kn_neq (by rfl) 33 _ _ _ rfl _ rfl rfl (by kernel_rfl) (by kernel_rfl) ?_))))
    replace KN := KN.drew
    refine wp_region_held_drew (S := (fun w' => BlkT w' g7 v.cells 35)) (by kernel_rfl) ?qghS (fun hHeld => ?qgrest)
    case qghS => exact KN.at_ (by repeat (first | exact Has.here | refine Has.there ?_))
    refine wpAnyH_take (i := 0) (oi := ⟨some 101, _, _, _, _, _⟩) (v := (.agg v.cells)) rfl (by kernel_rfl) (by kernel_rfl) (by kernel_rfl) (fun _ _ _ h => h) (kn_yieldsN (by rfl) 35 _ rfl g7 0 rfl _ 35 (fun _ h => h) _ (extract_whole _) _ Try.underlying35 rfl vm_size) hHeld ?qgr0
    (try simp only [Act.put, List.setIfInBounds_toArray, List.set_cons_zero, List.set_cons_succ])
    refine wpAnyH_take (i := 1) (oi := ⟨some 102, _, _, _, _, _⟩) (v := ?qgv1) rfl (by kernel_rfl) (by kernel_rfl) (by kernel_rfl) (fun _ _ _ h => h) (Or.inl ⟨by rfl, ?qghy1⟩) hHeld ?qgr1
    case qghy1 => (intro w hSw; (try dsimp only at hSw); go_simp; (try with_reducible rfl))
    (try simp only [Act.put, List.setIfInBounds_toArray, List.set_cons_zero, List.set_cons_succ])
    refine wpAnyH_take (i := 3) (oi := ⟨some 104, _, _, _, _, _⟩) (v := ?qgv3) rfl (by kernel_rfl) (by kernel_rfl) (by kernel_rfl) (fun _ _ _ h => h) (Or.inl ⟨by rfl, ?qghy3⟩) hHeld ?qgr3
    case qghy3 => (intro w hSw; (try dsimp only at hSw); go_simp; (try with_reducible rfl))
    (try simp only [Act.put, List.setIfInBounds_toArray, List.set_cons_zero, List.set_cons_succ])
    refine wpAnyH_ready (rs := [2]) (by kernel_rfl) (by simp) ?qgc2
    refine AllReadyH.cons (o := ⟨some 103, _, _, _, _, _⟩) rfl (fun K hK => ?qgst2) AllReadyH.nil
    (rw [if_pos (by rfl)]; refine wp_kn_copy KN _ _ 25 rfl 29 i0 _ 5 40 Try.underlying25 II.out IZ.out IS.out IB.out rfl (by decide) rfl _ rfl _ (HP.out.1.below KN.toBelow) (ins_len p) (ins_one p) (by simp; omega) ?_; clear KN; intro vc wx KN hrow)
    refine hK.out _ _ ?qgk2 (fun hHeld2 => ?qgm2)
    case qgk2 => exact KN.at_ (by repeat (first | exact Has.here | refine Has.there ?_))
    clear hK K hHeld
    have hHeld := hHeld2; clear hHeld2
    (try simp only [Act.put, List.setIfInBounds_toArray, List.set_cons_zero, List.set_cons_succ])
    refine wpAnyH_ready (rs := [4]) (by kernel_rfl) (by simp) ?qgc4
    refine AllReadyH.cons (o := ⟨some 105, _, _, _, _, _⟩) rfl (fun K hK => ?qgst4) AllReadyH.nil
    (go_simp; refine (Run_any v vc p n _ HT.out ⟨hrow, HP.out.2⟩).mono ?_; rintro e wx ⟨rfl, hb1⟩; replace KN := KN.below hb1; clear hb1; rw [← HR3.out]; unfold runVal)
    refine hK.out _ _ ?qgk4 (fun hHeld2 => ?qgm4)
    case qgk4 => exact KN.at_ (by repeat (first | exact Has.here | refine Has.there ?_))
    clear hK K hHeld
    have hHeld := hHeld2; clear hHeld2
    (try simp only [Act.put, List.setIfInBounds_toArray, List.set_cons_zero, List.set_cons_succ])
    refine wpAnyH_take (i := 5) (oi := ⟨some 100, _, _, _, _, _⟩) (v := ?qgv5) rfl (by kernel_rfl) (by kernel_rfl) (by kernel_rfl) (fun _ _ _ h => h) (Or.inl ⟨by rfl, ?qghy5⟩) hHeld ?qgr5
    case qghy5 => (intro w hSw; (try dsimp only at hSw); go_simp; (try with_reducible rfl))
    (try simp only [Act.put, List.setIfInBounds_toArray, List.set_cons_zero, List.set_cons_succ])
    refine wpAnyH_take (i := 6) (oi := ⟨some 106, _, _, _, _, _⟩) (v := ?qgv6) rfl (by kernel_rfl) (by kernel_rfl) (by kernel_rfl) (fun _ _ _ h => h) (Or.inl ⟨by rfl, ?qghy6⟩) hHeld ?qgr6
    case qghy6 => (intro w hSw; (try dsimp only at hSw); go_simp; (try with_reducible rfl))
    (try simp only [Act.put, List.setIfInBounds_toArray, List.set_cons_zero, List.set_cons_succ])
    refine wpAnyH_take (i := 7) (oi := ⟨some 107, _, _, _, _, _⟩) (v := ?qgv7) rfl (by kernel_rfl) (by kernel_rfl) (by kernel_rfl) (fun _ _ _ h => h) (Or.inl ⟨by rfl, ?qghy7⟩) hHeld ?qgr7
    case qghy7 => (intro w hSw; (try dsimp only at hSw); go_simp; (try with_reducible rfl))
    (try simp only [Act.put, List.setIfInBounds_toArray, List.set_cons_zero, List.set_cons_succ])
    refine wpAnyH_take (i := 8) (oi := ⟨some 108, _, _, _, _, _⟩) (v := ?qgv8) rfl (by kernel_rfl) (by kernel_rfl) (by kernel_rfl) (fun _ _ _ h => h) (Or.inl ⟨by rfl, ?qghy8⟩) hHeld ?qgr8
    case qghy8 => (intro w hSw; (try dsimp only at hSw); go_simp; (try with_reducible rfl))
    (try simp only [Act.put, List.setIfInBounds_toArray, List.set_cons_zero, List.set_cons_succ])
    refine wpAnyH_take (i := 9) (oi := ⟨some 109, _, _, _, _, _⟩) (v := ?qgv9) rfl (by kernel_rfl) (by kernel_rfl) (by kernel_rfl) (fun _ _ _ h => h) (Or.inl ⟨by rfl, ?qghy9⟩) hHeld ?qgr9
    case qghy9 => (intro w hSw; (try dsimp only at hSw); go_simp; (try with_reducible rfl))
    (try simp only [Act.put, List.setIfInBounds_toArray, List.set_cons_zero, List.set_cons_succ])
    refine wpAnyH_ready (rs := [10]) (by kernel_rfl) (by simp) ?qgc10
    refine AllReadyH.cons (o := ⟨none, _, _, _, _, _⟩) rfl (fun K hK => ?qgst10) AllReadyH.nil
    (rw [if_pos (by rfl)]; refine wp_kn_storeW KN 35 _ _ rfl _ rfl _ rfl _ _ (by repeat (first | exact Repl.here | apply Repl.there)) (by kernel_rfl) (by kernel_rfl) (by kernel_rfl) ?_; clear KN; intro wx KN)
    refine hK.out _ _ ?qgk10 (fun hHeld2 => ?qgm10)
    case qgk10 => exact KN.at_ (by repeat (first | exact Has.here | refine Has.there ?_))
    clear hK K hHeld
    have hHeld := hHeld2; clear hHeld2
    (try simp only [Act.put, List.setIfInBounds_toArray, List.set_cons_zero, List.set_cons_succ])
    refine wpAnyH_take (i := 11) (oi := ⟨some 21, _, _, _, _, _⟩) (v := ?qgv11) rfl (by kernel_rfl) (by kernel_rfl) (by kernel_rfl) (fun _ _ _ h => h) (Or.inl ⟨by rfl, ?qghy11⟩) hHeld ?qgr11
    case qghy11 => (intro w hSw; (try dsimp only at hSw); go_simp; (try with_reducible rfl))
    (try simp only [Act.put, List.setIfInBounds_toArray, List.set_cons_zero, List.set_cons_succ])
    refine wpAnyH_ready (rs := [12]) (by kernel_rfl) (by simp) ?qgc12
    refine AllReadyH.cons (o := ⟨none, _, _, _, _, _⟩) rfl (fun K hK => ?qgst12) AllReadyH.nil
    (rw [if_pos (by rfl)]; refine wp_kn_storeW KN 33 _ _ rfl _ rfl _ rfl _ _ (by repeat (first | exact Repl.here | apply Repl.there)) (by kernel_rfl) (by kernel_rfl) (by kernel_rfl) ?_; clear KN; intro wx KN)
    refine hK.out _ _ ?qgk12 (fun hHeld2 => ?qgm12)
    case qgk12 => exact KN.at_ (by repeat (first | exact Has.here | refine Has.there ?_))
    clear hK K hHeld
    have hHeld := hHeld2; clear hHeld2
    (try simp only [Act.put, List.setIfInBounds_toArray, List.set_cons_zero, List.set_cons_succ])
    refine wpAnyH_take (i := 13) (oi := ⟨some 16, _, _, _, _, _⟩) (v := ?qgv13) rfl (by kernel_rfl) (by kernel_rfl) (by kernel_rfl) (fun _ _ _ h => h) (Or.inl ⟨by rfl, ?qghy13⟩) hHeld ?qgr13
    case qghy13 => (intro w hSw; (try dsimp only at hSw); go_simp; (try with_reducible rfl))
    (try simp only [Act.put, List.setIfInBounds_toArray, List.set_cons_zero, List.set_cons_succ])
    refine wpAnyH_done (by kernel_rfl) ?qgdone _
    clear hHeld
    go_wp2_with (first | (go_at_call 27; refine (RRun_any v _ p n _ HT.out (HP.out.below KN.toBelow)).mono ?_; rintro e wx ⟨rfl, hb1⟩; replace KN := KN.below hb1; clear hb1; rw [← HR3.out]; unfold runVal) | ((with_reducible refine wpList_gate ?_); first | ((refine gate_load (by rfl) ?_); first | (refine wpList_kn_loadW KN (by rfl) 35 _ rfl _ rfl _ _ (by repeat (first | exact Has.here | refine Has.there ?_)) _ Try.underlying35 rfl (by kernel_rfl) ?_) | (refine wpList_kn_loadW KN (by rfl) 33 _ rfl _ rfl _ _ (by repeat (first | exact Has.here | refine Has.there ?_)) _ Try.underlying33 rfl (by kernel_rfl) ?_)) | ((refine gate_store (by rfl) ?_); first | (refine wpList_kn_storeW KN (by rfl) 35 _ _ rfl _ rfl _ rfl _ _ (by repeat (first | exact Repl.here | apply Repl.there)) (by kernel_rfl) (by kernel_rfl) (by kernel_rfl) ?_; clear KN; intro wx KN) | (refine wpList_kn_storeA KN (by rfl) 35 _ _ rfl _ _ rfl _ rfl _ _ (by repeat (first | exact Repl.here | apply Repl.there)) (by (try simp only [Array.size_setIfInBounds, putL_size]); first | exact Nat.le_of_ble_eq_true rfl | (simp; omega)) (by kernel_rfl) (by kernel_rfl) ?_; clear KN; intro wx KN) | (refine wpList_kn_storeW KN (by rfl) 33 _ _ rfl _ rfl _ rfl _ _ (by repeat (first | exact Repl.here | apply Repl.there)) (by kernel_rfl) (by kernel_rfl) (by kernel_rfl) ?_; clear KN; intro wx KN) | (refine wpList_kn_storeA KN (by rfl) 33 _ _ rfl _ _ rfl _ rfl _ _ (by repeat (first | exact Repl.here | apply Repl.there)) (by (try simp only [Array.size_setIfInBounds, putL_size]); first | exact Nat.le_of_ble_eq_true rfl | (simp; omega)) (by kernel_rfl) (by kernel_rfl) ?_; clear KN; intro wx KN)) | ((refine gate_new (by rfl) ?_); first | (refine wpList_kn_boxA KN (by rfl) 35 _ rfl 7 rfl _ rfl ?_; clear KN; intro g7 wx hg7 KN) | (refine wpList_kn_alloc KN (by rfl) 35 rfl 15 rfl Vm.zero.cells (by kernel_rfl) ?_; clear KN; intro g15 wx hg15 KN) | (refine wpList_kn_alloc KN (by rfl) 35 rfl 17 rfl Vm.zero.cells (by kernel_rfl) ?_; clear KN; intro g17 wx hg17 KN) | (refine wpList_kn_alloc KN (by rfl) 33 rfl 19 rfl Eff.none.cells (by kernel_rfl) ?_; clear KN; intro g19 wx hg19 KN) | (refine wpList_kn_alloc KN (by rfl) 33 rfl 20 rfl Eff.none.cells (by kernel_rfl) ?_; clear KN; intro g20 wx hg20 KN)) | ((refine gate_cmp (by rfl) ?_); first | (refine wpList_kn_neq (by rfl) 35 _ _ _ rfl _ rfl rfl (by kernel_rfl) (by kernel_rfl) ?_) | (refine wpList_kn_neq (by rfl) 33 _ _ _ rfl _ rfl rfl (by kernel_rfl) (by kernel_rfl) ?_))))
    replace KN := KN.drew
    refine wp_region_held_drew (S := (fun w' => BlkT w' g7 v.cells 35)) (by kernel_rfl) ?qhhS (fun hHeld => ?qhrest)
    case qhhS => exact KN.at_ (by repeat (first | exact Has.here | refine Has.there ?_))
    refine wpAnyH_take (i := 0) (oi := ⟨some 138, _, _, _, _, _⟩) (v := (.agg v.cells)) rfl (by kernel_rfl) (by kernel_rfl) (by kernel_rfl) (fun _ _ _ h => h) (kn_yieldsN (by rfl) 35 _ rfl g7 0 rfl _ 35 (fun _ h => h) _ (extract_whole _) _ Try.underlying35 rfl vm_size) hHeld ?qhr0
    (try simp only [Act.put, List.setIfInBounds_toArray, List.set_cons_zero, List.set_cons_succ])
    refine wpAnyH_take (i := 1) (oi := ⟨some 139, _, _, _, _, _⟩) (v := ?qhv1) rfl (by kernel_rfl) (by kernel_rfl) (by kernel_rfl) (fun _ _ _ h => h) (Or.inl ⟨by rfl, ?qhhy1⟩) hHeld ?qhr1
    case qhhy1 => (intro w hSw; (try dsimp only at hSw); go_simp; (try with_reducible rfl))
    (try simp only [Act.put, List.setIfInBounds_toArray, List.set_cons_zero, List.set_cons_succ])
    refine wpAnyH_ready (rs := [2]) (by kernel_rfl) (by simp) ?qhc2
    refine AllReadyH.cons (o := ⟨some 140, _, _, _, _, _⟩) rfl (fun K hK => ?qhst2) AllReadyH.nil
    (rw [if_pos (by rfl)]; refine wp_kn_copy KN _ _ 23 rfl 30 j0 _ 1 8 Try.underlying23 JI.out JZ.out JS.out JB.out rfl (by decide) rfl _ rfl _ (HX.out.1.below KN.toBelow) (u64_len xs) (u64_one xs) (by simp; omega) ?_; clear KN; intro vc wx KN hrow)
    refine hK.out _ _ ?qhk2 (fun hHeld2 => ?qhm2)
    case qhk2 => exact KN.at_ (by repeat (first | exact Has.here | refine Has.there ?_))
    clear hK K hHeld
    have hHeld := hHeld2; clear hHeld2
    (try simp only [Act.put, List.setIfInBounds_toArray, List.set_cons_zero, List.set_cons_succ])
    refine wpAnyH_ready (rs := [3]) (by kernel_rfl) (by simp) ?qhc3
    refine AllReadyH.cons (o := ⟨some 141, _, _, _, _, _⟩) rfl (fun K hK => ?qhst3) AllReadyH.nil
    (go_simp; refine (Finish_any v vc xs _ HT.out ⟨hrow, HX.out.2⟩).mono ?_; rintro e wx ⟨rfl, hb1⟩; replace KN := KN.below hb1; clear hb1; rw [← HR4.out]; unfold pairVal)
    refine hK.out _ _ ?qhk3 (fun hHeld2 => ?qhm3)
    case qhk3 => exact KN.at_ (by repeat (first | exact Has.here | refine Has.there ?_))
    clear hK K hHeld
    have hHeld := hHeld2; clear hHeld2
    (try simp only [Act.put, List.setIfInBounds_toArray, List.set_cons_zero, List.set_cons_succ])
    refine wpAnyH_take (i := 4) (oi := ⟨some 137, _, _, _, _, _⟩) (v := ?qhv4) rfl (by kernel_rfl) (by kernel_rfl) (by kernel_rfl) (fun _ _ _ h => h) (Or.inl ⟨by rfl, ?qhhy4⟩) hHeld ?qhr4
    case qhhy4 => (intro w hSw; (try dsimp only at hSw); go_simp; (try with_reducible rfl))
    (try simp only [Act.put, List.setIfInBounds_toArray, List.set_cons_zero, List.set_cons_succ])
    refine wpAnyH_take (i := 5) (oi := ⟨some 142, _, _, _, _, _⟩) (v := ?qhv5) rfl (by kernel_rfl) (by kernel_rfl) (by kernel_rfl) (fun _ _ _ h => h) (Or.inl ⟨by rfl, ?qhhy5⟩) hHeld ?qhr5
    case qhhy5 => (intro w hSw; (try dsimp only at hSw); go_simp; (try with_reducible rfl))
    (try simp only [Act.put, List.setIfInBounds_toArray, List.set_cons_zero, List.set_cons_succ])
    refine wpAnyH_take (i := 6) (oi := ⟨some 143, _, _, _, _, _⟩) (v := ?qhv6) rfl (by kernel_rfl) (by kernel_rfl) (by kernel_rfl) (fun _ _ _ h => h) (Or.inl ⟨by rfl, ?qhhy6⟩) hHeld ?qhr6
    case qhhy6 => (intro w hSw; (try dsimp only at hSw); go_simp; (try with_reducible rfl))
    (try simp only [Act.put, List.setIfInBounds_toArray, List.set_cons_zero, List.set_cons_succ])
    refine wpAnyH_ready (rs := [7]) (by kernel_rfl) (by simp) ?qhc7
    refine AllReadyH.cons (o := ⟨none, _, _, _, _, _⟩) rfl (fun K hK => ?qhst7) AllReadyH.nil
    (rw [if_pos (by rfl)]; refine wp_kn_storeW KN 35 _ _ rfl _ rfl _ rfl _ _ (by repeat (first | exact Repl.here | apply Repl.there)) (by kernel_rfl) (by kernel_rfl) (by kernel_rfl) ?_; clear KN; intro wx KN)
    refine hK.out _ _ ?qhk7 (fun hHeld2 => ?qhm7)
    case qhk7 => exact KN.at_ (by repeat (first | exact Has.here | refine Has.there ?_))
    clear hK K hHeld
    have hHeld := hHeld2; clear hHeld2
    (try simp only [Act.put, List.setIfInBounds_toArray, List.set_cons_zero, List.set_cons_succ])
    refine wpAnyH_take (i := 8) (oi := ⟨some 16, _, _, _, _, _⟩) (v := ?qhv8) rfl (by kernel_rfl) (by kernel_rfl) (by kernel_rfl) (fun _ _ _ h => h) (Or.inl ⟨by rfl, ?qhhy8⟩) hHeld ?qhr8
    case qhhy8 => (intro w hSw; (try dsimp only at hSw); go_simp; (try with_reducible rfl))
    (try simp only [Act.put, List.setIfInBounds_toArray, List.set_cons_zero, List.set_cons_succ])
    refine wpAnyH_done (by kernel_rfl) ?qhdone _
    clear hHeld
    go_wp2_with (first | (go_at_call 22; refine (RFinish_any v _ xs _ HT.out (HX.out.below KN.toBelow)).mono ?_; rintro e wx ⟨rfl, hb1⟩; replace KN := KN.below hb1; clear hb1; rw [← HR4.out]; unfold pairVal) | (go_at_call 19; refine (Fault_any v _ HT.out).mono ?_; rintro e wx ⟨rfl, hb1⟩; replace KN := KN.below hb1; clear hb1; rw [← HR5.out]; unfold pairVal) | (go_at_call 20; refine (RFault_any v _ HT.out).mono ?_; rintro e wx ⟨rfl, hb1⟩; replace KN := KN.below hb1; clear hb1; rw [← HR5.out]; unfold pairVal) | (go_at_call 9; refine (awake_any _).mono ?_; rintro e wx ⟨rfl, hb1⟩; replace KN := KN.below hb1; clear hb1) | ((with_reducible refine wpList_gate ?_); first | ((refine gate_load (by rfl) ?_); first | (refine wpList_kn_loadW KN (by rfl) 35 _ rfl _ rfl _ _ (by repeat (first | exact Has.here | refine Has.there ?_)) _ Try.underlying35 rfl (by kernel_rfl) ?_) | (refine wpList_kn_loadW KN (by rfl) 33 _ rfl _ rfl _ _ (by repeat (first | exact Has.here | refine Has.there ?_)) _ Try.underlying33 rfl (by kernel_rfl) ?_)) | ((refine gate_store (by rfl) ?_); first | (refine wpList_kn_storeW KN (by rfl) 35 _ _ rfl _ rfl _ rfl _ _ (by repeat (first | exact Repl.here | apply Repl.there)) (by kernel_rfl) (by kernel_rfl) (by kernel_rfl) ?_; clear KN; intro wx KN) | (refine wpList_kn_storeA KN (by rfl) 35 _ _ rfl _ _ rfl _ rfl _ _ (by repeat (first | exact Repl.here | apply Repl.there)) (by (try simp only [Array.size_setIfInBounds, putL_size]); first | exact Nat.le_of_ble_eq_true rfl | (simp; omega)) (by kernel_rfl) (by kernel_rfl) ?_; clear KN; intro wx KN) | (refine wpList_kn_storeW KN (by rfl) 33 _ _ rfl _ rfl _ rfl _ _ (by repeat (first | exact Repl.here | apply Repl.there)) (by kernel_rfl) (by kernel_rfl) (by kernel_rfl) ?_; clear KN; intro wx KN) | (refine wpList_kn_storeA KN (by rfl) 33 _ _ rfl _ _ rfl _ rfl _ _ (by repeat (first | exact Repl.here | apply Repl.there)) (by (try simp only [Array.size_setIfInBounds, putL_size]); first | exact Nat.le_of_ble_eq_true rfl | (simp; omega)) (by kernel_rfl) (by kernel_rfl) ?_; clear KN; intro wx KN)) | ((refine gate_new (by rfl) ?_); first | (refine wpList_kn_boxA KN (by rfl) 35 _ rfl 7 rfl _ rfl ?_; clear KN; intro g7 wx hg7 KN) | (refine wpList_kn_alloc KN (by rfl) 35 rfl 15 rfl Vm.zero.cells (by kernel_rfl) ?_; clear KN; intro g15 wx hg15 KN) | (refine wpList_kn_alloc KN (by rfl) 35 rfl 17 rfl Vm.zero.cells (by kernel_rfl) ?_; clear KN; intro g17 wx hg17 KN) | (refine wpList_kn_alloc KN (by rfl) 33 rfl 19 rfl Eff.none.cells (by kernel_rfl) ?_; clear KN; intro g19 wx hg19 KN) | (refine wpList_kn_alloc KN (by rfl) 33 rfl 20 rfl Eff.none.cells (by kernel_rfl) ?_; clear KN; intro g20 wx hg20 KN)) | ((refine gate_cmp (by rfl) ?_); first | (refine wpList_kn_neq (by rfl) 35 _ _ _ rfl _ rfl rfl (by kernel_rfl) (by kernel_rfl) ?_) | (refine wpList_kn_eql (by rfl) 35 _ _ _ rfl _ rfl rfl (by kernel_rfl) (by kernel_rfl) ?_))))
    go_ret
    exact ⟨rfl, KN.toBelow⟩
theorem exact_any (v : Vm) (va vv : Value) (p : List Ins) (xs : List Int) (n wd en word : Int) (w : World) (ht : v.typed) (hp : Instrs w va p) (hx : U64s w vv xs) (w0 : 0 ≤ word) (w1 : word ≤ 18446744073709551615) :
    Calls Try.prog 8 #[.agg v.cells, va, .int .i64 n, vv, .int .i64 wd, .int .i64 en, .int .u64 word] w fun e w' => e = .returned (.bool true) ∧ Below w.heap.size w w' := by
  by_cases h1 : 60 < p.length
  · exact exact_far v va vv p xs n wd en word w hp hx (.inl h1)
  by_cases h2 : 10 < xs.length
  · exact exact_far v va vv p xs n wd en word w hp hx (.inr (.inl ⟨by omega, h2⟩))
  by_cases h3 : 300 < n
  · exact exact_far v va vv p xs n wd en word w hp hx (.inr (.inr ⟨by omega, by omega, h3⟩))
  · exact exact_near v va vv p xs n wd en word w ht hp hx w0 w1 (by omega) (by omega) (by omega)
end Go.Proofs.Ytbllialcfmpkaaa
