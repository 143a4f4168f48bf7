/- VmRun, with what it needs beside. -/
import Derived.Test.YtbllialcfmpkaaaNextK
import Derived.Test.YtbllialcfmpkaaaMachK
import Derived.Test.YtbllialcfmpkaaaAwakeVm
import Derived.Test.YtbllialcfmpkaaaProgK
set_option linter.unusedVariables false
set_option linter.unusedSimpArgs false
set_option linter.unusedSectionVars false
namespace Go.Proofs.Ytbllialcfmpkaaa
open Go Go.RowKit


theorem Ints.form {w : World} {v : Value} {zs : List Int} (h : Ints w v zs) : ∃ a c, v = .slice a zs.length c ∧ zs.length ≤ maxLen := by
  have hm := h.1.1
  simp only [List.length_map] at hm
  rcases h.1.2 with ⟨hL, a, c, rfl⟩ | ⟨g, off, cap, rfl, _⟩
  · have : zs = [] := by simpa using hL
    subst this
    exact ⟨a, c, rfl, by simp⟩
  · exact ⟨_, cap, by rw [List.length_map], hm⟩
theorem ent_app (x : Nat × (Obj → Prop)) (l : Ents) : [x] ++ l = x :: l := rfl



structure RunFacts (p : List Ins) (v : Vm) (N K : Nat) (a : Vm) (x : Nat) (e : Eff) (c : Vm) (y : Nat) (f : Eff) : Prop where
  r1 : runRes v p N = (a, x, e, 0)
  r2 : runRes v p (N + K : Nat) = (c, y, f, 0)
  x1 : 1 ≤ x
  xN : x ≤ N
  yN : y ≤ N + K
  xy : x ≤ y
  st : (stAt p v x).1 = a
  ef : (stAt p v x).2 = e
  mid : ∀ k, 1 ≤ k → k < x → (stAt p v k).2.kind = 0
theorem runF_kind0 (p : List Ins) {n : Nat} (a : Vm) {e e' : Eff} (h : e.kind = 0) (h' : e'.kind = 0) (hn : 1 ≤ n) : runF p n (a, e) = runF p n (a, e') := by
  obtain ⟨m, rfl⟩ : ∃ m, n = m + 1 := ⟨n - 1, by omega⟩
  rw [runF_go (s := (a, e)) h, runF_go (s := (a, e')) h']
theorem checkE_run {v : Vm} {p : List Ins} (h : VG v) (hs : v.state = 0) (hp : progErr p = 0) {N : Nat} (h0 : 1 ≤ N) (h1 : N ≤ 1000000) : checkE v p (betw N) = 0 := by
  have : betw N = 0 := by unfold betw; rw [if_neg (by omega)]
  rw [this]; exact h.check hs hp
theorem run_facts {p : List Ins} {v : Vm} (h : VG v) (hs : v.state = 0) (hp : progErr p = 0) (hf : ∀ x ∈ p, x.fits) {N K : Nat} (n0 : 1 ≤ N) (n1 : N ≤ 40) (k0 : 1 ≤ K) (k1 : K ≤ 40) :
    ∃ a x e c y f, RunFacts p v N K a x e c y f ∧ ((¬ e.kind = 0 ∧ c = a ∧ y = x ∧ f = e) ∨ (e.kind = 0 ∧ x = N ∧ VG a ∧ ∃ z, runRes a p K = (c, z, f, 0) ∧ y = N + z ∧ z ≤ K)) := by
  have gp := progErr_good hp hf
  have e1 := runRes_ok (checkE_run h hs hp n0 (by omega))
  have e2 := runRes_ok (checkE_run h hs hp (N := N + K) (by omega) (by omega))
  rw [Int.toNat_natCast] at e1 e2
  obtain ⟨q1, q2, q3, q4⟩ := runF_stAt p N v Eff.none rfl n0
  have q5 := runF_count p N (v, Eff.none)
  have q6 := runF_count p (N + K) (v, Eff.none)
  by_cases hk : (runF p N (v, Eff.none)).2.2.kind = 0
  · obtain ⟨s1, s2⟩ := runF_add p N K (v, Eff.none) hk
    obtain ⟨va, sa⟩ := h.runAt hs gp N (fun j j1 j2 => by
      by_cases hj : j = N
      · subst hj; rw [← s2, ← q2]; exact hk
      · exact q4 j j1 (by rw [s2]; omega))
    have va' : VG (runF p N (v, Eff.none)).1 := by rw [q1, s2]; exact va
    have sa' : (runF p N (v, Eff.none)).1.state = 0 := by rw [q1, s2]; exact sa
    have e3 := runRes_ok (checkE_run va' sa' hp k0 (by omega : K ≤ 1000000))
    rw [Int.toNat_natCast, runF_kind0 p _ (show Eff.none.kind = 0 from rfl) hk k0] at e3
    have q7 := runF_count p K ((runF p N (v, Eff.none)).1, (runF p N (v, Eff.none)).2.2)
    refine ⟨_, _, _, _, _, _, ⟨e1, e2, q3, q5, q6, ?_, q1.symm, q2.symm, q4⟩, .inr ⟨hk, s2, va', _, ?_, ?_, q7⟩⟩
    · rw [s1, s2]; exact Nat.le_add_right _ _
    · rw [e3, s1]
    · rw [s1]
  · have s1 := runF_end p N K (v, Eff.none) hk
    refine ⟨_, _, _, _, _, _, ⟨e1, e2, q3, q5, q6, ?_, q1.symm, q2.symm, q4⟩, .inl ⟨hk, by rw [s1], by rw [s1], by rw [s1]⟩⟩
    rw [s1]; exact Nat.le_refl _
theorem RunFacts.vg {p : List Ins} {v : Vm} {N K : Nat} {a : Vm} {x : Nat} {e : Eff} {c : Vm} {y : Nat} {f : Eff} (F : RunFacts p v N K a x e c y f) (h : VG v) (hs : v.state = 0) (hp : Good p) {s : Nat} (hl : s < x) :
    VG (stAt p v s).1 ∧ (stAt p v s).1.state = 0 := h.runAt hs hp s (fun j j1 j2 => F.mid j j1 (by omega))
theorem Instrs.of_kn {M : List Nat} {W w : World} {l : Ents} (KN : Kn M W w l) {g cap : Nat} {p : List Ins} (m : Has l g (CapAt 29 5 cap (p.map fun x => x.cells.toList))) (h1 : p.length ≤ cap) (h2 : cap ≤ maxLen) (hf : ∀ x ∈ p, x.fits) :
    Instrs w (.slice (some ⟨g, 0, none⟩) p.length cap) p := by
  refine ⟨?_, hf⟩
  have hl : ∀ c ∈ p.map (fun x => x.cells.toList), c.length = 5 := by intro c hc; obtain ⟨x, _, rfl⟩ := List.mem_map.1 hc; rfl
  have := OwnT.blk (e := 29) (sz := 5) (g := g) (cap := cap) (L := p.map fun x => x.cells.toList) (by simpa using h1) h2 hl
  have hr := this.row (f := fun o => o) (M := M) (W := W) (w := w) (KN.onlyK m) .id
  simpa using hr
theorem stepRes_at {p : List Ins} {v : Vm} {s : Nat} (h : VG (stAt p v s).1) (hs : (stAt p v s).1.state = 0) (hp : progErr p = 0) : stepRes (stAt p v s).1 p = ((stAt p v (s + 1)).1, (stAt p v (s + 1)).2, 0) :=
  stepRes_ok (h.check hs hp)



set_option maxRecDepth 100000 in
set_option maxHeartbeats 4000000 in
theorem run_far (va vb vr : Value) (zs ys xs : List Int) (n m : Int) (w : World) (hz : Ints w va zs) (hy : Ints w vb ys) (hx : U64s w vr xs) (h : 100 < zs.length ∨ (zs.length ≤ 100 ∧ 200 < ys.length) ∨ (zs.length ≤ 100 ∧ ys.length ≤ 200 ∧ 20 < xs.length)) :
    Calls Try.prog 5 #[va, vb, vr, .int .i64 n, .int .i64 m] w fun e w' => e = .returned (.bool true) ∧ Below w.heap.size w w' := by
  have KN := Kn.start w
  obtain ⟨a1, c1, rfl, -⟩ := hz.form
  obtain ⟨a2, c2, rfl, -⟩ := hy.form
  obtain ⟨a3, c3, rfl, -⟩ := hx.form
  clear hz hy hx
  rcases h with h | ⟨h1, h2⟩ | ⟨h1, h2, h3⟩
  all_goals
    go_enter Try.func5, Try.ntmps5
    go_wp2_with (first | (go_at_call 9; refine (awake_any _).mono ?_; rintro e wx ⟨rfl, hb1⟩; replace KN := KN.below hb1; clear hb1) | ((with_reducible refine wpList_gate ?_); first | ((refine gate_load (by rfl) ?_); first | (refine wpList_kn_loadW KN (by rfl) 35 _ rfl _ rfl _ _ (by repeat (first | exact Has.here | refine Has.there ?_)) _ Try.underlying35 rfl (by kernel_rfl) ?_) | (refine wpList_kn_load1 KN (by rfl) 3 _ rfl _ _ rfl _ _ (by repeat (first | exact Has.here | refine Has.there ?_)) _ (by (repeat (first | ((with_reducible refine get_hit ?_); exact Nat.le_of_ble_eq_true (by kernel_rfl)) | ((with_reducible refine (get_miss ?_).trans ?_); (focus kernel_rfl)) | ((with_reducible refine (get_pmiss ?_).trans ?_); (focus kernel_rfl)))); all_goals (conv => lhs; whnf; arg 1; whnf)) _ Try.underlying3 rfl ?_) | (refine wpList_kn_loadW KN (by rfl) 33 _ rfl _ rfl _ _ (by repeat (first | exact Has.here | refine Has.there ?_)) _ Try.underlying33 rfl (by kernel_rfl) ?_)) | ((refine gate_store (by rfl) ?_); first | (refine wpList_kn_storeW KN (by rfl) 35 _ _ rfl _ rfl _ rfl _ _ (by repeat (first | exact Repl.here | apply Repl.there)) (by kernel_rfl) (by kernel_rfl) (by kernel_rfl) ?_; clear KN; intro wx KN) | (refine wpList_kn_storeA KN (by rfl) 35 _ _ rfl _ _ rfl _ rfl _ _ (by repeat (first | exact Repl.here | apply Repl.there)) (by (try simp only [Array.size_setIfInBounds, putL_size]); first | exact Nat.le_of_ble_eq_true rfl | (simp; omega)) (by kernel_rfl) (by kernel_rfl) ?_; clear KN; intro wx KN) | (refine wpList_kn_storeW KN (by rfl) 33 _ _ rfl _ rfl _ rfl _ _ (by repeat (first | exact Repl.here | apply Repl.there)) (by kernel_rfl) (by kernel_rfl) (by kernel_rfl) ?_; clear KN; intro wx KN) | (refine wpList_kn_storeA KN (by rfl) 33 _ _ rfl _ _ rfl _ rfl _ _ (by repeat (first | exact Repl.here | apply Repl.there)) (by (try simp only [Array.size_setIfInBounds, putL_size]); first | exact Nat.le_of_ble_eq_true rfl | (simp; omega)) (by kernel_rfl) (by kernel_rfl) ?_; clear KN; intro wx KN)) | ((refine gate_new (by rfl) ?_); first | (refine wpList_kn_alloc KN (by rfl) 35 rfl 12 rfl Vm.zero.cells (by kernel_rfl) ?_; clear KN; intro g12 wx hg12 KN) | (refine wpList_kn_alloc KN (by rfl) 35 rfl 15 rfl Vm.zero.cells (by kernel_rfl) ?_; clear KN; intro g15 wx hg15 KN) | (refine wpList_kn_alloc KN (by rfl) 33 rfl 17 rfl Eff.none.cells (by kernel_rfl) ?_; clear KN; intro g17 wx hg17 KN) | (refine wpList_kn_alloc KN (by rfl) 35 rfl 19 rfl Vm.zero.cells (by kernel_rfl) ?_; clear KN; intro g19 wx hg19 KN) | (refine wpList_kn_alloc KN (by rfl) 33 rfl 21 rfl Eff.none.cells (by kernel_rfl) ?_; clear KN; intro g21 wx hg21 KN) | (refine wpList_kn_alloc KN (by rfl) 35 rfl 23 rfl Vm.zero.cells (by kernel_rfl) ?_; clear KN; intro g23 wx hg23 KN) | (refine wpList_kn_alloc KN (by rfl) 35 rfl 25 rfl Vm.zero.cells (by kernel_rfl) ?_; clear KN; intro g25 wx hg25 KN) | (refine wpList_kn_alloc KN (by rfl) 33 rfl 26 rfl Eff.none.cells (by kernel_rfl) ?_; clear KN; intro g26 wx hg26 KN) | (refine wpList_kn_alloc KN (by rfl) 35 rfl 28 rfl Vm.zero.cells (by kernel_rfl) ?_; clear KN; intro g28 wx hg28 KN) | (refine wpList_kn_alloc KN (by rfl) 33 rfl 30 rfl Eff.none.cells (by kernel_rfl) ?_; clear KN; intro g30 wx hg30 KN))))
    go_ret
    exact ⟨rfl, KN.toBelow⟩
def RunRelL (p : List Ins) (v : Vm) (x : Nat) (l : Ents) (w : World) (g23 : Nat) (i : Value) (wr : World) : Prop :=
  ∃ s : Nat, i = .int .i64 (s : Int) ∧ s ≤ x ∧ Kn [] w wr ((g23, At (stAt p v s).1.cells 35) :: l)
set_option maxRecDepth 100000 in
set_option maxHeartbeats 40000000 in
theorem run_near (va vb vr : Value) (zs ys xs : List Int) (n m : Int) (w : World) (hz : Ints w va zs) (hy : Ints w vb ys) (hx : U64s w vr xs) (h1 : zs.length ≤ 100) (h2 : ys.length ≤ 200) (h3 : xs.length ≤ 20) (n0 : -9223372036854775808 ≤ n) (n1 : n ≤ 9223372036854775807) (m0 : -9223372036854775808 ≤ m) (m1 : m ≤ 9223372036854775807) :
    Calls Try.prog 5 #[va, vb, vr, .int .i64 n, .int .i64 m] w fun e w' => e = .returned (.bool true) ∧ Below w.heap.size w w' := by
  have KN := Kn.start w
  obtain ⟨a1, c1, rfl, -⟩ := hz.form
  obtain ⟨a2, c2, rfl, -⟩ := hy.form
  obtain ⟨a3, c3, rfl, -⟩ := hx.form
  have HZ := Lib.hid hz
  have HY := Lib.hid hy
  have HX := Lib.hid hx
  obtain ⟨N, hN⟩ : ∃ N : Nat, n % 40 = N := ⟨(n % 40).toNat, by omega⟩
  obtain ⟨K, hK⟩ : ∃ K : Nat, m % 40 = K := ⟨(m % 40).toNat, by omega⟩
  have N40 : N < 40 := by omega
  have K40 : K < 40 := by omega
  have HN := Lib.hid hN
  have HK := Lib.hid hK
  clear hz hy hx hN hK
  go_enter Try.func5, Try.ntmps5
  go_upto_region 5 with (first | (go_at_call 10; refine (Program_any _ _ _ HY.out).mono ?_; rintro e wx ⟨gp, cap, p, rfl, q1, q2, q3, q4, q5, q6, K2⟩; replace KN := KN.call0 K2; clear K2; rw [ent_app] at KN) | (go_at_call 15; refine (Machine_any _ _ _ _ _ _ (HZ.out.below KN.toBelow) (HX.out.below KN.toBelow) (by omega) (by omega)).mono ?_; rintro e wx ⟨v, rfl, v1, v2, v3, hb1⟩; replace KN := KN.below hb1; clear hb1) | ((with_reducible refine wpList_gate ?_); first | ((refine gate_load (by rfl) ?_); first | (refine wpList_kn_loadW KN (by rfl) 35 _ rfl _ rfl _ _ (by repeat (first | exact Has.here | refine Has.there ?_)) _ Try.underlying35 rfl (by kernel_rfl) ?_) | (refine wpList_kn_load1 KN (by rfl) 3 _ rfl _ _ rfl _ _ (by repeat (first | exact Has.here | refine Has.there ?_)) _ (by (repeat (first | ((with_reducible refine get_hit ?_); exact Nat.le_of_ble_eq_true (by kernel_rfl)) | ((with_reducible refine (get_miss ?_).trans ?_); (focus kernel_rfl)) | ((with_reducible refine (get_pmiss ?_).trans ?_); (focus kernel_rfl)))); all_goals (conv => lhs; whnf; arg 1; whnf)) _ Try.underlying3 rfl ?_) | (refine wpList_kn_loadW KN (by rfl) 33 _ rfl _ rfl _ _ (by repeat (first | exact Has.here | refine Has.there ?_)) _ Try.underlying33 rfl (by kernel_rfl) ?_)) | ((refine gate_store (by rfl) ?_); first | (refine wpList_kn_storeW KN (by rfl) 35 _ _ rfl _ rfl _ rfl _ _ (by repeat (first | exact Repl.here | apply Repl.there)) (by kernel_rfl) (by kernel_rfl) (by kernel_rfl) ?_; clear KN; intro wx KN) | (refine wpList_kn_storeA KN (by rfl) 35 _ _ rfl _ _ rfl _ rfl _ _ (by repeat (first | exact Repl.here | apply Repl.there)) (by (try simp only [Array.size_setIfInBounds, putL_size]); first | exact Nat.le_of_ble_eq_true rfl | (simp; omega)) (by kernel_rfl) (by kernel_rfl) ?_; clear KN; intro wx KN) | (refine wpList_kn_storeW KN (by rfl) 33 _ _ rfl _ rfl _ rfl _ _ (by repeat (first | exact Repl.here | apply Repl.there)) (by kernel_rfl) (by kernel_rfl) (by kernel_rfl) ?_; clear KN; intro wx KN) | (refine wpList_kn_storeA KN (by rfl) 33 _ _ rfl _ _ rfl _ rfl _ _ (by repeat (first | exact Repl.here | apply Repl.there)) (by (try simp only [Array.size_setIfInBounds, putL_size]); first | exact Nat.le_of_ble_eq_true rfl | (simp; omega)) (by kernel_rfl) (by kernel_rfl) ?_; clear KN; intro wx KN)) | ((refine gate_new (by rfl) ?_); first | (refine wpList_kn_alloc KN (by rfl) 35 rfl 12 rfl Vm.zero.cells (by kernel_rfl) ?_; clear KN; intro g12 wx hg12 KN) | (refine wpList_kn_alloc KN (by rfl) 35 rfl 15 rfl Vm.zero.cells (by kernel_rfl) ?_; clear KN; intro g15 wx hg15 KN) | (refine wpList_kn_alloc KN (by rfl) 33 rfl 17 rfl Eff.none.cells (by kernel_rfl) ?_; clear KN; intro g17 wx hg17 KN) | (refine wpList_kn_alloc KN (by rfl) 35 rfl 19 rfl Vm.zero.cells (by kernel_rfl) ?_; clear KN; intro g19 wx hg19 KN) | (refine wpList_kn_alloc KN (by rfl) 33 rfl 21 rfl Eff.none.cells (by kernel_rfl) ?_; clear KN; intro g21 wx hg21 KN) | (refine wpList_kn_alloc KN (by rfl) 35 rfl 23 rfl Vm.zero.cells (by kernel_rfl) ?_; clear KN; intro g23 wx hg23 KN) | (refine wpList_kn_alloc KN (by rfl) 35 rfl 25 rfl Vm.zero.cells (by kernel_rfl) ?_; clear KN; intro g25 wx hg25 KN) | (refine wpList_kn_alloc KN (by rfl) 33 rfl 26 rfl Eff.none.cells (by kernel_rfl) ?_; clear KN; intro g26 wx hg26 KN) | (refine wpList_kn_alloc KN (by rfl) 35 rfl 28 rfl Vm.zero.cells (by kernel_rfl) ?_; clear KN; intro g28 wx hg28 KN) | (refine wpList_kn_alloc KN (by rfl) 33 rfl 30 rfl Eff.none.cells (by kernel_rfl) ?_; clear KN; intro g30 wx hg30 KN))))
  obtain ⟨a, x, e, c, y, f, F, hcase⟩ := run_facts v1 v2 q5 q6 (N := N + 1) (K := K + 1) (by omega) (by omega) (by omega) (by omega)
  have F1 : runRes v p (1 + (N : Int)) = (a, x, e, 0) := by rw [← F.r1]; congr 1; omega
  have F2 : runRes v p (1 + (N : Int) + (1 + (K : Int))) = (c, y, f, 0) := by rw [← F.r2]; congr 1; omega
  have x1 := F.x1
  have xN := F.xN
  have yN := F.yN
  have xy := F.xy
  have GP := Lib.hid (progErr_good q5 q6)
  have V1 := Lib.hid v1
  have V2 := Lib.hid v2
  have Q1 := Lib.hid q1
  have Q2 := Lib.hid q2
  have Q5 := Lib.hid q5
  have Q6 := Lib.hid q6
  have R1 := Lib.hid F1
  have R2 := Lib.hid F2
  have FF := Lib.hid F
  have d1 : decide ((x : Int) < 1) = false := by simp; omega
  have d2 : decide (1 + (N : Int) < (x : Int)) = false := by simp; omega
  have d3 : decide (1 + (N : Int) + (1 + (K : Int)) < (y : Int)) = false := by simp; omega
  have d4 : decide ((y : Int) < (x : Int)) = false := by simp; omega
  clear F1 F2 F v1 v2 v3 q1 q2 q5 q6
  rcases hcase with ⟨ek, hca, hyx, hfe⟩ | ⟨ek, hxN, va', z, hr3, hyz, hzK⟩
  · obtain rfl := hca.symm
    obtain rfl := hyx.symm
    obtain rfl := hfe.symm
    clear hca hyx hfe
    have ek1 : (e.kind != 0) = true := by rw [bne_iff_ne]; exact ek
    have VA := V1
    have R3 := R1
    have EK := Lib.hid ek
    clear ek
    go_wp2_with (first | (go_at_call 12; refine (Place_any _ _ _ (by omega) (by omega) (by decide) (by decide)).mono ?_; rintro e wx ⟨rfl, rfl⟩; first | rw [HN.out] | rw [HK.out]) | (go_at_call 16; refine (Run_any _ _ p _ _ (by first | exact V1.out.typed | exact VA.out.typed) (Instrs.of_kn KN (by repeat (first | exact Has.here | refine Has.there ?_)) Q1.out Q2.out Q6.out)).mono ?_; rintro e wx ⟨rfl, hb1⟩; replace KN := KN.below hb1; clear hb1; (first | rw [R1.out] | rw [R2.out] | rw [R3.out]); unfold runVal) | ((with_reducible refine wpList_gate ?_); first | ((refine gate_load (by rfl) ?_); first | (refine wpList_kn_loadW KN (by rfl) 35 _ rfl _ rfl _ _ (by repeat (first | exact Has.here | refine Has.there ?_)) _ Try.underlying35 rfl (by kernel_rfl) ?_) | (refine wpList_kn_load1 KN (by rfl) 3 _ rfl _ _ rfl _ _ (by repeat (first | exact Has.here | refine Has.there ?_)) _ (by (repeat (first | ((with_reducible refine get_hit ?_); exact Nat.le_of_ble_eq_true (by kernel_rfl)) | ((with_reducible refine (get_miss ?_).trans ?_); (focus kernel_rfl)) | ((with_reducible refine (get_pmiss ?_).trans ?_); (focus kernel_rfl)))); all_goals (conv => lhs; whnf; arg 1; whnf)) _ Try.underlying3 rfl ?_) | (refine wpList_kn_loadW KN (by rfl) 33 _ rfl _ rfl _ _ (by repeat (first | exact Has.here | refine Has.there ?_)) _ Try.underlying33 rfl (by kernel_rfl) ?_)) | ((refine gate_store (by rfl) ?_); first | (refine wpList_kn_storeW KN (by rfl) 35 _ _ rfl _ rfl _ rfl _ _ (by repeat (first | exact Repl.here | apply Repl.there)) (by kernel_rfl) (by kernel_rfl) (by kernel_rfl) ?_; clear KN; intro wx KN) | (refine wpList_kn_storeA KN (by rfl) 35 _ _ rfl _ _ rfl _ rfl _ _ (by repeat (first | exact Repl.here | apply Repl.there)) (by (try simp only [Array.size_setIfInBounds, putL_size]); first | exact Nat.le_of_ble_eq_true rfl | (simp; omega)) (by kernel_rfl) (by kernel_rfl) ?_; clear KN; intro wx KN) | (refine wpList_kn_storeW KN (by rfl) 33 _ _ rfl _ rfl _ rfl _ _ (by repeat (first | exact Repl.here | apply Repl.there)) (by kernel_rfl) (by kernel_rfl) (by kernel_rfl) ?_; clear KN; intro wx KN) | (refine wpList_kn_storeA KN (by rfl) 33 _ _ rfl _ _ rfl _ rfl _ _ (by repeat (first | exact Repl.here | apply Repl.there)) (by (try simp only [Array.size_setIfInBounds, putL_size]); first | exact Nat.le_of_ble_eq_true rfl | (simp; omega)) (by kernel_rfl) (by kernel_rfl) ?_; clear KN; intro wx KN)) | ((refine gate_new (by rfl) ?_); first | (refine wpList_kn_alloc KN (by rfl) 35 rfl 12 rfl Vm.zero.cells (by kernel_rfl) ?_; clear KN; intro g12 wx hg12 KN) | (refine wpList_kn_alloc KN (by rfl) 35 rfl 15 rfl Vm.zero.cells (by kernel_rfl) ?_; clear KN; intro g15 wx hg15 KN) | (refine wpList_kn_alloc KN (by rfl) 33 rfl 17 rfl Eff.none.cells (by kernel_rfl) ?_; clear KN; intro g17 wx hg17 KN) | (refine wpList_kn_alloc KN (by rfl) 35 rfl 19 rfl Vm.zero.cells (by kernel_rfl) ?_; clear KN; intro g19 wx hg19 KN) | (refine wpList_kn_alloc KN (by rfl) 33 rfl 21 rfl Eff.none.cells (by kernel_rfl) ?_; clear KN; intro g21 wx hg21 KN) | (refine wpList_kn_alloc KN (by rfl) 35 rfl 23 rfl Vm.zero.cells (by kernel_rfl) ?_; clear KN; intro g23 wx hg23 KN) | (refine wpList_kn_alloc KN (by rfl) 35 rfl 25 rfl Vm.zero.cells (by kernel_rfl) ?_; clear KN; intro g25 wx hg25 KN) | (refine wpList_kn_alloc KN (by rfl) 33 rfl 26 rfl Eff.none.cells (by kernel_rfl) ?_; clear KN; intro g26 wx hg26 KN) | (refine wpList_kn_alloc KN (by rfl) 35 rfl 28 rfl Vm.zero.cells (by kernel_rfl) ?_; clear KN; intro g28 wx hg28 KN) | (refine wpList_kn_alloc KN (by rfl) 33 rfl 30 rfl Eff.none.cells (by kernel_rfl) ?_; clear KN; intro g30 wx hg30 KN))))
    have HREL : Hid (RunRelL p v x [(g21, At e.cells 33), (g19, At a.cells 35), (g17, At e.cells 33), (g15, At a.cells 35), (g12, At v.cells 35), (gp, CapAt 29 5 cap (p.map fun x => x.cells.toList))] w g23 (.int .i64 0) wx) := Lib.hid ⟨0, rfl, Nat.zero_le _, KN⟩
    clear KN
    go_loopw [24] (fun i wr => RunRelL p v x [(g21, At e.cells 33), (g19, At a.cells 35), (g17, At e.cells 33), (g15, At a.cells 35), (g12, At v.cells 35), (gp, CapAt 29 5 cap (p.map fun x => x.cells.toList))] w g23 i wr) (fun i _ => x - (intOf i).toNat)
    case atStart => exact HREL.out
    case round =>
      obtain ⟨s, rfl, hs, KN⟩ := hrel
      by_cases hlt : s < x
      · obtain ⟨vs, ss⟩ := FF.out.vg V1.out V2.out GP.out hlt
        have sr := stepRes_at vs ss Q5.out
        have hend : s + 1 = x → (stAt p v (s + 1)).2 = e := fun h => by rw [h]; exact FF.out.ef
        have hmid : s + 1 < x → (stAt p v (s + 1)).2.kind = 0 := fun h => FF.out.mid (s + 1) (by omega) h
        obtain ⟨u, hu⟩ : ∃ u, u = (stAt p v s).1 := ⟨_, rfl⟩
        obtain ⟨t, ht⟩ : ∃ t, t = (stAt p v (s + 1)).1 := ⟨_, rfl⟩
        obtain ⟨g, hg⟩ : ∃ g, g = (stAt p v (s + 1)).2 := ⟨_, rfl⟩
        rw [← hu] at vs KN
        rw [← hu, ← ht, ← hg] at sr
        rw [← hg] at hend hmid
        have VS := Lib.hid vs
        have SR := Lib.hid sr
        have HT := Lib.hid ht
        have hc : (s + 1 = x ∧ (g.kind != 0) = true ∧ ((s : Int) == (x : Int) - 1) = true) ∨ (s + 1 < x ∧ (g.kind != 0) = false ∧ ((s : Int) == (x : Int) - 1) = false) := by
          rcases Nat.lt_or_ge (s + 1) x with h | h
          · exact .inr ⟨h, by rw [bne_eq_false_iff_eq]; exact hmid h, by rw [beq_eq_false_iff_ne]; omega⟩
          · exact .inl ⟨by omega, by rw [hend (by omega)]; exact ek1, by rw [beq_iff_eq]; omega⟩
        clear hend hmid hu ht hg vs ss sr
        rcases hc with ⟨hx1, gk, sx⟩ | ⟨hx1, gk, sx⟩
        all_goals
          go_wp2_with (first | (go_at_call 13; refine (Step_any _ _ p _ VS.out.typed (Instrs.of_kn KN (by repeat (first | exact Has.here | refine Has.there ?_)) Q1.out Q2.out Q6.out)).mono ?_; rintro e wx ⟨rfl, hb1⟩; replace KN := KN.below hb1; clear hb1; rw [SR.out]; unfold stepVal) | ((with_reducible refine wpList_gate ?_); first | ((refine gate_load (by rfl) ?_); first | (refine wpList_kn_loadW KN (by rfl) 35 _ rfl _ rfl _ _ (by repeat (first | exact Has.here | refine Has.there ?_)) _ Try.underlying35 rfl (by kernel_rfl) ?_) | (refine wpList_kn_load1 KN (by rfl) 3 _ rfl _ _ rfl _ _ (by repeat (first | exact Has.here | refine Has.there ?_)) _ (by (repeat (first | ((with_reducible refine get_hit ?_); exact Nat.le_of_ble_eq_true (by kernel_rfl)) | ((with_reducible refine (get_miss ?_).trans ?_); (focus kernel_rfl)) | ((with_reducible refine (get_pmiss ?_).trans ?_); (focus kernel_rfl)))); all_goals (conv => lhs; whnf; arg 1; whnf)) _ Try.underlying3 rfl ?_) | (refine wpList_kn_loadW KN (by rfl) 33 _ rfl _ rfl _ _ (by repeat (first | exact Has.here | refine Has.there ?_)) _ Try.underlying33 rfl (by kernel_rfl) ?_)) | ((refine gate_store (by rfl) ?_); first | (refine wpList_kn_storeW KN (by rfl) 35 _ _ rfl _ rfl _ rfl _ _ (by repeat (first | exact Repl.here | apply Repl.there)) (by kernel_rfl) (by kernel_rfl) (by kernel_rfl) ?_; clear KN; intro wx KN) | (refine wpList_kn_storeA KN (by rfl) 35 _ _ rfl _ _ rfl _ rfl _ _ (by repeat (first | exact Repl.here | apply Repl.there)) (by (try simp only [Array.size_setIfInBounds, putL_size]); first | exact Nat.le_of_ble_eq_true rfl | (simp; omega)) (by kernel_rfl) (by kernel_rfl) ?_; clear KN; intro wx KN) | (refine wpList_kn_storeW KN (by rfl) 33 _ _ rfl _ rfl _ rfl _ _ (by repeat (first | exact Repl.here | apply Repl.there)) (by kernel_rfl) (by kernel_rfl) (by kernel_rfl) ?_; clear KN; intro wx KN) | (refine wpList_kn_storeA KN (by rfl) 33 _ _ rfl _ _ rfl _ rfl _ _ (by repeat (first | exact Repl.here | apply Repl.there)) (by (try simp only [Array.size_setIfInBounds, putL_size]); first | exact Nat.le_of_ble_eq_true rfl | (simp; omega)) (by kernel_rfl) (by kernel_rfl) ?_; clear KN; intro wx KN)) | ((refine gate_new (by rfl) ?_); first | (refine wpList_kn_alloc KN (by rfl) 35 rfl 12 rfl Vm.zero.cells (by kernel_rfl) ?_; clear KN; intro g12 wx hg12 KN) | (refine wpList_kn_alloc KN (by rfl) 35 rfl 15 rfl Vm.zero.cells (by kernel_rfl) ?_; clear KN; intro g15 wx hg15 KN) | (refine wpList_kn_alloc KN (by rfl) 33 rfl 17 rfl Eff.none.cells (by kernel_rfl) ?_; clear KN; intro g17 wx hg17 KN) | (refine wpList_kn_alloc KN (by rfl) 35 rfl 19 rfl Vm.zero.cells (by kernel_rfl) ?_; clear KN; intro g19 wx hg19 KN) | (refine wpList_kn_alloc KN (by rfl) 33 rfl 21 rfl Eff.none.cells (by kernel_rfl) ?_; clear KN; intro g21 wx hg21 KN) | (refine wpList_kn_alloc KN (by rfl) 35 rfl 23 rfl Vm.zero.cells (by kernel_rfl) ?_; clear KN; intro g23 wx hg23 KN) | (refine wpList_kn_alloc KN (by rfl) 35 rfl 25 rfl Vm.zero.cells (by kernel_rfl) ?_; clear KN; intro g25 wx hg25 KN) | (refine wpList_kn_alloc KN (by rfl) 33 rfl 26 rfl Eff.none.cells (by kernel_rfl) ?_; clear KN; intro g26 wx hg26 KN) | (refine wpList_kn_alloc KN (by rfl) 35 rfl 28 rfl Vm.zero.cells (by kernel_rfl) ?_; clear KN; intro g28 wx hg28 KN) | (refine wpList_kn_alloc KN (by rfl) 33 rfl 30 rfl Eff.none.cells (by kernel_rfl) ?_; clear KN; intro g30 wx hg30 KN))))
          go_roundw
          case rel => exact ⟨s + 1, by go_num, hlt, by rw [← HT.out]; exact (KN.drop .here).drop .here⟩
          case measure => simp [intOf]; omega
      · have hsx : s = x := by omega
        subst hsx
        rw [FF.out.st] at KN
        go_wp2_with (first | (go_at_call 12; refine (Place_any _ _ _ (by omega) (by omega) (by decide) (by decide)).mono ?_; rintro e wx ⟨rfl, rfl⟩; first | rw [HN.out] | rw [HK.out]) | (go_at_call 16; refine (Run_any _ _ p _ _ (by first | exact V1.out.typed | exact VA.out.typed) (Instrs.of_kn KN (by repeat (first | exact Has.here | refine Has.there ?_)) Q1.out Q2.out Q6.out)).mono ?_; rintro e wx ⟨rfl, hb1⟩; replace KN := KN.below hb1; clear hb1; (first | rw [R1.out] | rw [R2.out] | rw [R3.out]); unfold runVal) | (go_at_call 9; refine (awake_any _).mono ?_; rintro e wx ⟨rfl, hb1⟩; replace KN := KN.below hb1; clear hb1) | ((with_reducible refine wpList_gate ?_); first | ((refine gate_load (by rfl) ?_); first | (refine wpList_kn_loadW KN (by rfl) 35 _ rfl _ rfl _ _ (by repeat (first | exact Has.here | refine Has.there ?_)) _ Try.underlying35 rfl (by kernel_rfl) ?_) | (refine wpList_kn_load1 KN (by rfl) 3 _ rfl _ _ rfl _ _ (by repeat (first | exact Has.here | refine Has.there ?_)) _ (by (repeat (first | ((with_reducible refine get_hit ?_); exact Nat.le_of_ble_eq_true (by kernel_rfl)) | ((with_reducible refine (get_miss ?_).trans ?_); (focus kernel_rfl)) | ((with_reducible refine (get_pmiss ?_).trans ?_); (focus kernel_rfl)))); all_goals (conv => lhs; whnf; arg 1; whnf)) _ Try.underlying3 rfl ?_) | (refine wpList_kn_loadW KN (by rfl) 33 _ rfl _ rfl _ _ (by repeat (first | exact Has.here | refine Has.there ?_)) _ Try.underlying33 rfl (by kernel_rfl) ?_)) | ((refine gate_store (by rfl) ?_); first | (refine wpList_kn_storeW KN (by rfl) 35 _ _ rfl _ rfl _ rfl _ _ (by repeat (first | exact Repl.here | apply Repl.there)) (by kernel_rfl) (by kernel_rfl) (by kernel_rfl) ?_; clear KN; intro wx KN) | (refine wpList_kn_storeA KN (by rfl) 35 _ _ rfl _ _ rfl _ rfl _ _ (by repeat (first | exact Repl.here | apply Repl.there)) (by (try simp only [Array.size_setIfInBounds, putL_size]); first | exact Nat.le_of_ble_eq_true rfl | (simp; omega)) (by kernel_rfl) (by kernel_rfl) ?_; clear KN; intro wx KN) | (refine wpList_kn_storeW KN (by rfl) 33 _ _ rfl _ rfl _ rfl _ _ (by repeat (first | exact Repl.here | apply Repl.there)) (by kernel_rfl) (by kernel_rfl) (by kernel_rfl) ?_; clear KN; intro wx KN) | (refine wpList_kn_storeA KN (by rfl) 33 _ _ rfl _ _ rfl _ rfl _ _ (by repeat (first | exact Repl.here | apply Repl.there)) (by (try simp only [Array.size_setIfInBounds, putL_size]); first | exact Nat.le_of_ble_eq_true rfl | (simp; omega)) (by kernel_rfl) (by kernel_rfl) ?_; clear KN; intro wx KN)) | ((refine gate_new (by rfl) ?_); first | (refine wpList_kn_alloc KN (by rfl) 35 rfl 12 rfl Vm.zero.cells (by kernel_rfl) ?_; clear KN; intro g12 wx hg12 KN) | (refine wpList_kn_alloc KN (by rfl) 35 rfl 15 rfl Vm.zero.cells (by kernel_rfl) ?_; clear KN; intro g15 wx hg15 KN) | (refine wpList_kn_alloc KN (by rfl) 33 rfl 17 rfl Eff.none.cells (by kernel_rfl) ?_; clear KN; intro g17 wx hg17 KN) | (refine wpList_kn_alloc KN (by rfl) 35 rfl 19 rfl Vm.zero.cells (by kernel_rfl) ?_; clear KN; intro g19 wx hg19 KN) | (refine wpList_kn_alloc KN (by rfl) 33 rfl 21 rfl Eff.none.cells (by kernel_rfl) ?_; clear KN; intro g21 wx hg21 KN) | (refine wpList_kn_alloc KN (by rfl) 35 rfl 23 rfl Vm.zero.cells (by kernel_rfl) ?_; clear KN; intro g23 wx hg23 KN) | (refine wpList_kn_alloc KN (by rfl) 35 rfl 25 rfl Vm.zero.cells (by kernel_rfl) ?_; clear KN; intro g25 wx hg25 KN) | (refine wpList_kn_alloc KN (by rfl) 33 rfl 26 rfl Eff.none.cells (by kernel_rfl) ?_; clear KN; intro g26 wx hg26 KN) | (refine wpList_kn_alloc KN (by rfl) 35 rfl 28 rfl Vm.zero.cells (by kernel_rfl) ?_; clear KN; intro g28 wx hg28 KN) | (refine wpList_kn_alloc KN (by rfl) 33 rfl 30 rfl Eff.none.cells (by kernel_rfl) ?_; clear KN; intro g30 wx hg30 KN)) | ((refine gate_cmp (by rfl) ?_); first | (refine wpList_kn_eql (by rfl) 35 _ _ _ rfl _ rfl rfl (by kernel_rfl) (by kernel_rfl) ?_) | (refine wpList_kn_eql (by rfl) 33 _ _ _ rfl _ rfl rfl (by kernel_rfl) (by kernel_rfl) ?_) | (refine wpList_kn_neq (by rfl) 35 _ _ _ rfl _ rfl rfl (by kernel_rfl) (by kernel_rfl) ?_))))
        go_ret
        exact ⟨rfl, KN.toBelow⟩
  · have ek1 : (e.kind != 0) = false := by rw [bne_eq_false_iff_eq]; exact ek
    have VA := Lib.hid va'
    have R3 : Hid (runRes a p (1 + (K : Int)) = (c, z, f, 0)) := Lib.hid (by rw [← hr3]; congr 1; omega)
    have dx : ((x : Int) == 1 + (N : Int)) = true := by rw [beq_iff_eq]; omega
    have dz : ((x : Int) + (z : Int) == (y : Int)) = true := by rw [beq_iff_eq]; omega
    clear hr3 va'
    have EK := Lib.hid ek
    clear ek
    go_wp2_with (first | (go_at_call 12; refine (Place_any _ _ _ (by omega) (by omega) (by decide) (by decide)).mono ?_; rintro e wx ⟨rfl, rfl⟩; first | rw [HN.out] | rw [HK.out]) | (go_at_call 16; refine (Run_any _ _ p _ _ (by first | exact V1.out.typed | exact VA.out.typed) (Instrs.of_kn KN (by repeat (first | exact Has.here | refine Has.there ?_)) Q1.out Q2.out Q6.out)).mono ?_; rintro e wx ⟨rfl, hb1⟩; replace KN := KN.below hb1; clear hb1; (first | rw [R1.out] | rw [R2.out] | rw [R3.out]); unfold runVal) | ((with_reducible refine wpList_gate ?_); first | ((refine gate_load (by rfl) ?_); first | (refine wpList_kn_loadW KN (by rfl) 35 _ rfl _ rfl _ _ (by repeat (first | exact Has.here | refine Has.there ?_)) _ Try.underlying35 rfl (by kernel_rfl) ?_) | (refine wpList_kn_load1 KN (by rfl) 3 _ rfl _ _ rfl _ _ (by repeat (first | exact Has.here | refine Has.there ?_)) _ (by (repeat (first | ((with_reducible refine get_hit ?_); exact Nat.le_of_ble_eq_true (by kernel_rfl)) | ((with_reducible refine (get_miss ?_).trans ?_); (focus kernel_rfl)) | ((with_reducible refine (get_pmiss ?_).trans ?_); (focus kernel_rfl)))); all_goals (conv => lhs; whnf; arg 1; whnf)) _ Try.underlying3 rfl ?_) | (refine wpList_kn_loadW KN (by rfl) 33 _ rfl _ rfl _ _ (by repeat (first | exact Has.here | refine Has.there ?_)) _ Try.underlying33 rfl (by kernel_rfl) ?_)) | ((refine gate_store (by rfl) ?_); first | (refine wpList_kn_storeW KN (by rfl) 35 _ _ rfl _ rfl _ rfl _ _ (by repeat (first | exact Repl.here | apply Repl.there)) (by kernel_rfl) (by kernel_rfl) (by kernel_rfl) ?_; clear KN; intro wx KN) | (refine wpList_kn_storeA KN (by rfl) 35 _ _ rfl _ _ rfl _ rfl _ _ (by repeat (first | exact Repl.here | apply Repl.there)) (by (try simp only [Array.size_setIfInBounds, putL_size]); first | exact Nat.le_of_ble_eq_true rfl | (simp; omega)) (by kernel_rfl) (by kernel_rfl) ?_; clear KN; intro wx KN) | (refine wpList_kn_storeW KN (by rfl) 33 _ _ rfl _ rfl _ rfl _ _ (by repeat (first | exact Repl.here | apply Repl.there)) (by kernel_rfl) (by kernel_rfl) (by kernel_rfl) ?_; clear KN; intro wx KN) | (refine wpList_kn_storeA KN (by rfl) 33 _ _ rfl _ _ rfl _ rfl _ _ (by repeat (first | exact Repl.here | apply Repl.there)) (by (try simp only [Array.size_setIfInBounds, putL_size]); first | exact Nat.le_of_ble_eq_true rfl | (simp; omega)) (by kernel_rfl) (by kernel_rfl) ?_; clear KN; intro wx KN)) | ((refine gate_new (by rfl) ?_); first | (refine wpList_kn_alloc KN (by rfl) 35 rfl 12 rfl Vm.zero.cells (by kernel_rfl) ?_; clear KN; intro g12 wx hg12 KN) | (refine wpList_kn_alloc KN (by rfl) 35 rfl 15 rfl Vm.zero.cells (by kernel_rfl) ?_; clear KN; intro g15 wx hg15 KN) | (refine wpList_kn_alloc KN (by rfl) 33 rfl 17 rfl Eff.none.cells (by kernel_rfl) ?_; clear KN; intro g17 wx hg17 KN) | (refine wpList_kn_alloc KN (by rfl) 35 rfl 19 rfl Vm.zero.cells (by kernel_rfl) ?_; clear KN; intro g19 wx hg19 KN) | (refine wpList_kn_alloc KN (by rfl) 33 rfl 21 rfl Eff.none.cells (by kernel_rfl) ?_; clear KN; intro g21 wx hg21 KN) | (refine wpList_kn_alloc KN (by rfl) 35 rfl 23 rfl Vm.zero.cells (by kernel_rfl) ?_; clear KN; intro g23 wx hg23 KN) | (refine wpList_kn_alloc KN (by rfl) 35 rfl 25 rfl Vm.zero.cells (by kernel_rfl) ?_; clear KN; intro g25 wx hg25 KN) | (refine wpList_kn_alloc KN (by rfl) 33 rfl 26 rfl Eff.none.cells (by kernel_rfl) ?_; clear KN; intro g26 wx hg26 KN) | (refine wpList_kn_alloc KN (by rfl) 35 rfl 28 rfl Vm.zero.cells (by kernel_rfl) ?_; clear KN; intro g28 wx hg28 KN) | (refine wpList_kn_alloc KN (by rfl) 33 rfl 30 rfl Eff.none.cells (by kernel_rfl) ?_; clear KN; intro g30 wx hg30 KN))))
    have HREL : Hid (RunRelL p v x [(g21, At f.cells 33), (g19, At c.cells 35), (g17, At e.cells 33), (g15, At a.cells 35), (g12, At v.cells 35), (gp, CapAt 29 5 cap (p.map fun x => x.cells.toList))] w g23 (.int .i64 0) wx) := Lib.hid ⟨0, rfl, Nat.zero_le _, KN⟩
    clear KN
    go_loopw [24] (fun i wr => RunRelL p v x [(g21, At f.cells 33), (g19, At c.cells 35), (g17, At e.cells 33), (g15, At a.cells 35), (g12, At v.cells 35), (gp, CapAt 29 5 cap (p.map fun x => x.cells.toList))] w g23 i wr) (fun i _ => x - (intOf i).toNat)
    case atStart => exact HREL.out
    case round =>
      obtain ⟨s, rfl, hs, KN⟩ := hrel
      by_cases hlt : s < x
      · obtain ⟨vs, ss⟩ := FF.out.vg V1.out V2.out GP.out hlt
        have sr := stepRes_at vs ss Q5.out
        have hend : s + 1 = x → (stAt p v (s + 1)).2 = e := fun h => by rw [h]; exact FF.out.ef
        have hmid : s + 1 < x → (stAt p v (s + 1)).2.kind = 0 := fun h => FF.out.mid (s + 1) (by omega) h
        obtain ⟨u, hu⟩ : ∃ u, u = (stAt p v s).1 := ⟨_, rfl⟩
        obtain ⟨t, ht⟩ : ∃ t, t = (stAt p v (s + 1)).1 := ⟨_, rfl⟩
        obtain ⟨g, hg⟩ : ∃ g, g = (stAt p v (s + 1)).2 := ⟨_, rfl⟩
        rw [← hu] at vs KN
        rw [← hu, ← ht, ← hg] at sr
        rw [← hg] at hend hmid
        have VS := Lib.hid vs
        have SR := Lib.hid sr
        have HT := Lib.hid ht
        have hc : (s + 1 = x ∧ (g.kind != 0) = false ∧ ((s : Int) == (x : Int) - 1) = true) ∨ (s + 1 < x ∧ (g.kind != 0) = false ∧ ((s : Int) == (x : Int) - 1) = false) := by
          rcases Nat.lt_or_ge (s + 1) x with h | h
          · exact .inr ⟨h, by rw [bne_eq_false_iff_eq]; exact hmid h, by rw [beq_eq_false_iff_ne]; omega⟩
          · exact .inl ⟨by omega, by rw [hend (by omega)]; exact ek1, by rw [beq_iff_eq]; omega⟩
        clear hend hmid hu ht hg vs ss sr
        rcases hc with ⟨hx1, gk, sx⟩ | ⟨hx1, gk, sx⟩
        all_goals
          go_wp2_with (first | (go_at_call 13; refine (Step_any _ _ p _ VS.out.typed (Instrs.of_kn KN (by repeat (first | exact Has.here | refine Has.there ?_)) Q1.out Q2.out Q6.out)).mono ?_; rintro e wx ⟨rfl, hb1⟩; replace KN := KN.below hb1; clear hb1; rw [SR.out]; unfold stepVal) | ((with_reducible refine wpList_gate ?_); first | ((refine gate_load (by rfl) ?_); first | (refine wpList_kn_loadW KN (by rfl) 35 _ rfl _ rfl _ _ (by repeat (first | exact Has.here | refine Has.there ?_)) _ Try.underlying35 rfl (by kernel_rfl) ?_) | (refine wpList_kn_load1 KN (by rfl) 3 _ rfl _ _ rfl _ _ (by repeat (first | exact Has.here | refine Has.there ?_)) _ (by (repeat (first | ((with_reducible refine get_hit ?_); exact Nat.le_of_ble_eq_true (by kernel_rfl)) | ((with_reducible refine (get_miss ?_).trans ?_); (focus kernel_rfl)) | ((with_reducible refine (get_pmiss ?_).trans ?_); (focus kernel_rfl)))); all_goals (conv => lhs; whnf; arg 1; whnf)) _ Try.underlying3 rfl ?_) | (refine wpList_kn_loadW KN (by rfl) 33 _ rfl _ rfl _ _ (by repeat (first | exact Has.here | refine Has.there ?_)) _ Try.underlying33 rfl (by kernel_rfl) ?_)) | ((refine gate_store (by rfl) ?_); first | (refine wpList_kn_storeW KN (by rfl) 35 _ _ rfl _ rfl _ rfl _ _ (by repeat (first | exact Repl.here | apply Repl.there)) (by kernel_rfl) (by kernel_rfl) (by kernel_rfl) ?_; clear KN; intro wx KN) | (refine wpList_kn_storeA KN (by rfl) 35 _ _ rfl _ _ rfl _ rfl _ _ (by repeat (first | exact Repl.here | apply Repl.there)) (by (try simp only [Array.size_setIfInBounds, putL_size]); first | exact Nat.le_of_ble_eq_true rfl | (simp; omega)) (by kernel_rfl) (by kernel_rfl) ?_; clear KN; intro wx KN) | (refine wpList_kn_storeW KN (by rfl) 33 _ _ rfl _ rfl _ rfl _ _ (by repeat (first | exact Repl.here | apply Repl.there)) (by kernel_rfl) (by kernel_rfl) (by kernel_rfl) ?_; clear KN; intro wx KN) | (refine wpList_kn_storeA KN (by rfl) 33 _ _ rfl _ _ rfl _ rfl _ _ (by repeat (first | exact Repl.here | apply Repl.there)) (by (try simp only [Array.size_setIfInBounds, putL_size]); first | exact Nat.le_of_ble_eq_true rfl | (simp; omega)) (by kernel_rfl) (by kernel_rfl) ?_; clear KN; intro wx KN)) | ((refine gate_new (by rfl) ?_); first | (refine wpList_kn_alloc KN (by rfl) 35 rfl 12 rfl Vm.zero.cells (by kernel_rfl) ?_; clear KN; intro g12 wx hg12 KN) | (refine wpList_kn_alloc KN (by rfl) 35 rfl 15 rfl Vm.zero.cells (by kernel_rfl) ?_; clear KN; intro g15 wx hg15 KN) | (refine wpList_kn_alloc KN (by rfl) 33 rfl 17 rfl Eff.none.cells (by kernel_rfl) ?_; clear KN; intro g17 wx hg17 KN) | (refine wpList_kn_alloc KN (by rfl) 35 rfl 19 rfl Vm.zero.cells (by kernel_rfl) ?_; clear KN; intro g19 wx hg19 KN) | (refine wpList_kn_alloc KN (by rfl) 33 rfl 21 rfl Eff.none.cells (by kernel_rfl) ?_; clear KN; intro g21 wx hg21 KN) | (refine wpList_kn_alloc KN (by rfl) 35 rfl 23 rfl Vm.zero.cells (by kernel_rfl) ?_; clear KN; intro g23 wx hg23 KN) | (refine wpList_kn_alloc KN (by rfl) 35 rfl 25 rfl Vm.zero.cells (by kernel_rfl) ?_; clear KN; intro g25 wx hg25 KN) | (refine wpList_kn_alloc KN (by rfl) 33 rfl 26 rfl Eff.none.cells (by kernel_rfl) ?_; clear KN; intro g26 wx hg26 KN) | (refine wpList_kn_alloc KN (by rfl) 35 rfl 28 rfl Vm.zero.cells (by kernel_rfl) ?_; clear KN; intro g28 wx hg28 KN) | (refine wpList_kn_alloc KN (by rfl) 33 rfl 30 rfl Eff.none.cells (by kernel_rfl) ?_; clear KN; intro g30 wx hg30 KN))))
          go_roundw
          case rel => exact ⟨s + 1, by go_num, hlt, by rw [← HT.out]; exact (KN.drop .here).drop .here⟩
          case measure => simp [intOf]; omega
      · have hsx : s = x := by omega
        subst hsx
        rw [FF.out.st] at KN
        go_wp2_with (first | (go_at_call 12; refine (Place_any _ _ _ (by omega) (by omega) (by decide) (by decide)).mono ?_; rintro e wx ⟨rfl, rfl⟩; first | rw [HN.out] | rw [HK.out]) | (go_at_call 16; refine (Run_any _ _ p _ _ (by first | exact V1.out.typed | exact VA.out.typed) (Instrs.of_kn KN (by repeat (first | exact Has.here | refine Has.there ?_)) Q1.out Q2.out Q6.out)).mono ?_; rintro e wx ⟨rfl, hb1⟩; replace KN := KN.below hb1; clear hb1; (first | rw [R1.out] | rw [R2.out] | rw [R3.out]); unfold runVal) | (go_at_call 9; refine (awake_any _).mono ?_; rintro e wx ⟨rfl, hb1⟩; replace KN := KN.below hb1; clear hb1) | ((with_reducible refine wpList_gate ?_); first | ((refine gate_load (by rfl) ?_); first | (refine wpList_kn_loadW KN (by rfl) 35 _ rfl _ rfl _ _ (by repeat (first | exact Has.here | refine Has.there ?_)) _ Try.underlying35 rfl (by kernel_rfl) ?_) | (refine wpList_kn_load1 KN (by rfl) 3 _ rfl _ _ rfl _ _ (by repeat (first | exact Has.here | refine Has.there ?_)) _ (by (repeat (first | ((with_reducible refine get_hit ?_); exact Nat.le_of_ble_eq_true (by kernel_rfl)) | ((with_reducible refine (get_miss ?_).trans ?_); (focus kernel_rfl)) | ((with_reducible refine (get_pmiss ?_).trans ?_); (focus kernel_rfl)))); all_goals (conv => lhs; whnf; arg 1; whnf)) _ Try.underlying3 rfl ?_) | (refine wpList_kn_loadW KN (by rfl) 33 _ rfl _ rfl _ _ (by repeat (first | exact Has.here | refine Has.there ?_)) _ Try.underlying33 rfl (by kernel_rfl) ?_)) | ((refine gate_store (by rfl) ?_); first | (refine wpList_kn_storeW KN (by rfl) 35 _ _ rfl _ rfl _ rfl _ _ (by repeat (first | exact Repl.here | apply Repl.there)) (by kernel_rfl) (by kernel_rfl) (by kernel_rfl) ?_; clear KN; intro wx KN) | (refine wpList_kn_storeA KN (by rfl) 35 _ _ rfl _ _ rfl _ rfl _ _ (by repeat (first | exact Repl.here | apply Repl.there)) (by (try simp only [Array.size_setIfInBounds, putL_size]); first | exact Nat.le_of_ble_eq_true rfl | (simp; omega)) (by kernel_rfl) (by kernel_rfl) ?_; clear KN; intro wx KN) | (refine wpList_kn_storeW KN (by rfl) 33 _ _ rfl _ rfl _ rfl _ _ (by repeat (first | exact Repl.here | apply Repl.there)) (by kernel_rfl) (by kernel_rfl) (by kernel_rfl) ?_; clear KN; intro wx KN) | (refine wpList_kn_storeA KN (by rfl) 33 _ _ rfl _ _ rfl _ rfl _ _ (by repeat (first | exact Repl.here | apply Repl.there)) (by (try simp only [Array.size_setIfInBounds, putL_size]); first | exact Nat.le_of_ble_eq_true rfl | (simp; omega)) (by kernel_rfl) (by kernel_rfl) ?_; clear KN; intro wx KN)) | ((refine gate_new (by rfl) ?_); first | (refine wpList_kn_alloc KN (by rfl) 35 rfl 12 rfl Vm.zero.cells (by kernel_rfl) ?_; clear KN; intro g12 wx hg12 KN) | (refine wpList_kn_alloc KN (by rfl) 35 rfl 15 rfl Vm.zero.cells (by kernel_rfl) ?_; clear KN; intro g15 wx hg15 KN) | (refine wpList_kn_alloc KN (by rfl) 33 rfl 17 rfl Eff.none.cells (by kernel_rfl) ?_; clear KN; intro g17 wx hg17 KN) | (refine wpList_kn_alloc KN (by rfl) 35 rfl 19 rfl Vm.zero.cells (by kernel_rfl) ?_; clear KN; intro g19 wx hg19 KN) | (refine wpList_kn_alloc KN (by rfl) 33 rfl 21 rfl Eff.none.cells (by kernel_rfl) ?_; clear KN; intro g21 wx hg21 KN) | (refine wpList_kn_alloc KN (by rfl) 35 rfl 23 rfl Vm.zero.cells (by kernel_rfl) ?_; clear KN; intro g23 wx hg23 KN) | (refine wpList_kn_alloc KN (by rfl) 35 rfl 25 rfl Vm.zero.cells (by kernel_rfl) ?_; clear KN; intro g25 wx hg25 KN) | (refine wpList_kn_alloc KN (by rfl) 33 rfl 26 rfl Eff.none.cells (by kernel_rfl) ?_; clear KN; intro g26 wx hg26 KN) | (refine wpList_kn_alloc KN (by rfl) 35 rfl 28 rfl Vm.zero.cells (by kernel_rfl) ?_; clear KN; intro g28 wx hg28 KN) | (refine wpList_kn_alloc KN (by rfl) 33 rfl 30 rfl Eff.none.cells (by kernel_rfl) ?_; clear KN; intro g30 wx hg30 KN)) | ((refine gate_cmp (by rfl) ?_); first | (refine wpList_kn_eql (by rfl) 35 _ _ _ rfl _ rfl rfl (by kernel_rfl) (by kernel_rfl) ?_) | (refine wpList_kn_eql (by rfl) 33 _ _ _ rfl _ rfl rfl (by kernel_rfl) (by kernel_rfl) ?_) | (refine wpList_kn_neq (by rfl) 35 _ _ _ rfl _ rfl rfl (by kernel_rfl) (by kernel_rfl) ?_))))
        go_ret
        exact ⟨rfl, KN.toBelow⟩
theorem vmRun_any (va vb vr : Value) (zs ys xs : List Int) (n m : Int) (w : World) (hz : Ints w va zs) (hy : Ints w vb ys) (hx : U64s w vr xs) (n0 : -9223372036854775808 ≤ n) (n1 : n ≤ 9223372036854775807) (m0 : -9223372036854775808 ≤ m) (m1 : m ≤ 9223372036854775807) :
    Calls Try.prog 5 #[va, vb, vr, .int .i64 n, .int .i64 m] w fun e w' => e = .returned (.bool true) ∧ Below w.heap.size w w' := by
  by_cases h : zs.length ≤ 100 ∧ ys.length ≤ 200 ∧ xs.length ≤ 20
  · exact run_near va vb vr zs ys xs n m w hz hy hx h.1 h.2.1 h.2.2 n0 n1 m0 m1
  · exact run_far va vb vr zs ys xs n m w hz hy hx (by omega)
end Go.Proofs.Ytbllialcfmpkaaa
