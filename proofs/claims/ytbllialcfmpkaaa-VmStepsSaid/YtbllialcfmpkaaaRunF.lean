/- The interpreter's Run. -/
import Derived.Test.YtbllialcfmpkaaaStepF
import Derived.Test.YtbllialcfmpkaaaRunPlain
set_option linter.unusedVariables false
set_option linter.unusedSimpArgs false
set_option linter.unusedSectionVars false
namespace Go.Proofs.Ytbllialcfmpkaaa
open Go.RowKit
attribute [local go_sem] Vm.get0 Vm.get1 Vm.get2 Vm.get3 Vm.get4 Vm.get5 Vm.get6 Vm.get7 Vm.get8 Vm.get9 Vm.get10 Vm.get11 Vm.get12 Vm.get13 Vm.get14 Vm.get15 Vm.get16 Vm.get17 Vm.get18 Vm.get19 Vm.get20 Vm.get21 Vm.get22 Vm.get23 Vm.get24 Mach.get0 Mach.get1 Mach.get2 Mach.get3 Mach.get4 Mach.get5 Mach.get6 Mach.get7 Mach.get8 Mach.get9 Mach.get10 Mach.get11 Mach.get12 Mach.get13 Mach.get14 Mach.get15 Mach.get16 Mach.get17 Mach.get18 Mach.get19 Mach.get20 Mach.get21 Mach.get22 Mach.get23 Mach.get24 Mach.get25 Mach.get26 Mach.get27 Mach.get28 Mach.get29 Mach.get30 Mach.get31 Mach.get32 Mach.get33 Mach.get34 Mach.get35 Mach.get36

def betw (n : Int) : Int := if n < 1 ∨ 1000000 < n then 1 else 0
def runRes (v : Vm) (p : List Ins) (n : Int) : Vm × Nat × Eff × Int :=
  if checkE v p (betw n) = 0 then ((runF p n.toNat (v, Eff.none)).1, (runF p n.toNat (v, Eff.none)).2.1, (runF p n.toNat (v, Eff.none)).2.2, 0) else (Vm.zero, 0, Eff.none, checkE v p (betw n))
def runVal (r : Vm × Nat × Eff × Int) : Value := .tuple #[.agg r.1.cells, .int .i64 (r.2.1 : Nat), .agg r.2.2.1.cells, .int .i64 r.2.2.2]
theorem runRes_no {v : Vm} {p : List Ins} {n : Int} (h : ¬ checkE v p (betw n) = 0) : runRes v p n = (Vm.zero, 0, Eff.none, checkE v p (betw n)) := by unfold runRes; rw [if_neg h]
theorem runRes_ok {v : Vm} {p : List Ins} {n : Int} (h : checkE v p (betw n) = 0) : runRes v p n = ((runF p n.toNat (v, Eff.none)).1, (runF p n.toNat (v, Eff.none)).2.1, (runF p n.toNat (v, Eff.none)).2.2, 0) := by unfold runRes; rw [if_pos h]

set_option maxRecDepth 100000 in
set_option maxHeartbeats 4000000 in
theorem Run_no (v : Vm) (va : Value) (p : List Ins) (n : Int) (w : World) (ht : v.typed) (hp : Instrs w va p) (hc : ¬ checkE v p (betw n) = 0) :
    Calls Try.prog 16 #[.agg v.cells, va, .int .i64 n] w fun en w' => en = .returned (runVal (Vm.zero, 0, Eff.none, checkE v p (betw n))) ∧ Below w.heap.size w w' := by
  obtain ⟨a, c, rfl, _⟩ := hp.form
  have HP := Lib.hid hp
  have TT := Lib.hid ht
  have hcases : n < 1 ∨ (1 ≤ n ∧ 1000000 < n) ∨ (1 ≤ n ∧ n ≤ 1000000) := by omega
  clear hp ht
  rcases hcases with hn | ⟨hn0, hn⟩ | ⟨hn0, hn⟩
  case' inl => have hbw : betw n = 1 := by unfold betw; rw [if_pos (by omega)]
  case' inr.inl => have hbw : betw n = 1 := by unfold betw; rw [if_pos (by omega)]
  case' inr.inr => have hbw : betw n = 0 := by unfold betw; rw [if_neg (by omega)]
  all_goals
    rw [hbw] at hc ⊢
    have n1 := bne_iff_ne.2 hc
    clear hc hbw
    go_enter Try.func16, Try.ntmps16
    go_wp2_with (refine wpList_load_row rfl 35 (.tmp 3) rfl w.heap.size rfl 35 v.cells (0, 0) _ (blk_below (blk_new w v.cells 35) (((Below.refl _ _).alloc (by simp) _).alloc (by simp) _)) Try.underlying35 rfl vm_size ?_)
    generalize hw0 : World.alloc _ _ = w0
    have hb0 : Below w.heap.size w w0 := by rw [← hw0]; exact ((((Below.refl _ _).alloc (Nat.le_refl _) _).alloc (by simp) _).alloc (by simp; omega) _)
    have he0 : ∃ cs, cs.size = 25 ∧ BlkT w0 (w.heap.size + 1) cs 35 := by rw [← hw0]; refine ⟨_, ?_, blk_below (blk_new2 (by simp)) ((Below.refl _ _).alloc (Nat.le_refl _) _)⟩; rfl
    have hf0 : ∃ cs, cs.size = 5 ∧ BlkT w0 (w.heap.size + 1 + 1) cs 33 := by rw [← hw0]; refine ⟨_, ?_, blk_new2 (by simp)⟩; rfl
    obtain ⟨c1, s1, k1⟩ := he0
    obtain ⟨c2, s2, k2⟩ := hf0
    refine (check3_any v _ p _ _ TT.out (HP.out.below hb0)).mono ?_
    rintro e w1 ⟨rfl, hb1⟩
    have K1 := Lib.hid (blk_below k1 hb1)
    have K2 := Lib.hid (blk_below k2 hb1)
    have HB1 := Lib.hid (hb0.trans (hb1.mono hb0.size))
    clear hb0 hb1 k1 k2 hw0
    go_wp2_with (first | (refine wpList_built rfl 35 #[] rfl Vm.zero.cells (by kernel_rfl) ?_) | (refine wpList_built rfl 33 #[] rfl Eff.none.cells (by kernel_rfl) ?_) | (refine wpList_store_row rfl 35 _ _ rfl (w.heap.size + 1) rfl Vm.zero.cells c1 35 rfl K1.out s1.symm vm_size (vm_one _) ?_; rintro w2 hk2 ho2; have K2' := Lib.hid (blk_only K2.out ho2 (by omega)); have K1' := Lib.hid hk2; have HO2 := Lib.hid ho2; clear hk2 ho2) | (refine wpList_store_row rfl 33 _ _ rfl (w.heap.size + 2) rfl Eff.none.cells c2 33 rfl K2'.out s2.symm eff_size (eff_one _) ?_; rintro w3 hk3 ho3; have K3 := Lib.hid hk3; have K4 := Lib.hid (blk_only K1'.out ho3 (by omega)); have HO3 := Lib.hid ho3; clear hk3 ho3))
    refine bodyPost_ret (results_ctct Try.results16 _ _ _ _ Vm.zero.cells Eff.none.cells _ _ rfl (load_vm K4.out) rfl rfl (load_eff K3.out) rfl) rfl ⟨rfl, ?_⟩
    exact below_only (below_only HB1.out HO2.out (by omega) HB1.out.size) HO3.out (by omega) (Nat.le_trans HB1.out.size HO2.out.size)

/-- What is so at each round's head. -/
def RunRel (v : Vm) (p : List Ins) (N b t g off : Nat) (W : World) (cn : Value) (wr : World) : Prop :=
  ∃ (k : Nat) (m : Mach), k ≤ N ∧ cn = .int .i64 k ∧ MB wr b m ∧ Only b W wr ∧ TB wr t b ∧ PS wr g off p ∧ m.v.fits ∧ m.pa = some ⟨g, off, none⟩ ∧ m.pn = p.length ∧ runF p N (v, Eff.none) = runAt p N k (m.v, m.eff)
theorem runVal_of {v : Vm} {p : List Ins} {N k : Nat} {m : Mach} (h : runF p N (v, Eff.none) = runAt p N k (m.v, m.eff)) (hs : ¬ m.eff.kind = 0 ∨ k = N) :
    runVal ((runF p N (v, Eff.none)).1, (runF p N (v, Eff.none)).2.1, (runF p N (v, Eff.none)).2.2, 0) = .tuple #[.agg m.v.cells, .int .i64 (k : Nat), .agg m.eff.cells, .int .i64 0] := by
  have : runF p N (v, Eff.none) = (m.v, k, m.eff) := by
    rcases hs with hs | hs
    · rw [h, runAt_stop (by exact hs)]
    · rw [h, hs, runAt_full]
  rw [this]; rfl

set_option maxRecDepth 100000 in
set_option maxHeartbeats 4000000 in
theorem Run_ok (v : Vm) (va : Value) (p : List Ins) (n : Int) (w : World) (ht : v.typed) (hp : Instrs w va p) (hc : checkE v p (betw n) = 0) :
    Calls Try.prog 16 #[.agg v.cells, va, .int .i64 n] w fun en w' => en = .returned (runVal ((runF p n.toNat (v, Eff.none)).1, (runF p n.toNat (v, Eff.none)).2.1, (runF p n.toNat (v, Eff.none)).2.2, 0)) ∧ Below w.heap.size w w' := by
  obtain ⟨ok, pe, hb, _⟩ := checkE_ok hc
  have hn : 1 ≤ n ∧ n ≤ 1000000 := by
    unfold betw at hb
    by_cases h : n < 1 ∨ 1000000 < n
    · rw [if_pos h] at hb; omega
    · omega
  rw [hb] at hc
  obtain ⟨N, rfl⟩ := Int.eq_ofNat_of_zero_le (show 0 ≤ n by omega)
  rw [Int.toNat_natCast]
  obtain ⟨hn0, hn1⟩ := hn
  have FT := Lib.hid (Vm.ok_fits ok ht)
  have GP := Lib.hid (progErr_good pe hp.2)
  obtain ⟨g, off, c, rfl, ps⟩ := hp.ps GP.out.len.1
  have HP := Lib.hid hp
  have TT := Lib.hid ht
  have PP := Lib.hid ps
  have HC := Lib.hid hc
  have n1 : (checkE v p 0 != 0) = false := by rw [bne_eq_false_iff_eq]; exact hc
  clear hp ht hc ok pe ps hb
  go_enter Try.func16, Try.ntmps16
  go_wp2_with (refine wpList_load_row rfl 35 (.tmp 3) rfl w.heap.size rfl 35 v.cells (0, 0) _ (blk_below (blk_new w v.cells 35) (((Below.refl _ _).alloc (by simp) _).alloc (by simp) _)) Try.underlying35 rfl vm_size ?_)
  generalize hw0 : World.alloc _ _ = w0
  have hb0 : Below w.heap.size w w0 := by rw [← hw0]; exact ((((Below.refl _ _).alloc (Nat.le_refl _) _).alloc (by simp) _).alloc (by simp; omega) _)
  have hv0 : BlkT w0 w.heap.size v.cells 35 := by rw [← hw0]; exact blk_below (blk_new w v.cells 35) (((Below.refl _ _).alloc (by simp) _).alloc (by simp) _)
  have he0 : ∃ cs, cs.size = 25 ∧ BlkT w0 (w.heap.size + 1) cs 35 := by rw [← hw0]; refine ⟨_, ?_, blk_below (blk_new2 (by simp)) ((Below.refl _ _).alloc (Nat.le_refl _) _)⟩; rfl
  have hf0 : ∃ cs, cs.size = 5 ∧ BlkT w0 (w.heap.size + 1 + 1) cs 33 := by rw [← hw0]; refine ⟨_, ?_, blk_new2 (by simp)⟩; rfl
  obtain ⟨c1, s1, k1⟩ := he0
  obtain ⟨c2, s2, k2⟩ := hf0
  refine (check3_any v _ p 0 _ TT.out (HP.out.below hb0)).mono ?_
  rintro e w1 ⟨rfl, hb1⟩
  rw [HC.out]
  have KV := Lib.hid (blk_below hv0 hb1)
  have K1 := Lib.hid (blk_below k1 hb1)
  have K2 := Lib.hid (blk_below k2 hb1)
  have HB1 := Lib.hid (hb0.trans (hb1.mono hb0.size))
  clear hb0 hb1 k1 k2 hw0 hv0 n1
  go_wp2_with (first | (refine wpList_load_row rfl 35 (.tmp 3) rfl w.heap.size rfl 35 v.cells (0, 0) _ KV.out Try.underlying35 rfl vm_size ?_) | (refine wpList_built rfl 64 _ rfl (Mach.start v (some ⟨g, off, none⟩) p.length c).cells (by kernel_rfl) ?_))
  obtain ⟨b, hb⟩ : ∃ b, b = w1.heap.size := ⟨_, rfl⟩
  rw [← hb]
  generalize hw2 : World.alloc _ _ = w2
  have hmb : MB w2 b (Mach.start v (some ⟨g, off, none⟩) p.length c) := by rw [← hw2]; exact blk_new2 hb
  have hb2 : Below w1.heap.size w1 w2 := by rw [← hw2]; exact (Below.refl _ _).alloc (Nat.le_refl _) _
  refine (instructions_any b w2).mono ?_
  rintro e w3 ⟨rfl, rfl⟩
  have hb3 : Below w2.heap.size w2 (w2.alloc (.cells (tabA b) 1)) := (Below.refl _ _).alloc (Nat.le_refl _) _
  have htb : TB (w2.alloc (.cells (tabA b) 1)) w2.heap.size b := blk_new w2 _ _
  have hlt := hmb.lt
  have hmb3 := hmb.blk.alloc (.cells (tabA b) 1)
  generalize hw3 : World.alloc _ _ = w3
  rw [hw3] at hb3 htb hmb3
  have P3 := (PP.out.below (hb2.trans (hb3.mono hb2.size) |>.mono HB1.out.size |> (HB1.out.trans ·)))
  have K13 := Lib.hid (blk_below K1.out (hb2.trans (hb3.mono hb2.size)))
  have K23 := Lib.hid (blk_below K2.out (hb2.trans (hb3.mono hb2.size)))
  have HB3 := Lib.hid (HB1.out.trans ((hb2.trans (hb3.mono hb2.size)).mono HB1.out.size))
  have HBZ := Lib.hid hb
  clear hb hw3 hw2
  have hmb4 : MB w3 b (Mach.start v (some ⟨g, off, none⟩) p.length c) := hmb3
  clear hmb3
  have q1 : g ≠ b := by have := PP.out.1; have := HB1.out.size; have := HBZ.out; omega
  have q2 : w2.heap.size ≠ b := by omega
  have hbw : w.heap.size + 1 + 1 < b := by have := blk_lt K2.out; have := HBZ.out; omega
  obtain ⟨t, ht⟩ : ∃ t, t = w2.heap.size := ⟨_, rfl⟩
  rw [← ht] at htb q2 ⊢
  have HREL : Hid (RunRel v p N b t g off w3 (.int .i64 0) w3) := Lib.hid ⟨0, _, Nat.zero_le _, rfl, hmb4, Only.refl _ _, htb, P3, FT.out, rfl, rfl, rfl⟩
  have Q2 := Lib.hid q2
  clear hmb4 htb P3 hb3 hb2 hlt ht q2 hmb
  go_wp2_with fail
  go_loopw [7] (fun cn wr => RunRel v p N b t g off w3 cn wr) (fun cn _ => N - (intOf cn).toNat)
  case atStart => exact HREL.out
  case round =>
    obtain ⟨k, m, hk, rfl, hm, ho, htb, hps, hf, hpa, hpn, hrun⟩ := hrel
    obtain ⟨hc, hfr⟩ := hm.all
    have HM := Lib.hid hm
    have HO := Lib.hid ho
    have HT := Lib.hid htb
    have HPS := Lib.hid hps
    have HF := Lib.hid hf
    have HPA := Lib.hid hpa
    have HPN := Lib.hid hpn
    have HR := Lib.hid hrun
    have mfr := hfr
    clear hm ho htb hps hf hpa hpn hrun
    have h3 : (k < N ∧ m.eff.kind = 0) ∨ (k < N ∧ (m.eff.kind == 0) = false) ∨ ¬ k < N := by
      by_cases h1 : k < N
      · by_cases h2 : m.eff.kind = 0
        · exact .inl ⟨h1, h2⟩
        · exact .inr (.inl ⟨h1, by rw [beq_eq_false_iff_ne]; exact h2⟩)
      · exact .inr (.inr h1)
    rcases h3 with ⟨hlt, hke⟩ | ⟨hlt, hkb⟩ | hlt
    case inl =>
      have hkb : (m.eff.kind == 0) = true := by rw [beq_iff_eq]; exact hke
      have HKE := Lib.hid hke
      clear hke
      go_wp2_with fail
      refine (step_any b t g off m p _ HM.out HF.out GP.out HPS.out q1 HPA.out HPN.out HT.out Q2.out).mono ?_
      rintro e w4 ⟨rfl, m', hm4, ho4, e1, e2, e3, e4, e5⟩
      have HM4 := Lib.hid hm4
      have HO4 := Lib.hid ho4
      have E1 := Lib.hid e1
      have E2 := Lib.hid e2
      have E3 := Lib.hid e3
      have E4 := Lib.hid e4
      clear hm4 ho4 e1 e2 e3 e4 e5 hc hfr mfr
      go_wp2_with fail
      go_roundw
      case rel =>
        refine ⟨k + 1, m', hlt, by go_num, HM4.out, HO.out.trans HO4.out, HT.out.only HO4.out Q2.out, HPS.out.only HO4.out q1, ?_, E3.out.trans HPA.out, E4.out.trans HPN.out, ?_⟩
        · rw [E1.out]; exact stepS_fits HF.out GP.out
        · rw [HR.out, runAt_next HKE.out hlt, E1.out, E2.out]
      case measure => simp [intOf]; omega
    case' inr.inl => have RV := Lib.hid (runVal_of HR.out (.inl (beq_eq_false_iff_ne.1 hkb)))
    case' inr.inr => have RV := Lib.hid (runVal_of HR.out (.inr (by omega)))
    case inr.inl =>
      have K14 := Lib.hid (blk_only K13.out HO.out (by omega))
      have K24 := Lib.hid (blk_only K23.out HO.out (by omega))
      have HB4 := Lib.hid (below_only HB3.out HO.out (by omega) HB3.out.size)
      obtain ⟨wq, hwq⟩ : ∃ wq, wq = wr := ⟨_, rfl⟩
      go_wp2_with fail
      clear hwq wq
      refine wp_region_held_drew (S := (fun w' => ∀ o, w'.cell? ⟨b, o, none⟩ = m.cells[o]?)) (by kernel_rfl) ?qahS (fun hHeld => ?qarest)
      case qahS => first | exact hc | exact fun o => (ho5.cell (Nat.lt_of_lt_of_le (blk_lt HM.out) (Nat.le_refl _)) (by omega)).trans (hHeld o) | exact fun o => (ho6.cell (Nat.lt_of_lt_of_le (blk_lt HM.out) HO5.out.size) (by omega)).trans (hHeld o)
      refine wpAnyH_take (i := 0) (oi := ⟨some 51, _, _, _, _, _⟩) (v := ?qav0) rfl (by kernel_rfl) (by kernel_rfl) (by kernel_rfl) (fun _ _ _ h => h) (Or.inl ⟨by rfl, ?qahy0⟩) hHeld ?qar0
      case qahy0 => (intro w hSw; (try dsimp only at hSw); go_simp; (try with_reducible rfl))
      (try simp only [Act.put, List.setIfInBounds_toArray, List.set_cons_zero, List.set_cons_succ])
      refine wpAnyH_take (i := 1) (oi := ⟨some 52, _, _, _, _, _⟩) (v := ?qav1) rfl (by kernel_rfl) (by kernel_rfl) (by kernel_rfl) (fun _ _ _ h => h) (Or.inl ⟨by rfl, ?qahy1⟩) hHeld ?qar1
      case qahy1 => (intro w hSw; (try dsimp only at hSw); go_simp; (try with_reducible rfl))
      (try simp only [Act.put, List.setIfInBounds_toArray, List.set_cons_zero, List.set_cons_succ])
      refine wpAnyH_take (i := 2) (oi := ⟨some 53, _, _, _, _, _⟩) (v := ?qav2) rfl (by kernel_rfl) (by kernel_rfl) (by kernel_rfl) (fun _ _ _ h => h) (Or.inl ⟨by rfl, ?qahy2⟩) hHeld ?qar2
      case qahy2 => (intro w hSw; (try dsimp only at hSw); go_simp; (try with_reducible rfl))
      (try simp only [Act.put, List.setIfInBounds_toArray, List.set_cons_zero, List.set_cons_succ])
      refine wpAnyH_take (i := 3) (oi := ⟨some 54, _, _, _, _, _⟩) (v := (.agg m.v.cells)) rfl (by kernel_rfl) (by kernel_rfl) (by kernel_rfl) (fun _ _ _ h => h) (yields_load (by rfl) 35 _ rfl b 0 rfl m.v.cells _ (fun w' h => Mach.cells_v h) Try.underlying35 rfl vm_size) hHeld ?qar3
      (try simp only [Act.put, List.setIfInBounds_toArray, List.set_cons_zero, List.set_cons_succ])
      refine wpAnyH_take (i := 4) (oi := ⟨some 55, _, _, _, _, _⟩) (v := ?qav4) rfl (by kernel_rfl) (by kernel_rfl) (by kernel_rfl) (fun _ _ _ h => h) (Or.inl ⟨by rfl, ?qahy4⟩) hHeld ?qar4
      case qahy4 => (intro w hSw; (try dsimp only at hSw); go_simp; (try with_reducible rfl))
      (try simp only [Act.put, List.setIfInBounds_toArray, List.set_cons_zero, List.set_cons_succ])
      refine wpAnyH_take (i := 5) (oi := ⟨some 56, _, _, _, _, _⟩) (v := ?qav5) rfl (by kernel_rfl) (by kernel_rfl) (by kernel_rfl) (fun _ _ _ h => h) (Or.inl ⟨by rfl, ?qahy5⟩) hHeld ?qar5
      case qahy5 => (intro w hSw; (try dsimp only at hSw); go_simp; (try with_reducible rfl))
      (try simp only [Act.put, List.setIfInBounds_toArray, List.set_cons_zero, List.set_cons_succ])
      refine wpAnyH_take (i := 6) (oi := ⟨some 57, _, _, _, _, _⟩) (v := ?qav6) rfl (by kernel_rfl) (by kernel_rfl) (by kernel_rfl) (fun _ _ _ h => h) (Or.inl ⟨by rfl, ?qahy6⟩) hHeld ?qar6
      case qahy6 => (intro w hSw; (try dsimp only at hSw); go_simp; (try with_reducible rfl))
      (try simp only [Act.put, List.setIfInBounds_toArray, List.set_cons_zero, List.set_cons_succ])
      refine wpAnyH_take (i := 7) (oi := ⟨some 58, _, _, _, _, _⟩) (v := ?qav7) rfl (by kernel_rfl) (by kernel_rfl) (by kernel_rfl) (fun _ _ _ h => h) (Or.inl ⟨by rfl, ?qahy7⟩) hHeld ?qar7
      case qahy7 => (intro w hSw; (try dsimp only at hSw); go_simp; (try with_reducible rfl))
      (try simp only [Act.put, List.setIfInBounds_toArray, List.set_cons_zero, List.set_cons_succ])
      refine wpAnyH_take (i := 8) (oi := ⟨some 59, _, _, _, _, _⟩) (v := (.agg m.eff.cells)) rfl (by kernel_rfl) (by kernel_rfl) (by kernel_rfl) (fun _ _ _ h => h) (yields_load (by rfl) 33 _ rfl b 32 rfl m.eff.cells _ (fun w' h => Mach.cells_e h) Try.underlying33 rfl eff_size) hHeld ?qar8
      (try simp only [Act.put, List.setIfInBounds_toArray, List.set_cons_zero, List.set_cons_succ])
      refine wpAnyH_ready (rs := [9]) (by kernel_rfl) (by simp) ?qac9
      refine AllReadyH.cons (o := ⟨none, _, _, _, _, _⟩) rfl (fun K hK => ?qast9) AllReadyH.nil
      (rw [if_pos (by rfl)]; refine wpOp_store_row 35 _ _ rfl (w.heap.size + 1) rfl m.v.cells c1 35 rfl K14.out s1.symm vm_size (vm_one _) ?_; rintro w5 hk5 ho5; have K15 := Lib.hid hk5; have HO5 := Lib.hid ho5; clear hk5)
      refine hK.out _ _ ?qak9 (fun hHeld2 => ?qam9)
      case qak9 => first | exact hc | exact fun o => (ho5.cell (Nat.lt_of_lt_of_le (blk_lt HM.out) (Nat.le_refl _)) (by omega)).trans (hHeld o) | exact fun o => (ho6.cell (Nat.lt_of_lt_of_le (blk_lt HM.out) HO5.out.size) (by omega)).trans (hHeld o)
      clear hK K hHeld
      have hHeld := hHeld2; clear hHeld2
      (try simp only [Act.put, List.setIfInBounds_toArray, List.set_cons_zero, List.set_cons_succ])
      refine wpAnyH_take (i := 10) (oi := ⟨some 7, _, _, _, _, _⟩) (v := ?qav10) rfl (by kernel_rfl) (by kernel_rfl) (by kernel_rfl) (fun _ _ _ h => h) (Or.inl ⟨by rfl, ?qahy10⟩) hHeld ?qar10
      case qahy10 => (intro w hSw; (try dsimp only at hSw); go_simp; (try with_reducible rfl))
      (try simp only [Act.put, List.setIfInBounds_toArray, List.set_cons_zero, List.set_cons_succ])
      refine wpAnyH_ready (rs := [11]) (by kernel_rfl) (by simp) ?qac11
      refine AllReadyH.cons (o := ⟨none, _, _, _, _, _⟩) rfl (fun K hK => ?qast11) AllReadyH.nil
      (rw [if_pos (by rfl)]; refine wpOp_store_row 33 _ _ rfl (w.heap.size + 1 + 1) rfl m.eff.cells c2 33 rfl (blk_only (w := wr.drew) K24.out HO5.out (by omega)) s2.symm eff_size (eff_one _) ?_; rintro w6 hk6 ho6; have K26 := Lib.hid hk6; have K16 := Lib.hid (blk_only K15.out ho6 (by omega)); have HO6 := Lib.hid ho6; clear hk6)
      refine hK.out _ _ ?qak11 (fun hHeld2 => ?qam11)
      case qak11 => first | exact hc | exact fun o => (ho5.cell (Nat.lt_of_lt_of_le (blk_lt HM.out) (Nat.le_refl _)) (by omega)).trans (hHeld o) | exact fun o => (ho6.cell (Nat.lt_of_lt_of_le (blk_lt HM.out) HO5.out.size) (by omega)).trans (hHeld o)
      clear hK K hHeld
      have hHeld := hHeld2; clear hHeld2
      (try simp only [Act.put, List.setIfInBounds_toArray, List.set_cons_zero, List.set_cons_succ])
      refine wpAnyH_take (i := 12) (oi := ⟨some 9, _, _, _, _, _⟩) (v := ?qav12) rfl (by kernel_rfl) (by kernel_rfl) (by kernel_rfl) (fun _ _ _ h => h) (Or.inl ⟨by rfl, ?qahy12⟩) hHeld ?qar12
      case qahy12 => (intro w hSw; (try dsimp only at hSw); go_simp; (try with_reducible rfl))
      (try simp only [Act.put, List.setIfInBounds_toArray, List.set_cons_zero, List.set_cons_succ])
      refine wpAnyH_done (by kernel_rfl) ?qadone _
      have HBF := Lib.hid (below_only (below_only HB4.out.drew HO5.out (by omega) HB4.out.size) HO6.out (by omega) (Nat.le_trans HB4.out.size HO5.out.size))
      clear hHeld ho5 ho6 hc hfr mfr
      go_wp2_with fail
      refine bodyPost_ret (results_ctct Try.results16 _ _ _ _ m.v.cells m.eff.cells _ _ rfl (load_vm K16.out) rfl rfl (load_eff K26.out) rfl) rfl ⟨?_, HBF.out⟩
      rw [RV.out]
      rfl
    case inr.inr =>
      have K14 := Lib.hid (blk_only K13.out HO.out (by omega))
      have K24 := Lib.hid (blk_only K23.out HO.out (by omega))
      have HB4 := Lib.hid (below_only HB3.out HO.out (by omega) HB3.out.size)
      obtain ⟨wq, hwq⟩ : ∃ wq, wq = wr := ⟨_, rfl⟩
      go_wp2_with fail
      clear hwq wq
      refine wp_region_held_drew (S := (fun w' => ∀ o, w'.cell? ⟨b, o, none⟩ = m.cells[o]?)) (by kernel_rfl) ?qbhS (fun hHeld => ?qbrest)
      case qbhS => first | exact hc | exact fun o => (ho5.cell (Nat.lt_of_lt_of_le (blk_lt HM.out) (Nat.le_refl _)) (by omega)).trans (hHeld o) | exact fun o => (ho6.cell (Nat.lt_of_lt_of_le (blk_lt HM.out) HO5.out.size) (by omega)).trans (hHeld o)
      refine wpAnyH_take (i := 0) (oi := ⟨some 51, _, _, _, _, _⟩) (v := ?qbv0) rfl (by kernel_rfl) (by kernel_rfl) (by kernel_rfl) (fun _ _ _ h => h) (Or.inl ⟨by rfl, ?qbhy0⟩) hHeld ?qbr0
      case qbhy0 => (intro w hSw; (try dsimp only at hSw); go_simp; (try with_reducible rfl))
      (try simp only [Act.put, List.setIfInBounds_toArray, List.set_cons_zero, List.set_cons_succ])
      refine wpAnyH_take (i := 1) (oi := ⟨some 52, _, _, _, _, _⟩) (v := ?qbv1) rfl (by kernel_rfl) (by kernel_rfl) (by kernel_rfl) (fun _ _ _ h => h) (Or.inl ⟨by rfl, ?qbhy1⟩) hHeld ?qbr1
      case qbhy1 => (intro w hSw; (try dsimp only at hSw); go_simp; (try with_reducible rfl))
      (try simp only [Act.put, List.setIfInBounds_toArray, List.set_cons_zero, List.set_cons_succ])
      refine wpAnyH_take (i := 2) (oi := ⟨some 53, _, _, _, _, _⟩) (v := ?qbv2) rfl (by kernel_rfl) (by kernel_rfl) (by kernel_rfl) (fun _ _ _ h => h) (Or.inl ⟨by rfl, ?qbhy2⟩) hHeld ?qbr2
      case qbhy2 => (intro w hSw; (try dsimp only at hSw); go_simp; (try with_reducible rfl))
      (try simp only [Act.put, List.setIfInBounds_toArray, List.set_cons_zero, List.set_cons_succ])
      refine wpAnyH_take (i := 3) (oi := ⟨some 54, _, _, _, _, _⟩) (v := (.agg m.v.cells)) rfl (by kernel_rfl) (by kernel_rfl) (by kernel_rfl) (fun _ _ _ h => h) (yields_load (by rfl) 35 _ rfl b 0 rfl m.v.cells _ (fun w' h => Mach.cells_v h) Try.underlying35 rfl vm_size) hHeld ?qbr3
      (try simp only [Act.put, List.setIfInBounds_toArray, List.set_cons_zero, List.set_cons_succ])
      refine wpAnyH_take (i := 4) (oi := ⟨some 55, _, _, _, _, _⟩) (v := ?qbv4) rfl (by kernel_rfl) (by kernel_rfl) (by kernel_rfl) (fun _ _ _ h => h) (Or.inl ⟨by rfl, ?qbhy4⟩) hHeld ?qbr4
      case qbhy4 => (intro w hSw; (try dsimp only at hSw); go_simp; (try with_reducible rfl))
      (try simp only [Act.put, List.setIfInBounds_toArray, List.set_cons_zero, List.set_cons_succ])
      refine wpAnyH_take (i := 5) (oi := ⟨some 56, _, _, _, _, _⟩) (v := ?qbv5) rfl (by kernel_rfl) (by kernel_rfl) (by kernel_rfl) (fun _ _ _ h => h) (Or.inl ⟨by rfl, ?qbhy5⟩) hHeld ?qbr5
      case qbhy5 => (intro w hSw; (try dsimp only at hSw); go_simp; (try with_reducible rfl))
      (try simp only [Act.put, List.setIfInBounds_toArray, List.set_cons_zero, List.set_cons_succ])
      refine wpAnyH_take (i := 6) (oi := ⟨some 57, _, _, _, _, _⟩) (v := ?qbv6) rfl (by kernel_rfl) (by kernel_rfl) (by kernel_rfl) (fun _ _ _ h => h) (Or.inl ⟨by rfl, ?qbhy6⟩) hHeld ?qbr6
      case qbhy6 => (intro w hSw; (try dsimp only at hSw); go_simp; (try with_reducible rfl))
      (try simp only [Act.put, List.setIfInBounds_toArray, List.set_cons_zero, List.set_cons_succ])
      refine wpAnyH_take (i := 7) (oi := ⟨some 58, _, _, _, _, _⟩) (v := ?qbv7) rfl (by kernel_rfl) (by kernel_rfl) (by kernel_rfl) (fun _ _ _ h => h) (Or.inl ⟨by rfl, ?qbhy7⟩) hHeld ?qbr7
      case qbhy7 => (intro w hSw; (try dsimp only at hSw); go_simp; (try with_reducible rfl))
      (try simp only [Act.put, List.setIfInBounds_toArray, List.set_cons_zero, List.set_cons_succ])
      refine wpAnyH_take (i := 8) (oi := ⟨some 59, _, _, _, _, _⟩) (v := (.agg m.eff.cells)) rfl (by kernel_rfl) (by kernel_rfl) (by kernel_rfl) (fun _ _ _ h => h) (yields_load (by rfl) 33 _ rfl b 32 rfl m.eff.cells _ (fun w' h => Mach.cells_e h) Try.underlying33 rfl eff_size) hHeld ?qbr8
      (try simp only [Act.put, List.setIfInBounds_toArray, List.set_cons_zero, List.set_cons_succ])
      refine wpAnyH_ready (rs := [9]) (by kernel_rfl) (by simp) ?qbc9
      refine AllReadyH.cons (o := ⟨none, _, _, _, _, _⟩) rfl (fun K hK => ?qbst9) AllReadyH.nil
      (rw [if_pos (by rfl)]; refine wpOp_store_row 35 _ _ rfl (w.heap.size + 1) rfl m.v.cells c1 35 rfl K14.out s1.symm vm_size (vm_one _) ?_; rintro w5 hk5 ho5; have K15 := Lib.hid hk5; have HO5 := Lib.hid ho5; clear hk5)
      refine hK.out _ _ ?qbk9 (fun hHeld2 => ?qbm9)
      case qbk9 => first | exact hc | exact fun o => (ho5.cell (Nat.lt_of_lt_of_le (blk_lt HM.out) (Nat.le_refl _)) (by omega)).trans (hHeld o) | exact fun o => (ho6.cell (Nat.lt_of_lt_of_le (blk_lt HM.out) HO5.out.size) (by omega)).trans (hHeld o)
      clear hK K hHeld
      have hHeld := hHeld2; clear hHeld2
      (try simp only [Act.put, List.setIfInBounds_toArray, List.set_cons_zero, List.set_cons_succ])
      refine wpAnyH_take (i := 10) (oi := ⟨some 7, _, _, _, _, _⟩) (v := ?qbv10) rfl (by kernel_rfl) (by kernel_rfl) (by kernel_rfl) (fun _ _ _ h => h) (Or.inl ⟨by rfl, ?qbhy10⟩) hHeld ?qbr10
      case qbhy10 => (intro w hSw; (try dsimp only at hSw); go_simp; (try with_reducible rfl))
      (try simp only [Act.put, List.setIfInBounds_toArray, List.set_cons_zero, List.set_cons_succ])
      refine wpAnyH_ready (rs := [11]) (by kernel_rfl) (by simp) ?qbc11
      refine AllReadyH.cons (o := ⟨none, _, _, _, _, _⟩) rfl (fun K hK => ?qbst11) AllReadyH.nil
      (rw [if_pos (by rfl)]; refine wpOp_store_row 33 _ _ rfl (w.heap.size + 1 + 1) rfl m.eff.cells c2 33 rfl (blk_only (w := wr.drew) K24.out HO5.out (by omega)) s2.symm eff_size (eff_one _) ?_; rintro w6 hk6 ho6; have K26 := Lib.hid hk6; have K16 := Lib.hid (blk_only K15.out ho6 (by omega)); have HO6 := Lib.hid ho6; clear hk6)
      refine hK.out _ _ ?qbk11 (fun hHeld2 => ?qbm11)
      case qbk11 => first | exact hc | exact fun o => (ho5.cell (Nat.lt_of_lt_of_le (blk_lt HM.out) (Nat.le_refl _)) (by omega)).trans (hHeld o) | exact fun o => (ho6.cell (Nat.lt_of_lt_of_le (blk_lt HM.out) HO5.out.size) (by omega)).trans (hHeld o)
      clear hK K hHeld
      have hHeld := hHeld2; clear hHeld2
      (try simp only [Act.put, List.setIfInBounds_toArray, List.set_cons_zero, List.set_cons_succ])
      refine wpAnyH_take (i := 12) (oi := ⟨some 9, _, _, _, _, _⟩) (v := ?qbv12) rfl (by kernel_rfl) (by kernel_rfl) (by kernel_rfl) (fun _ _ _ h => h) (Or.inl ⟨by rfl, ?qbhy12⟩) hHeld ?qbr12
      case qbhy12 => (intro w hSw; (try dsimp only at hSw); go_simp; (try with_reducible rfl))
      (try simp only [Act.put, List.setIfInBounds_toArray, List.set_cons_zero, List.set_cons_succ])
      refine wpAnyH_done (by kernel_rfl) ?qbdone _
      have HBF := Lib.hid (below_only (below_only HB4.out.drew HO5.out (by omega) HB4.out.size) HO6.out (by omega) (Nat.le_trans HB4.out.size HO5.out.size))
      clear hHeld ho5 ho6 hc hfr mfr
      go_wp2_with fail
      refine bodyPost_ret (results_ctct Try.results16 _ _ _ _ m.v.cells m.eff.cells _ _ rfl (load_vm K16.out) rfl rfl (load_eff K26.out) rfl) rfl ⟨?_, HBF.out⟩
      rw [RV.out]
      rfl
/-- Run, for every processor, program and number. -/
theorem Run_any (v : Vm) (va : Value) (p : List Ins) (n : Int) (w : World) (ht : v.typed) (hp : Instrs w va p) :
    Calls Try.prog 16 #[.agg v.cells, va, .int .i64 n] w fun en w' => en = .returned (runVal (runRes v p n)) ∧ Below w.heap.size w w' := by
  by_cases h : checkE v p (betw n) = 0
  · rw [runRes_ok h]; exact Run_ok v va p n w ht hp h
  · rw [runRes_no h]; exact Run_no v va p n w ht hp h
end Go.Proofs.Ytbllialcfmpkaaa
