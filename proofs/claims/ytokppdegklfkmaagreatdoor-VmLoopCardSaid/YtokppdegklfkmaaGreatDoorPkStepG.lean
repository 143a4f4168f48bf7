/- Merged: Check, StepF, RunF, WaitF. -/
import Derived.Test.YtokppdegklfkmaaGreatDoorPkVmValG
import Derived.Test.YtokppdegklfkmaaGreatDoorPkExecG
import Derived.Test.YtokppdegklfkmaaGreatDoorPkValidG
import Derived.Test.YtokppdegklfkmaaGreatDoorPkBlockG
import Derived.StillTailTactics
import Derived.Test.YtokppdegklfkmaaGreatDoorPkKn
import Derived.Test.YtokppdegklfkmaaGreatDoorPkRefVal2
set_option linter.unusedVariables false
set_option linter.unusedSimpArgs false
set_option linter.unusedSectionVars false
namespace Go.Proofs.YtokppdegklfkmaaGreatDoor
section
open Go.RowKit
attribute [local go_sem] Vm.get0 Vm.get1 Vm.get2 Vm.get3 Vm.get4 Vm.get5 Vm.get6 Vm.get7 Vm.get8 Vm.get9 Vm.get10 Vm.get11 Vm.get12 Vm.get13 Vm.get14 Vm.get15 Vm.get16 Vm.get17 Vm.get18 Vm.get19 Vm.get20 Vm.get21 Vm.get22 Vm.get23 Vm.get24 

theorem vm_size : (Tryz.prog.info? 35).map (·.size) = some 25 := by kernel_rfl
/-- What check answers. -/
def checkE (v : Vm) (p : List Ins) (b : Int) : Int := if v.ok = false then 74 else if ¬ progErr p = 0 then progErr p else if ¬ b = 0 then b else if v.state = 0 then 0 else 4

set_option maxRecDepth 100000 in
set_option maxHeartbeats 4000000 in
theorem check3_any (v : Vm) (va : Value) (p : List Ins) (b : Int) (w : World) (ht : v.typed) (hp : Instrs w va p) :
    Calls Tryz.prog 19 #[.agg v.cells, va, .int .i64 b] w fun en w' => en = .returned (.int .i64 (checkE v p b)) ∧ Below w.heap.size w w' := by
  obtain ⟨a, c, rfl, _⟩ := hp.form
  have HP := Lib.hid hp
  have TT := Lib.hid ht
  clear hp ht
  go_enter Tryz.func19, Tryz.ntmps19
  go_wp2_with (refine wpList_load_row rfl 35 (.tmp 3) rfl w.heap.size rfl 35 v.cells (0, 0) _ (blk_new _ _ _) Tryz.underlying35 rfl vm_size ?_)
  refine (Valid_any v _ TT.out).mono ?_
  rintro e w1 ⟨rfl, hb1⟩
  have hbl := Below.trans ((Below.refl w.heap.size w).alloc (Nat.le_refl _) (.cells v.cells 35)) (hb1.mono (by simp))
  have hst : w1.cell? ⟨w.heap.size, 2, none⟩ = some (.int .i64 v.state) := (hb1.cell (by simp)).trans ((blk_cell (blk_new w v.cells 35) 2).trans (v.get2))
  have HP1 := Lib.hid (HP.out.below hbl)
  have HB1 := Lib.hid hbl
  have hz1 := hbl.size
  have hq1 : w.heap.size < w1.heap.size := by have := hb1.size; simp at this; omega
  clear hb1 hbl
  rcases Bool.eq_false_or_eq_true v.ok with hv | hv
  case inr =>
    have he : checkE v p b = 74 := by unfold checkE; rw [if_pos hv]
    have HE := Lib.hid he
    clear he
    go_wp2
    go_ret
    exact ⟨ret_int HE.out.symm, HB1.out⟩
  rw [hv]
  have HV := Lib.hid hv
  clear hv
  go_wp2_with fail
  refine (Validate_any _ p _ HP1.out).mono ?_
  rintro e w2 ⟨rfl, hb2⟩
  have hst2 : w2.cell? ⟨w.heap.size, 2, none⟩ = some (.int .i64 v.state) := (hb2.cell (by exact hq1)).trans hst
  have HB2 := Lib.hid (HB1.out.trans (hb2.mono hz1))
  clear hb2 hst
  by_cases h1 : progErr p = 0
  · have n1 : (progErr p != 0) = false := by rw [bne_eq_false_iff_eq]; exact h1
    have H1 := Lib.hid h1
    clear h1
    by_cases h2 : b = 0
    · subst h2
      by_cases h3 : v.state = 0
      · have n3 : (v.state != 0) = false := by rw [bne_eq_false_iff_eq]; exact h3
        have he : checkE v p 0 = 0 := by unfold checkE; rw [if_neg (by rw [HV.out]; decide), if_neg (by rw [H1.out]; decide), if_neg (by decide), if_pos h3]
        have HE := Lib.hid he
        clear he h3
        go_wp2
        go_ret
        exact ⟨ret_int HE.out.symm, HB2.out⟩
      · have n3 : (v.state != 0) = true := by rw [bne_iff_ne]; exact h3
        have he : checkE v p 0 = 4 := by unfold checkE; rw [if_neg (by rw [HV.out]; decide), if_neg (by rw [H1.out]; decide), if_neg (by decide), if_neg h3]
        have HE := Lib.hid he
        clear he h3
        go_wp2
        go_ret
        exact ⟨ret_int HE.out.symm, HB2.out⟩
    · have n2 : (b != 0) = true := by rw [bne_iff_ne]; exact h2
      have he : checkE v p b = b := by unfold checkE; rw [if_neg (by rw [HV.out]; decide), if_neg (by rw [H1.out]; decide), if_pos h2]
      have HE := Lib.hid he
      clear he h2
      go_wp2
      go_ret
      exact ⟨ret_int HE.out.symm, HB2.out⟩
  · have n1 : (progErr p != 0) = true := by rw [bne_iff_ne]; exact h1
    have he : checkE v p b = progErr p := by unfold checkE; rw [if_neg (by rw [HV.out]; decide), if_pos h1]
    have HE := Lib.hid he
    clear he h1
    go_wp2
    go_ret
    exact ⟨ret_int HE.out.symm, HB2.out⟩
end
section
open Go.RowKit
attribute [local go_sem] Vm.get0 Vm.get1 Vm.get2 Vm.get3 Vm.get4 Vm.get5 Vm.get6 Vm.get7 Vm.get8 Vm.get9 Vm.get10 Vm.get11 Vm.get12 Vm.get13 Vm.get14 Vm.get15 Vm.get16 Vm.get17 Vm.get18 Vm.get19 Vm.get20 Vm.get21 Vm.get22 Vm.get23 Vm.get24 Mach.get0 Mach.get1 Mach.get2 Mach.get3 Mach.get4 Mach.get5 Mach.get6 Mach.get7 Mach.get8 Mach.get9 Mach.get10 Mach.get11 Mach.get12 Mach.get13 Mach.get14 Mach.get15 Mach.get16 Mach.get17 Mach.get18 Mach.get19 Mach.get20 Mach.get21 Mach.get22 Mach.get23 Mach.get24 Mach.get25 Mach.get26 Mach.get27 Mach.get28 Mach.get29 Mach.get30 Mach.get31 Mach.get32 Mach.get33 Mach.get34 Mach.get35 Mach.get36

theorem eff_size : (Tryz.prog.info? 33).map (·.size) = some 5 := by kernel_rfl
def stepRes (v : Vm) (p : List Ins) : Vm × Eff × Int := if checkE v p 0 = 0 then ((stepS v p).1, (stepS v p).2, 0) else (Vm.zero, Eff.none, checkE v p 0)
def stepVal (r : Vm × Eff × Int) : Value := .tuple #[.agg r.1.cells, .agg r.2.1.cells, .int .i64 r.2.2]
theorem stepRes_no {v : Vm} {p : List Ins} (h : ¬ checkE v p 0 = 0) : stepRes v p = (Vm.zero, Eff.none, checkE v p 0) := by unfold stepRes; rw [if_neg h]
theorem stepRes_ok {v : Vm} {p : List Ins} (h : checkE v p 0 = 0) : stepRes v p = ((stepS v p).1, (stepS v p).2, 0) := by unfold stepRes; rw [if_pos h]
theorem load_vm {w : World} {g : Nat} {v : Vm} (h : BlkT w g v.cells 35) : (loadVar 35 ⟨g, 0, none⟩).run Tryz.prog w = .ok (.agg v.cells) w := run_loadVar_row w g _ _ _ (0, 0) _ h Tryz.underlying35 rfl vm_size
theorem load_eff {w : World} {g : Nat} {e : Eff} (h : BlkT w g e.cells 33) : (loadVar 33 ⟨g, 0, none⟩).run Tryz.prog w = .ok (.agg e.cells) w := run_loadVar_row w g _ _ _ (0, 0) _ h Tryz.underlying33 rfl eff_size
theorem vm_one (v : Vm) : v.cells.all (·.oneCell') = true := by kernel_rfl
theorem eff_one (e : Eff) : e.cells.all (·.oneCell') = true := by kernel_rfl
/-- The machine at its start. -/
def Mach.start (v : Vm) (a : Option Addr) (n c : Nat) : Mach := ⟨v, a, n, c, ⟨0, 0, 0, 0, 0⟩, 0, Eff.none⟩

set_option maxRecDepth 100000 in
set_option maxHeartbeats 4000000 in
theorem Step_no (v : Vm) (va : Value) (p : List Ins) (w : World) (ht : v.typed) (hp : Instrs w va p) (hc : ¬ checkE v p 0 = 0) :
    Calls Tryz.prog 23 #[.agg v.cells, va] w fun en w' => en = .returned (stepVal (Vm.zero, Eff.none, checkE v p 0)) ∧ Below w.heap.size w w' := by
  obtain ⟨a, c, rfl, _⟩ := hp.form
  have HP := Lib.hid hp
  have TT := Lib.hid ht
  have n1 : (checkE v p 0 != 0) = true := by rw [bne_iff_ne]; exact hc
  clear hp ht hc
  go_enter Tryz.func23, Tryz.ntmps23
  go_wp2_with (refine wpList_load_row rfl 35 (.tmp 2) rfl w.heap.size rfl 35 v.cells (0, 0) _ (blk_below (blk_new w v.cells 35) (((Below.refl _ _).alloc (by simp) _).alloc (by simp) _)) Tryz.underlying35 rfl vm_size ?_)
  generalize hw0 : World.alloc _ _ = w0
  have hb0 : Below w.heap.size w w0 := by rw [← hw0]; exact ((((Below.refl _ _).alloc (Nat.le_refl _) _).alloc (by simp) _).alloc (by simp; omega) _)
  have he0 : ∃ cs, cs.size = 25 ∧ BlkT w0 (w.heap.size + 1) cs 35 := by rw [← hw0]; refine ⟨_, ?_, blk_below (blk_new2 (by simp)) ((Below.refl _ _).alloc (Nat.le_refl _) _)⟩; rfl
  have hf0 : ∃ cs, cs.size = 5 ∧ BlkT w0 (w.heap.size + 1 + 1) cs 33 := by rw [← hw0]; refine ⟨_, ?_, blk_new2 (by simp)⟩; rfl
  obtain ⟨c1, s1, k1⟩ := he0
  obtain ⟨c2, s2, k2⟩ := hf0
  refine (check3_any v _ p 0 _ TT.out (HP.out.below hb0)).mono ?_
  rintro e w1 ⟨rfl, hb1⟩
  have K1 := Lib.hid (blk_below k1 hb1)
  have K2 := Lib.hid (blk_below k2 hb1)
  have HB1 := Lib.hid (hb0.trans (hb1.mono hb0.size))
  clear hb0 hb1 k1 k2 hw0
  go_wp2_with (first | (refine wpList_built rfl 35 #[] rfl Vm.zero.cells (by kernel_rfl) ?_) | (refine wpList_built rfl 33 #[] rfl Eff.none.cells (by kernel_rfl) ?_) | (refine wpList_store_row rfl 35 _ _ rfl (w.heap.size + 1) rfl Vm.zero.cells c1 35 rfl K1.out s1.symm vm_size (vm_one _) ?_; rintro w2 hk2 ho2; have K2' := Lib.hid (blk_only K2.out ho2 (by omega)); have K1' := Lib.hid hk2; have HO2 := Lib.hid ho2; clear hk2 ho2) | (refine wpList_store_row rfl 33 _ _ rfl (w.heap.size + 2) rfl Eff.none.cells c2 33 rfl K2'.out s2.symm eff_size (eff_one _) ?_; rintro w3 hk3 ho3; have K3 := Lib.hid hk3; have K4 := Lib.hid (blk_only K1'.out ho3 (by omega)); have HO3 := Lib.hid ho3; clear hk3 ho3))
  refine bodyPost_ret (results_cct Tryz.results23 _ _ _ _ Vm.zero.cells Eff.none.cells _ rfl (load_vm K4.out) rfl (load_eff K3.out) rfl) rfl ⟨rfl, ?_⟩
  exact below_only (below_only HB1.out HO2.out (by omega) HB1.out.size) HO3.out (by omega) (Nat.le_trans HB1.out.size HO2.out.size)

theorem checkE_ok {v : Vm} {p : List Ins} {b : Int} (h : checkE v p b = 0) : v.ok = true ∧ progErr p = 0 ∧ b = 0 ∧ v.state = 0 := by
  unfold checkE at h
  by_cases h1 : v.ok = false
  · rw [if_pos h1] at h; omega
  rw [if_neg h1] at h
  by_cases h2 : progErr p = 0
  · rw [if_neg (by simpa using h2)] at h
    by_cases h3 : b = 0
    · rw [if_neg (by simpa using h3)] at h
      by_cases h4 : v.state = 0
      · exact ⟨by simpa using h1, h2, h3, h4⟩
      · rw [if_neg h4] at h; omega
    · rw [if_pos h3] at h; exact absurd h h3
  · rw [if_pos h2] at h; exact absurd h h2
theorem Vm.ok_fits {v : Vm} (h : v.ok = true) (ht : v.typed) : v.fits := by
  unfold Vm.ok at h
  simp only [Bool.and_eq_true, decide_eq_true_eq, List.all_eq_true] at h
  obtain ⟨⟨⟨hw, hp⟩, hr⟩, _⟩ := h
  have hw2 : v.width = 32 ∨ v.width = 39 := by simpa [wide] using hw
  refine ⟨hw2, ht.len, fun i => ⟨(ht.reg i).1, ?_⟩, hp⟩
  by_cases hi : i < v.regs.length
  · have : v.r i = v.regs[i] := by unfold Vm.r; rw [List.getD_eq_getElem?_getD, List.getElem?_eq_getElem hi]; rfl
    rw [this]
    exact hr _ (List.getElem_mem hi)
  · have : v.r i = 0 := by unfold Vm.r; rw [List.getD_eq_getElem?_getD, List.getElem?_eq_none (by omega)]; rfl
    rw [this]; exact (pw2_pos _).1
theorem firstErr_mem {n : Int} : ∀ {p : List Ins}, firstErr n p = 0 → ∀ x ∈ p, insErr x n = 0
  | [], _, _, h => by simp at h
  | y :: p, hf, x, h => by
    simp only [firstErr] at hf
    by_cases hy : insErr y n = 0
    · rw [if_pos hy] at hf
      rcases List.mem_cons.1 h with rfl | h
      · exact hy
      · exact firstErr_mem hf x h
    · rw [if_neg hy] at hf; exact absurd hf hy
theorem progErr_good {p : List Ins} (h : progErr p = 0) (hf : ∀ x ∈ p, x.fits) : Good p := by
  by_cases h1 : p.length = 0 ∨ 4096 < p.length
  · unfold progErr at h; rw [if_pos h1] at h; omega
  · rw [progErr_ok h1] at h
    exact ⟨by omega, firstErr_mem h, fun x hx => (hf x hx).1⟩
theorem Instrs.ps {w : World} {v : Value} {p : List Ins} (h : Instrs w v p) (hp : 1 ≤ p.length) : ∃ g off c, v = .slice (some ⟨g, off, none⟩) p.length c ∧ PS w g off p := by
  obtain ⟨a, c, hv, hc⟩ := h.form
  obtain ⟨g, off, ha, hg, _⟩ := hc 0 _ (List.getElem?_eq_getElem (show 0 < p.length by omega))
  refine ⟨g, off, c, by rw [hv, ha], hg, fun i x hx => ?_⟩
  obtain ⟨g', off', ha', _, _, _, h0, h1, h2, h3, h4⟩ := hc i x hx
  rw [ha] at ha'
  simp only [Option.some.injEq, Addr.mk.injEq] at ha'
  obtain ⟨rfl, rfl, _⟩ := ha'
  exact ⟨h0, h1, h2, h3, h4⟩

/-- The processor's and the effect's cells among the machine's. -/
theorem Mach.cells_v {m : Mach} {w : World} {b : Nat} (h : ∀ o, w.cell? ⟨b, o, none⟩ = m.cells[o]?) : w.rangeAt b 0 m.v.cells.toList := fun j x hj => by
  rw [h]
  have e : m.cells = m.v.cells ++ #[.slice m.pa m.pn m.pk, .int .i64 m.ins.op, .int .i64 m.ins.a, .int .i64 m.ins.b, .int .i64 m.ins.c, .int .i32 m.ins.imm, .int .i64 m.next,
    .int .i64 m.eff.kind, .int .i64 m.eff.reg, .int .i64 m.eff.num, .int .u64 m.eff.addr, .int .u64 m.eff.value] := by kernel_rfl
  have hj' : m.v.cells[j]? = some x := by simpa using hj
  have hl : j < m.v.cells.size := (Array.getElem?_eq_some_iff.1 hj').1
  rw [e, Nat.zero_add, Array.getElem?_append_left hl]; exact hj'
theorem Mach.cells_e {m : Mach} {w : World} {b : Nat} (h : ∀ o, w.cell? ⟨b, o, none⟩ = m.cells[o]?) : w.rangeAt b 32 m.eff.cells.toList := fun j x hj => by
  rw [h]
  have hj' : m.eff.cells[j]? = some x := by simpa using hj
  have hl : j < 5 := (Array.getElem?_eq_some_iff.1 hj').1
  rw [← hj']
  have h5 : j = 0 ∨ j = 1 ∨ j = 2 ∨ j = 3 ∨ j = 4 := by omega
  rcases h5 with rfl | rfl | rfl | rfl | rfl <;> rfl
set_option maxRecDepth 100000 in
set_option maxHeartbeats 4000000 in
theorem Step_ok (v : Vm) (va : Value) (p : List Ins) (w : World) (ht : v.typed) (hp : Instrs w va p) (hc : checkE v p 0 = 0) :
    Calls Tryz.prog 23 #[.agg v.cells, va] w fun en w' => en = .returned (stepVal ((stepS v p).1, (stepS v p).2, 0)) ∧ Below w.heap.size w w' := by
  obtain ⟨ok, pe, _, _⟩ := checkE_ok hc
  have FT := Lib.hid (Vm.ok_fits ok ht)
  have GP := Lib.hid (progErr_good pe hp.2)
  obtain ⟨g, off, c, rfl, ps⟩ := hp.ps GP.out.len.1
  have HP := Lib.hid hp
  have TT := Lib.hid ht
  have PP := Lib.hid ps
  have HC := Lib.hid hc
  have n1 : (checkE v p 0 != 0) = false := by rw [bne_eq_false_iff_eq]; exact hc
  clear hp ht hc ok pe ps
  go_enter Tryz.func23, Tryz.ntmps23
  go_wp2_with (refine wpList_load_row rfl 35 (.tmp 2) rfl w.heap.size rfl 35 v.cells (0, 0) _ (blk_below (blk_new w v.cells 35) (((Below.refl _ _).alloc (by simp) _).alloc (by simp) _)) Tryz.underlying35 rfl vm_size ?_)
  generalize hw0 : World.alloc _ _ = w0
  have hb0 : Below w.heap.size w w0 := by rw [← hw0]; exact ((((Below.refl _ _).alloc (Nat.le_refl _) _).alloc (by simp) _).alloc (by simp; omega) _)
  have hv0 : BlkT w0 w.heap.size v.cells 35 := by rw [← hw0]; exact blk_below (blk_new w v.cells 35) (((Below.refl _ _).alloc (by simp) _).alloc (by simp) _)
  have he0 : ∃ cs, cs.size = 25 ∧ BlkT w0 (w.heap.size + 1) cs 35 := by rw [← hw0]; refine ⟨_, ?_, blk_below (blk_new2 (by simp)) ((Below.refl _ _).alloc (Nat.le_refl _) _)⟩; rfl
  have hf0 : ∃ cs, cs.size = 5 ∧ BlkT w0 (w.heap.size + 1 + 1) cs 33 := by rw [← hw0]; refine ⟨_, ?_, blk_new2 (by simp)⟩; rfl
  obtain ⟨c1, s1, k1⟩ := he0
  obtain ⟨c2, s2, k2⟩ := hf0
  refine (check3_any v _ p 0 _ TT.out (HP.out.below hb0)).mono ?_
  rintro e w1 ⟨rfl, hb1⟩
  rw [HC.out]
  have KV := Lib.hid (blk_below hv0 hb1)
  have K1 := Lib.hid (blk_below k1 hb1)
  have K2 := Lib.hid (blk_below k2 hb1)
  have HB1 := Lib.hid (hb0.trans (hb1.mono hb0.size))
  clear hb0 hb1 k1 k2 hw0 hv0 n1
  go_wp2_with (first | (refine wpList_load_row rfl 35 (.tmp 2) rfl w.heap.size rfl 35 v.cells (0, 0) _ KV.out Tryz.underlying35 rfl vm_size ?_) | (refine wpList_built rfl 62 _ rfl (Mach.start v (some ⟨g, off, none⟩) p.length c).cells (by kernel_rfl) ?_))
  obtain ⟨b, hb⟩ : ∃ b, b = w1.heap.size := ⟨_, rfl⟩
  rw [← hb]
  generalize hw2 : World.alloc _ _ = w2
  have hmb : MB w2 b (Mach.start v (some ⟨g, off, none⟩) p.length c) := by rw [← hw2]; exact blk_new2 hb
  have hb2 : Below w1.heap.size w1 w2 := by rw [← hw2]; exact (Below.refl _ _).alloc (Nat.le_refl _) _
  refine (instructions_any b w2).mono ?_
  rintro e w3 ⟨rfl, rfl⟩
  have hb3 : Below w2.heap.size w2 (w2.alloc (.cells (tabA b) 1)) := (Below.refl _ _).alloc (Nat.le_refl _) _
  have htb : TB (w2.alloc (.cells (tabA b) 1)) w2.heap.size b := blk_new w2 _ _
  have hlt := hmb.lt
  have hmb3 := hmb.blk.alloc (.cells (tabA b) 1)
  generalize hw3 : World.alloc _ _ = w3
  rw [hw3] at hb3 htb hmb3
  have P3 := (PP.out.below (hb2.trans (hb3.mono hb2.size) |>.mono HB1.out.size |> (HB1.out.trans ·)))
  have K13 := Lib.hid (blk_below K1.out (hb2.trans (hb3.mono hb2.size)))
  have K23 := Lib.hid (blk_below K2.out (hb2.trans (hb3.mono hb2.size)))
  have HB3 := Lib.hid (HB1.out.trans ((hb2.trans (hb3.mono hb2.size)).mono HB1.out.size))
  have HBZ := Lib.hid hb
  clear hb hw3 hw2
  go_wp2_with fail
  have hmb4 : MB w3 b (Mach.start v (some ⟨g, off, none⟩) p.length c) := hmb3
  clear hmb3
  have q1 : g ≠ b := by have := PP.out.1; have := HB1.out.size; have := HBZ.out; omega
  have q2 : w2.heap.size ≠ b := by omega
  refine (step_any b _ g off (Mach.start v (some ⟨g, off, none⟩) p.length c) p w3 hmb4 FT.out GP.out P3 q1 rfl rfl htb q2).mono ?_
  rintro e w4 ⟨rfl, m', hm4, ho4, e1, e2, -⟩
  obtain ⟨hc4, hf4⟩ := hm4.all
  have hbw : w.heap.size + 1 + 1 < b := by have := blk_lt K2.out; have := HBZ.out; omega
  have K14 := Lib.hid (blk_only K13.out ho4 (by omega))
  have K24 := Lib.hid (blk_only K23.out ho4 (by omega))
  have HB4 := Lib.hid (below_only HB3.out ho4 (by omega) HB3.out.size)
  have E1 := Lib.hid e1
  have E2 := Lib.hid e2
  have M4 := Lib.hid hm4
  clear hm4 ho4 e1 e2 hmb4 htb P3 hb3 hb2 q2 HBZ hlt
  go_wp2_with fail
  refine wp_region_held_drew (S := (fun w' => ∀ o, w'.cell? ⟨b, o, none⟩ = m'.cells[o]?)) (by kernel_rfl) ?qhS (fun hHeld => ?qrest)
  case qhS => first | exact hc4 | exact fun o => (ho5.cell (Nat.lt_of_lt_of_le (blk_lt M4.out) (Nat.le_refl _)) (by omega)).trans (hHeld o) | exact fun o => (ho6.cell (Nat.lt_of_lt_of_le (blk_lt M4.out) HO5.out.size) (by omega)).trans (hHeld o)
  refine wpAnyH_take (i := 0) (oi := ⟨some 25, _, _, _, _, _⟩) (v := ?qv0) rfl (by kernel_rfl) (by kernel_rfl) (by kernel_rfl) (fun _ _ _ h => h) (Or.inl ⟨by rfl, ?qhy0⟩) hHeld ?qr0
  case qhy0 => (intro w hSw; (try dsimp only at hSw); go_simp; (try with_reducible rfl))
  (try simp only [Act.put, List.setIfInBounds_toArray, List.set_cons_zero, List.set_cons_succ])
  refine wpAnyH_take (i := 1) (oi := ⟨some 26, _, _, _, _, _⟩) (v := ?qv1) rfl (by kernel_rfl) (by kernel_rfl) (by kernel_rfl) (fun _ _ _ h => h) (Or.inl ⟨by rfl, ?qhy1⟩) hHeld ?qr1
  case qhy1 => (intro w hSw; (try dsimp only at hSw); go_simp; (try with_reducible rfl))
  (try simp only [Act.put, List.setIfInBounds_toArray, List.set_cons_zero, List.set_cons_succ])
  refine wpAnyH_take (i := 2) (oi := ⟨some 27, _, _, _, _, _⟩) (v := ?qv2) rfl (by kernel_rfl) (by kernel_rfl) (by kernel_rfl) (fun _ _ _ h => h) (Or.inl ⟨by rfl, ?qhy2⟩) hHeld ?qr2
  case qhy2 => (intro w hSw; (try dsimp only at hSw); go_simp; (try with_reducible rfl))
  (try simp only [Act.put, List.setIfInBounds_toArray, List.set_cons_zero, List.set_cons_succ])
  refine wpAnyH_take (i := 3) (oi := ⟨some 28, _, _, _, _, _⟩) (v := (.agg m'.v.cells)) rfl (by kernel_rfl) (by kernel_rfl) (by kernel_rfl) (fun _ _ _ h => h) (yields_load (by rfl) 35 _ rfl b 0 rfl m'.v.cells _ (fun w' h => Mach.cells_v h) Tryz.underlying35 rfl vm_size) hHeld ?qr3
  (try simp only [Act.put, List.setIfInBounds_toArray, List.set_cons_zero, List.set_cons_succ])
  refine wpAnyH_take (i := 4) (oi := ⟨some 29, _, _, _, _, _⟩) (v := ?qv4) rfl (by kernel_rfl) (by kernel_rfl) (by kernel_rfl) (fun _ _ _ h => h) (Or.inl ⟨by rfl, ?qhy4⟩) hHeld ?qr4
  case qhy4 => (intro w hSw; (try dsimp only at hSw); go_simp; (try with_reducible rfl))
  (try simp only [Act.put, List.setIfInBounds_toArray, List.set_cons_zero, List.set_cons_succ])
  refine wpAnyH_take (i := 5) (oi := ⟨some 30, _, _, _, _, _⟩) (v := ?qv5) rfl (by kernel_rfl) (by kernel_rfl) (by kernel_rfl) (fun _ _ _ h => h) (Or.inl ⟨by rfl, ?qhy5⟩) hHeld ?qr5
  case qhy5 => (intro w hSw; (try dsimp only at hSw); go_simp; (try with_reducible rfl))
  (try simp only [Act.put, List.setIfInBounds_toArray, List.set_cons_zero, List.set_cons_succ])
  refine wpAnyH_take (i := 6) (oi := ⟨some 31, _, _, _, _, _⟩) (v := ?qv6) rfl (by kernel_rfl) (by kernel_rfl) (by kernel_rfl) (fun _ _ _ h => h) (Or.inl ⟨by rfl, ?qhy6⟩) hHeld ?qr6
  case qhy6 => (intro w hSw; (try dsimp only at hSw); go_simp; (try with_reducible rfl))
  (try simp only [Act.put, List.setIfInBounds_toArray, List.set_cons_zero, List.set_cons_succ])
  refine wpAnyH_take (i := 7) (oi := ⟨some 32, _, _, _, _, _⟩) (v := (.agg m'.eff.cells)) rfl (by kernel_rfl) (by kernel_rfl) (by kernel_rfl) (fun _ _ _ h => h) (yields_load (by rfl) 33 _ rfl b 32 rfl m'.eff.cells _ (fun w' h => Mach.cells_e h) Tryz.underlying33 rfl eff_size) hHeld ?qr7
  (try simp only [Act.put, List.setIfInBounds_toArray, List.set_cons_zero, List.set_cons_succ])
  refine wpAnyH_ready (rs := [8]) (by kernel_rfl) (by simp) ?qc8
  refine AllReadyH.cons (o := ⟨none, _, _, _, _, _⟩) rfl (fun K hK => ?qst8) AllReadyH.nil
  (rw [if_pos (by rfl)]; refine wpOp_store_row 35 _ _ rfl (w.heap.size + 1) rfl m'.v.cells c1 35 rfl K14.out s1.symm vm_size (vm_one _) ?_; rintro w5 hk5 ho5; have K15 := Lib.hid hk5; have HO5 := Lib.hid ho5; clear hk5)
  refine hK.out _ _ ?qk8 (fun hHeld2 => ?qm8)
  case qk8 => first | exact hc4 | exact fun o => (ho5.cell (Nat.lt_of_lt_of_le (blk_lt M4.out) (Nat.le_refl _)) (by omega)).trans (hHeld o) | exact fun o => (ho6.cell (Nat.lt_of_lt_of_le (blk_lt M4.out) HO5.out.size) (by omega)).trans (hHeld o)
  clear hK K hHeld
  have hHeld := hHeld2; clear hHeld2
  (try simp only [Act.put, List.setIfInBounds_toArray, List.set_cons_zero, List.set_cons_succ])
  refine wpAnyH_ready (rs := [9]) (by kernel_rfl) (by simp) ?qc9
  refine AllReadyH.cons (o := ⟨none, _, _, _, _, _⟩) rfl (fun K hK => ?qst9) AllReadyH.nil
  (rw [if_pos (by rfl)]; refine wpOp_store_row 33 _ _ rfl (w.heap.size + 1 + 1) rfl m'.eff.cells c2 33 rfl (blk_only (w := w4.drew) K24.out HO5.out (by omega)) s2.symm eff_size (eff_one _) ?_; rintro w6 hk6 ho6; have K26 := Lib.hid hk6; have K16 := Lib.hid (blk_only K15.out ho6 (by omega)); have HO6 := Lib.hid ho6; clear hk6)
  refine hK.out _ _ ?qk9 (fun hHeld2 => ?qm9)
  case qk9 => first | exact hc4 | exact fun o => (ho5.cell (Nat.lt_of_lt_of_le (blk_lt M4.out) (Nat.le_refl _)) (by omega)).trans (hHeld o) | exact fun o => (ho6.cell (Nat.lt_of_lt_of_le (blk_lt M4.out) HO5.out.size) (by omega)).trans (hHeld o)
  clear hK K hHeld
  have hHeld := hHeld2; clear hHeld2
  (try simp only [Act.put, List.setIfInBounds_toArray, List.set_cons_zero, List.set_cons_succ])
  refine wpAnyH_take (i := 10) (oi := ⟨some 6, _, _, _, _, _⟩) (v := ?qv10) rfl (by kernel_rfl) (by kernel_rfl) (by kernel_rfl) (fun _ _ _ h => h) (Or.inl ⟨by rfl, ?qhy10⟩) hHeld ?qr10
  case qhy10 => (intro w hSw; (try dsimp only at hSw); go_simp; (try with_reducible rfl))
  (try simp only [Act.put, List.setIfInBounds_toArray, List.set_cons_zero, List.set_cons_succ])
  refine wpAnyH_done (by kernel_rfl) ?qdone _
  have E := E1.out
  have E' := E2.out
  have HBF := Lib.hid (below_only (below_only HB4.out.drew HO5.out (by omega) HB4.out.size) HO6.out (by omega) (Nat.le_trans HB4.out.size HO5.out.size))
  clear hHeld ho5 ho6 hc4 hf4
  go_wp2_with fail
  refine bodyPost_ret (results_cct Tryz.results23 _ _ _ _ m'.v.cells m'.eff.cells _ rfl (load_vm K16.out) rfl (load_eff K26.out) rfl) rfl ⟨?_, HBF.out⟩
  rw [E, E']
  rfl
/-- Step, for every processor and program. -/
theorem Step_any (v : Vm) (va : Value) (p : List Ins) (w : World) (ht : v.typed) (hp : Instrs w va p) :
    Calls Tryz.prog 23 #[.agg v.cells, va] w fun en w' => en = .returned (stepVal (stepRes v p)) ∧ Below w.heap.size w w' := by
  by_cases h : checkE v p 0 = 0
  · rw [stepRes_ok h]; exact Step_ok v va p w ht hp h
  · rw [stepRes_no h]; exact Step_no v va p w ht hp h
end
section
open Go.RowKit
attribute [local go_sem] Vm.get0 Vm.get1 Vm.get2 Vm.get3 Vm.get4 Vm.get5 Vm.get6 Vm.get7 Vm.get8 Vm.get9 Vm.get10 Vm.get11 Vm.get12 Vm.get13 Vm.get14 Vm.get15 Vm.get16 Vm.get17 Vm.get18 Vm.get19 Vm.get20 Vm.get21 Vm.get22 Vm.get23 Vm.get24 Mach.get0 Mach.get1 Mach.get2 Mach.get3 Mach.get4 Mach.get5 Mach.get6 Mach.get7 Mach.get8 Mach.get9 Mach.get10 Mach.get11 Mach.get12 Mach.get13 Mach.get14 Mach.get15 Mach.get16 Mach.get17 Mach.get18 Mach.get19 Mach.get20 Mach.get21 Mach.get22 Mach.get23 Mach.get24 Mach.get25 Mach.get26 Mach.get27 Mach.get28 Mach.get29 Mach.get30 Mach.get31 Mach.get32 Mach.get33 Mach.get34 Mach.get35 Mach.get36

def betw (n : Int) : Int := if n < 1 ∨ 1000000 < n then 1 else 0
def runRes (v : Vm) (p : List Ins) (n : Int) : Vm × Nat × Eff × Int :=
  if checkE v p (betw n) = 0 then ((runF p n.toNat (v, Eff.none)).1, (runF p n.toNat (v, Eff.none)).2.1, (runF p n.toNat (v, Eff.none)).2.2, 0) else (Vm.zero, 0, Eff.none, checkE v p (betw n))
def runVal (r : Vm × Nat × Eff × Int) : Value := .tuple #[.agg r.1.cells, .int .i64 (r.2.1 : Nat), .agg r.2.2.1.cells, .int .i64 r.2.2.2]
theorem runRes_no {v : Vm} {p : List Ins} {n : Int} (h : ¬ checkE v p (betw n) = 0) : runRes v p n = (Vm.zero, 0, Eff.none, checkE v p (betw n)) := by unfold runRes; rw [if_neg h]
theorem runRes_ok {v : Vm} {p : List Ins} {n : Int} (h : checkE v p (betw n) = 0) : runRes v p n = ((runF p n.toNat (v, Eff.none)).1, (runF p n.toNat (v, Eff.none)).2.1, (runF p n.toNat (v, Eff.none)).2.2, 0) := by unfold runRes; rw [if_pos h]

set_option maxRecDepth 100000 in
set_option maxHeartbeats 4000000 in
theorem Run_no (v : Vm) (va : Value) (p : List Ins) (n : Int) (w : World) (ht : v.typed) (hp : Instrs w va p) (hc : ¬ checkE v p (betw n) = 0) :
    Calls Tryz.prog 7 #[.agg v.cells, va, .int .i64 n] w fun en w' => en = .returned (runVal (Vm.zero, 0, Eff.none, checkE v p (betw n))) ∧ Below w.heap.size w w' := by
  obtain ⟨a, c, rfl, _⟩ := hp.form
  have HP := Lib.hid hp
  have TT := Lib.hid ht
  have hcases : n < 1 ∨ (1 ≤ n ∧ 1000000 < n) ∨ (1 ≤ n ∧ n ≤ 1000000) := by omega
  clear hp ht
  rcases hcases with hn | ⟨hn0, hn⟩ | ⟨hn0, hn⟩
  case' inl => have hbw : betw n = 1 := by unfold betw; rw [if_pos (by omega)]
  case' inr.inl => have hbw : betw n = 1 := by unfold betw; rw [if_pos (by omega)]
  case' inr.inr => have hbw : betw n = 0 := by unfold betw; rw [if_neg (by omega)]
  all_goals
    rw [hbw] at hc ⊢
    have n1 := bne_iff_ne.2 hc
    clear hc hbw
    go_enter Tryz.func7, Tryz.ntmps7
    go_wp2_with (refine wpList_load_row rfl 35 (.tmp 3) rfl w.heap.size rfl 35 v.cells (0, 0) _ (blk_below (blk_new w v.cells 35) (((Below.refl _ _).alloc (by simp) _).alloc (by simp) _)) Tryz.underlying35 rfl vm_size ?_)
    generalize hw0 : World.alloc _ _ = w0
    have hb0 : Below w.heap.size w w0 := by rw [← hw0]; exact ((((Below.refl _ _).alloc (Nat.le_refl _) _).alloc (by simp) _).alloc (by simp; omega) _)
    have he0 : ∃ cs, cs.size = 25 ∧ BlkT w0 (w.heap.size + 1) cs 35 := by rw [← hw0]; refine ⟨_, ?_, blk_below (blk_new2 (by simp)) ((Below.refl _ _).alloc (Nat.le_refl _) _)⟩; rfl
    have hf0 : ∃ cs, cs.size = 5 ∧ BlkT w0 (w.heap.size + 1 + 1) cs 33 := by rw [← hw0]; refine ⟨_, ?_, blk_new2 (by simp)⟩; rfl
    obtain ⟨c1, s1, k1⟩ := he0
    obtain ⟨c2, s2, k2⟩ := hf0
    refine (check3_any v _ p _ _ TT.out (HP.out.below hb0)).mono ?_
    rintro e w1 ⟨rfl, hb1⟩
    have K1 := Lib.hid (blk_below k1 hb1)
    have K2 := Lib.hid (blk_below k2 hb1)
    have HB1 := Lib.hid (hb0.trans (hb1.mono hb0.size))
    clear hb0 hb1 k1 k2 hw0
    go_wp2_with (first | (refine wpList_built rfl 35 #[] rfl Vm.zero.cells (by kernel_rfl) ?_) | (refine wpList_built rfl 33 #[] rfl Eff.none.cells (by kernel_rfl) ?_) | (refine wpList_store_row rfl 35 _ _ rfl (w.heap.size + 1) rfl Vm.zero.cells c1 35 rfl K1.out s1.symm vm_size (vm_one _) ?_; rintro w2 hk2 ho2; have K2' := Lib.hid (blk_only K2.out ho2 (by omega)); have K1' := Lib.hid hk2; have HO2 := Lib.hid ho2; clear hk2 ho2) | (refine wpList_store_row rfl 33 _ _ rfl (w.heap.size + 2) rfl Eff.none.cells c2 33 rfl K2'.out s2.symm eff_size (eff_one _) ?_; rintro w3 hk3 ho3; have K3 := Lib.hid hk3; have K4 := Lib.hid (blk_only K1'.out ho3 (by omega)); have HO3 := Lib.hid ho3; clear hk3 ho3))
    refine bodyPost_ret (results_ctct Tryz.results7 _ _ _ _ Vm.zero.cells Eff.none.cells _ _ rfl (load_vm K4.out) rfl rfl (load_eff K3.out) rfl) rfl ⟨rfl, ?_⟩
    exact below_only (below_only HB1.out HO2.out (by omega) HB1.out.size) HO3.out (by omega) (Nat.le_trans HB1.out.size HO2.out.size)

/-- What is so at each round's head. -/
def RunRel (v : Vm) (p : List Ins) (N b t g off : Nat) (W : World) (cn : Value) (wr : World) : Prop :=
  ∃ (k : Nat) (m : Mach), k ≤ N ∧ cn = .int .i64 k ∧ MB wr b m ∧ Only b W wr ∧ TB wr t b ∧ PS wr g off p ∧ m.v.fits ∧ m.pa = some ⟨g, off, none⟩ ∧ m.pn = p.length ∧ runF p N (v, Eff.none) = runAt p N k (m.v, m.eff)
theorem runVal_of {v : Vm} {p : List Ins} {N k : Nat} {m : Mach} (h : runF p N (v, Eff.none) = runAt p N k (m.v, m.eff)) (hs : ¬ m.eff.kind = 0 ∨ k = N) :
    runVal ((runF p N (v, Eff.none)).1, (runF p N (v, Eff.none)).2.1, (runF p N (v, Eff.none)).2.2, 0) = .tuple #[.agg m.v.cells, .int .i64 (k : Nat), .agg m.eff.cells, .int .i64 0] := by
  have : runF p N (v, Eff.none) = (m.v, k, m.eff) := by
    rcases hs with hs | hs
    · rw [h, runAt_stop (by exact hs)]
    · rw [h, hs, runAt_full]
  rw [this]; rfl

set_option maxRecDepth 100000 in
set_option maxHeartbeats 4000000 in
theorem Run_ok (v : Vm) (va : Value) (p : List Ins) (n : Int) (w : World) (ht : v.typed) (hp : Instrs w va p) (hc : checkE v p (betw n) = 0) :
    Calls Tryz.prog 7 #[.agg v.cells, va, .int .i64 n] w fun en w' => en = .returned (runVal ((runF p n.toNat (v, Eff.none)).1, (runF p n.toNat (v, Eff.none)).2.1, (runF p n.toNat (v, Eff.none)).2.2, 0)) ∧ Below w.heap.size w w' := by
  obtain ⟨ok, pe, hb, _⟩ := checkE_ok hc
  have hn : 1 ≤ n ∧ n ≤ 1000000 := by
    unfold betw at hb
    by_cases h : n < 1 ∨ 1000000 < n
    · rw [if_pos h] at hb; omega
    · omega
  rw [hb] at hc
  obtain ⟨N, rfl⟩ := Int.eq_ofNat_of_zero_le (show 0 ≤ n by omega)
  rw [Int.toNat_natCast]
  obtain ⟨hn0, hn1⟩ := hn
  have FT := Lib.hid (Vm.ok_fits ok ht)
  have GP := Lib.hid (progErr_good pe hp.2)
  obtain ⟨g, off, c, rfl, ps⟩ := hp.ps GP.out.len.1
  have HP := Lib.hid hp
  have TT := Lib.hid ht
  have PP := Lib.hid ps
  have HC := Lib.hid hc
  have n1 : (checkE v p 0 != 0) = false := by rw [bne_eq_false_iff_eq]; exact hc
  clear hp ht hc ok pe ps hb
  go_enter Tryz.func7, Tryz.ntmps7
  go_wp2_with (refine wpList_load_row rfl 35 (.tmp 3) rfl w.heap.size rfl 35 v.cells (0, 0) _ (blk_below (blk_new w v.cells 35) (((Below.refl _ _).alloc (by simp) _).alloc (by simp) _)) Tryz.underlying35 rfl vm_size ?_)
  generalize hw0 : World.alloc _ _ = w0
  have hb0 : Below w.heap.size w w0 := by rw [← hw0]; exact ((((Below.refl _ _).alloc (Nat.le_refl _) _).alloc (by simp) _).alloc (by simp; omega) _)
  have hv0 : BlkT w0 w.heap.size v.cells 35 := by rw [← hw0]; exact blk_below (blk_new w v.cells 35) (((Below.refl _ _).alloc (by simp) _).alloc (by simp) _)
  have he0 : ∃ cs, cs.size = 25 ∧ BlkT w0 (w.heap.size + 1) cs 35 := by rw [← hw0]; refine ⟨_, ?_, blk_below (blk_new2 (by simp)) ((Below.refl _ _).alloc (Nat.le_refl _) _)⟩; rfl
  have hf0 : ∃ cs, cs.size = 5 ∧ BlkT w0 (w.heap.size + 1 + 1) cs 33 := by rw [← hw0]; refine ⟨_, ?_, blk_new2 (by simp)⟩; rfl
  obtain ⟨c1, s1, k1⟩ := he0
  obtain ⟨c2, s2, k2⟩ := hf0
  refine (check3_any v _ p 0 _ TT.out (HP.out.below hb0)).mono ?_
  rintro e w1 ⟨rfl, hb1⟩
  rw [HC.out]
  have KV := Lib.hid (blk_below hv0 hb1)
  have K1 := Lib.hid (blk_below k1 hb1)
  have K2 := Lib.hid (blk_below k2 hb1)
  have HB1 := Lib.hid (hb0.trans (hb1.mono hb0.size))
  clear hb0 hb1 k1 k2 hw0 hv0 n1
  go_wp2_with (first | (refine wpList_load_row rfl 35 (.tmp 3) rfl w.heap.size rfl 35 v.cells (0, 0) _ KV.out Tryz.underlying35 rfl vm_size ?_) | (refine wpList_built rfl 62 _ rfl (Mach.start v (some ⟨g, off, none⟩) p.length c).cells (by kernel_rfl) ?_))
  obtain ⟨b, hb⟩ : ∃ b, b = w1.heap.size := ⟨_, rfl⟩
  rw [← hb]
  generalize hw2 : World.alloc _ _ = w2
  have hmb : MB w2 b (Mach.start v (some ⟨g, off, none⟩) p.length c) := by rw [← hw2]; exact blk_new2 hb
  have hb2 : Below w1.heap.size w1 w2 := by rw [← hw2]; exact (Below.refl _ _).alloc (Nat.le_refl _) _
  refine (instructions_any b w2).mono ?_
  rintro e w3 ⟨rfl, rfl⟩
  have hb3 : Below w2.heap.size w2 (w2.alloc (.cells (tabA b) 1)) := (Below.refl _ _).alloc (Nat.le_refl _) _
  have htb : TB (w2.alloc (.cells (tabA b) 1)) w2.heap.size b := blk_new w2 _ _
  have hlt := hmb.lt
  have hmb3 := hmb.blk.alloc (.cells (tabA b) 1)
  generalize hw3 : World.alloc _ _ = w3
  rw [hw3] at hb3 htb hmb3
  have P3 := (PP.out.below (hb2.trans (hb3.mono hb2.size) |>.mono HB1.out.size |> (HB1.out.trans ·)))
  have K13 := Lib.hid (blk_below K1.out (hb2.trans (hb3.mono hb2.size)))
  have K23 := Lib.hid (blk_below K2.out (hb2.trans (hb3.mono hb2.size)))
  have HB3 := Lib.hid (HB1.out.trans ((hb2.trans (hb3.mono hb2.size)).mono HB1.out.size))
  have HBZ := Lib.hid hb
  clear hb hw3 hw2
  have hmb4 : MB w3 b (Mach.start v (some ⟨g, off, none⟩) p.length c) := hmb3
  clear hmb3
  have q1 : g ≠ b := by have := PP.out.1; have := HB1.out.size; have := HBZ.out; omega
  have q2 : w2.heap.size ≠ b := by omega
  have hbw : w.heap.size + 1 + 1 < b := by have := blk_lt K2.out; have := HBZ.out; omega
  obtain ⟨t, ht⟩ : ∃ t, t = w2.heap.size := ⟨_, rfl⟩
  rw [← ht] at htb q2 ⊢
  have HREL : Hid (RunRel v p N b t g off w3 (.int .i64 0) w3) := Lib.hid ⟨0, _, Nat.zero_le _, rfl, hmb4, Only.refl _ _, htb, P3, FT.out, rfl, rfl, rfl⟩
  have Q2 := Lib.hid q2
  clear hmb4 htb P3 hb3 hb2 hlt ht q2 hmb
  go_wp2_with fail
  go_loopw [7] (fun cn wr => RunRel v p N b t g off w3 cn wr) (fun cn _ => N - (intOf cn).toNat)
  case atStart => exact HREL.out
  case round =>
    obtain ⟨k, m, hk, rfl, hm, ho, htb, hps, hf, hpa, hpn, hrun⟩ := hrel
    obtain ⟨hc, hfr⟩ := hm.all
    have HM := Lib.hid hm
    have HO := Lib.hid ho
    have HT := Lib.hid htb
    have HPS := Lib.hid hps
    have HF := Lib.hid hf
    have HPA := Lib.hid hpa
    have HPN := Lib.hid hpn
    have HR := Lib.hid hrun
    have mfr := hfr
    clear hm ho htb hps hf hpa hpn hrun
    have h3 : (k < N ∧ m.eff.kind = 0) ∨ (k < N ∧ (m.eff.kind == 0) = false) ∨ ¬ k < N := by
      by_cases h1 : k < N
      · by_cases h2 : m.eff.kind = 0
        · exact .inl ⟨h1, h2⟩
        · exact .inr (.inl ⟨h1, by rw [beq_eq_false_iff_ne]; exact h2⟩)
      · exact .inr (.inr h1)
    rcases h3 with ⟨hlt, hke⟩ | ⟨hlt, hkb⟩ | hlt
    case inl =>
      have hkb : (m.eff.kind == 0) = true := by rw [beq_iff_eq]; exact hke
      have HKE := Lib.hid hke
      clear hke
      go_wp2_with fail
      refine (step_any b t g off m p _ HM.out HF.out GP.out HPS.out q1 HPA.out HPN.out HT.out Q2.out).mono ?_
      rintro e w4 ⟨rfl, m', hm4, ho4, e1, e2, e3, e4, e5⟩
      have HM4 := Lib.hid hm4
      have HO4 := Lib.hid ho4
      have E1 := Lib.hid e1
      have E2 := Lib.hid e2
      have E3 := Lib.hid e3
      have E4 := Lib.hid e4
      clear hm4 ho4 e1 e2 e3 e4 e5 hc hfr mfr
      go_wp2_with fail
      go_roundw
      case rel =>
        refine ⟨k + 1, m', hlt, by go_num, HM4.out, HO.out.trans HO4.out, HT.out.only HO4.out Q2.out, HPS.out.only HO4.out q1, ?_, E3.out.trans HPA.out, E4.out.trans HPN.out, ?_⟩
        · rw [E1.out]; exact stepS_fits HF.out GP.out
        · rw [HR.out, runAt_next HKE.out hlt, E1.out, E2.out]
      case measure => simp [intOf]; omega
    case' inr.inl => have RV := Lib.hid (runVal_of HR.out (.inl (beq_eq_false_iff_ne.1 hkb)))
    case' inr.inr => have RV := Lib.hid (runVal_of HR.out (.inr (by omega)))
    case inr.inl =>
      have K14 := Lib.hid (blk_only K13.out HO.out (by omega))
      have K24 := Lib.hid (blk_only K23.out HO.out (by omega))
      have HB4 := Lib.hid (below_only HB3.out HO.out (by omega) HB3.out.size)
      obtain ⟨wq, hwq⟩ : ∃ wq, wq = wr := ⟨_, rfl⟩
      go_wp2_with fail
      clear hwq wq
      refine wp_region_held_drew (S := (fun w' => ∀ o, w'.cell? ⟨b, o, none⟩ = m.cells[o]?)) (by kernel_rfl) ?qahS (fun hHeld => ?qarest)
      case qahS => first | exact hc | exact fun o => (ho5.cell (Nat.lt_of_lt_of_le (blk_lt HM.out) (Nat.le_refl _)) (by omega)).trans (hHeld o) | exact fun o => (ho6.cell (Nat.lt_of_lt_of_le (blk_lt HM.out) HO5.out.size) (by omega)).trans (hHeld o)
      refine wpAnyH_take (i := 0) (oi := ⟨some 51, _, _, _, _, _⟩) (v := ?qav0) rfl (by kernel_rfl) (by kernel_rfl) (by kernel_rfl) (fun _ _ _ h => h) (Or.inl ⟨by rfl, ?qahy0⟩) hHeld ?qar0
      case qahy0 => (intro w hSw; (try dsimp only at hSw); go_simp; (try with_reducible rfl))
      (try simp only [Act.put, List.setIfInBounds_toArray, List.set_cons_zero, List.set_cons_succ])
      refine wpAnyH_take (i := 1) (oi := ⟨some 52, _, _, _, _, _⟩) (v := ?qav1) rfl (by kernel_rfl) (by kernel_rfl) (by kernel_rfl) (fun _ _ _ h => h) (Or.inl ⟨by rfl, ?qahy1⟩) hHeld ?qar1
      case qahy1 => (intro w hSw; (try dsimp only at hSw); go_simp; (try with_reducible rfl))
      (try simp only [Act.put, List.setIfInBounds_toArray, List.set_cons_zero, List.set_cons_succ])
      refine wpAnyH_take (i := 2) (oi := ⟨some 53, _, _, _, _, _⟩) (v := ?qav2) rfl (by kernel_rfl) (by kernel_rfl) (by kernel_rfl) (fun _ _ _ h => h) (Or.inl ⟨by rfl, ?qahy2⟩) hHeld ?qar2
      case qahy2 => (intro w hSw; (try dsimp only at hSw); go_simp; (try with_reducible rfl))
      (try simp only [Act.put, List.setIfInBounds_toArray, List.set_cons_zero, List.set_cons_succ])
      refine wpAnyH_take (i := 3) (oi := ⟨some 54, _, _, _, _, _⟩) (v := (.agg m.v.cells)) rfl (by kernel_rfl) (by kernel_rfl) (by kernel_rfl) (fun _ _ _ h => h) (yields_load (by rfl) 35 _ rfl b 0 rfl m.v.cells _ (fun w' h => Mach.cells_v h) Tryz.underlying35 rfl vm_size) hHeld ?qar3
      (try simp only [Act.put, List.setIfInBounds_toArray, List.set_cons_zero, List.set_cons_succ])
      refine wpAnyH_take (i := 4) (oi := ⟨some 55, _, _, _, _, _⟩) (v := ?qav4) rfl (by kernel_rfl) (by kernel_rfl) (by kernel_rfl) (fun _ _ _ h => h) (Or.inl ⟨by rfl, ?qahy4⟩) hHeld ?qar4
      case qahy4 => (intro w hSw; (try dsimp only at hSw); go_simp; (try with_reducible rfl))
      (try simp only [Act.put, List.setIfInBounds_toArray, List.set_cons_zero, List.set_cons_succ])
      refine wpAnyH_take (i := 5) (oi := ⟨some 56, _, _, _, _, _⟩) (v := ?qav5) rfl (by kernel_rfl) (by kernel_rfl) (by kernel_rfl) (fun _ _ _ h => h) (Or.inl ⟨by rfl, ?qahy5⟩) hHeld ?qar5
      case qahy5 => (intro w hSw; (try dsimp only at hSw); go_simp; (try with_reducible rfl))
      (try simp only [Act.put, List.setIfInBounds_toArray, List.set_cons_zero, List.set_cons_succ])
      refine wpAnyH_take (i := 6) (oi := ⟨some 57, _, _, _, _, _⟩) (v := ?qav6) rfl (by kernel_rfl) (by kernel_rfl) (by kernel_rfl) (fun _ _ _ h => h) (Or.inl ⟨by rfl, ?qahy6⟩) hHeld ?qar6
      case qahy6 => (intro w hSw; (try dsimp only at hSw); go_simp; (try with_reducible rfl))
      (try simp only [Act.put, List.setIfInBounds_toArray, List.set_cons_zero, List.set_cons_succ])
      refine wpAnyH_take (i := 7) (oi := ⟨some 58, _, _, _, _, _⟩) (v := ?qav7) rfl (by kernel_rfl) (by kernel_rfl) (by kernel_rfl) (fun _ _ _ h => h) (Or.inl ⟨by rfl, ?qahy7⟩) hHeld ?qar7
      case qahy7 => (intro w hSw; (try dsimp only at hSw); go_simp; (try with_reducible rfl))
      (try simp only [Act.put, List.setIfInBounds_toArray, List.set_cons_zero, List.set_cons_succ])
      refine wpAnyH_take (i := 8) (oi := ⟨some 59, _, _, _, _, _⟩) (v := (.agg m.eff.cells)) rfl (by kernel_rfl) (by kernel_rfl) (by kernel_rfl) (fun _ _ _ h => h) (yields_load (by rfl) 33 _ rfl b 32 rfl m.eff.cells _ (fun w' h => Mach.cells_e h) Tryz.underlying33 rfl eff_size) hHeld ?qar8
      (try simp only [Act.put, List.setIfInBounds_toArray, List.set_cons_zero, List.set_cons_succ])
      refine wpAnyH_ready (rs := [9]) (by kernel_rfl) (by simp) ?qac9
      refine AllReadyH.cons (o := ⟨none, _, _, _, _, _⟩) rfl (fun K hK => ?qast9) AllReadyH.nil
      (rw [if_pos (by rfl)]; refine wpOp_store_row 35 _ _ rfl (w.heap.size + 1) rfl m.v.cells c1 35 rfl K14.out s1.symm vm_size (vm_one _) ?_; rintro w5 hk5 ho5; have K15 := Lib.hid hk5; have HO5 := Lib.hid ho5; clear hk5)
      refine hK.out _ _ ?qak9 (fun hHeld2 => ?qam9)
      case qak9 => first | exact hc | exact fun o => (ho5.cell (Nat.lt_of_lt_of_le (blk_lt HM.out) (Nat.le_refl _)) (by omega)).trans (hHeld o) | exact fun o => (ho6.cell (Nat.lt_of_lt_of_le (blk_lt HM.out) HO5.out.size) (by omega)).trans (hHeld o)
      clear hK K hHeld
      have hHeld := hHeld2; clear hHeld2
      (try simp only [Act.put, List.setIfInBounds_toArray, List.set_cons_zero, List.set_cons_succ])
      refine wpAnyH_take (i := 10) (oi := ⟨some 7, _, _, _, _, _⟩) (v := ?qav10) rfl (by kernel_rfl) (by kernel_rfl) (by kernel_rfl) (fun _ _ _ h => h) (Or.inl ⟨by rfl, ?qahy10⟩) hHeld ?qar10
      case qahy10 => (intro w hSw; (try dsimp only at hSw); go_simp; (try with_reducible rfl))
      (try simp only [Act.put, List.setIfInBounds_toArray, List.set_cons_zero, List.set_cons_succ])
      refine wpAnyH_ready (rs := [11]) (by kernel_rfl) (by simp) ?qac11
      refine AllReadyH.cons (o := ⟨none, _, _, _, _, _⟩) rfl (fun K hK => ?qast11) AllReadyH.nil
      (rw [if_pos (by rfl)]; refine wpOp_store_row 33 _ _ rfl (w.heap.size + 1 + 1) rfl m.eff.cells c2 33 rfl (blk_only (w := wr.drew) K24.out HO5.out (by omega)) s2.symm eff_size (eff_one _) ?_; rintro w6 hk6 ho6; have K26 := Lib.hid hk6; have K16 := Lib.hid (blk_only K15.out ho6 (by omega)); have HO6 := Lib.hid ho6; clear hk6)
      refine hK.out _ _ ?qak11 (fun hHeld2 => ?qam11)
      case qak11 => first | exact hc | exact fun o => (ho5.cell (Nat.lt_of_lt_of_le (blk_lt HM.out) (Nat.le_refl _)) (by omega)).trans (hHeld o) | exact fun o => (ho6.cell (Nat.lt_of_lt_of_le (blk_lt HM.out) HO5.out.size) (by omega)).trans (hHeld o)
      clear hK K hHeld
      have hHeld := hHeld2; clear hHeld2
      (try simp only [Act.put, List.setIfInBounds_toArray, List.set_cons_zero, List.set_cons_succ])
      refine wpAnyH_take (i := 12) (oi := ⟨some 9, _, _, _, _, _⟩) (v := ?qav12) rfl (by kernel_rfl) (by kernel_rfl) (by kernel_rfl) (fun _ _ _ h => h) (Or.inl ⟨by rfl, ?qahy12⟩) hHeld ?qar12
      case qahy12 => (intro w hSw; (try dsimp only at hSw); go_simp; (try with_reducible rfl))
      (try simp only [Act.put, List.setIfInBounds_toArray, List.set_cons_zero, List.set_cons_succ])
      refine wpAnyH_done (by kernel_rfl) ?qadone _
      have HBF := Lib.hid (below_only (below_only HB4.out.drew HO5.out (by omega) HB4.out.size) HO6.out (by omega) (Nat.le_trans HB4.out.size HO5.out.size))
      clear hHeld ho5 ho6 hc hfr mfr
      go_wp2_with fail
      refine bodyPost_ret (results_ctct Tryz.results7 _ _ _ _ m.v.cells m.eff.cells _ _ rfl (load_vm K16.out) rfl rfl (load_eff K26.out) rfl) rfl ⟨?_, HBF.out⟩
      rw [RV.out]
      rfl
    case inr.inr =>
      have K14 := Lib.hid (blk_only K13.out HO.out (by omega))
      have K24 := Lib.hid (blk_only K23.out HO.out (by omega))
      have HB4 := Lib.hid (below_only HB3.out HO.out (by omega) HB3.out.size)
      obtain ⟨wq, hwq⟩ : ∃ wq, wq = wr := ⟨_, rfl⟩
      go_wp2_with fail
      clear hwq wq
      refine wp_region_held_drew (S := (fun w' => ∀ o, w'.cell? ⟨b, o, none⟩ = m.cells[o]?)) (by kernel_rfl) ?qbhS (fun hHeld => ?qbrest)
      case qbhS => first | exact hc | exact fun o => (ho5.cell (Nat.lt_of_lt_of_le (blk_lt HM.out) (Nat.le_refl _)) (by omega)).trans (hHeld o) | exact fun o => (ho6.cell (Nat.lt_of_lt_of_le (blk_lt HM.out) HO5.out.size) (by omega)).trans (hHeld o)
      refine wpAnyH_take (i := 0) (oi := ⟨some 51, _, _, _, _, _⟩) (v := ?qbv0) rfl (by kernel_rfl) (by kernel_rfl) (by kernel_rfl) (fun _ _ _ h => h) (Or.inl ⟨by rfl, ?qbhy0⟩) hHeld ?qbr0
      case qbhy0 => (intro w hSw; (try dsimp only at hSw); go_simp; (try with_reducible rfl))
      (try simp only [Act.put, List.setIfInBounds_toArray, List.set_cons_zero, List.set_cons_succ])
      refine wpAnyH_take (i := 1) (oi := ⟨some 52, _, _, _, _, _⟩) (v := ?qbv1) rfl (by kernel_rfl) (by kernel_rfl) (by kernel_rfl) (fun _ _ _ h => h) (Or.inl ⟨by rfl, ?qbhy1⟩) hHeld ?qbr1
      case qbhy1 => (intro w hSw; (try dsimp only at hSw); go_simp; (try with_reducible rfl))
      (try simp only [Act.put, List.setIfInBounds_toArray, List.set_cons_zero, List.set_cons_succ])
      refine wpAnyH_take (i := 2) (oi := ⟨some 53, _, _, _, _, _⟩) (v := ?qbv2) rfl (by kernel_rfl) (by kernel_rfl) (by kernel_rfl) (fun _ _ _ h => h) (Or.inl ⟨by rfl, ?qbhy2⟩) hHeld ?qbr2
      case qbhy2 => (intro w hSw; (try dsimp only at hSw); go_simp; (try with_reducible rfl))
      (try simp only [Act.put, List.setIfInBounds_toArray, List.set_cons_zero, List.set_cons_succ])
      refine wpAnyH_take (i := 3) (oi := ⟨some 54, _, _, _, _, _⟩) (v := (.agg m.v.cells)) rfl (by kernel_rfl) (by kernel_rfl) (by kernel_rfl) (fun _ _ _ h => h) (yields_load (by rfl) 35 _ rfl b 0 rfl m.v.cells _ (fun w' h => Mach.cells_v h) Tryz.underlying35 rfl vm_size) hHeld ?qbr3
      (try simp only [Act.put, List.setIfInBounds_toArray, List.set_cons_zero, List.set_cons_succ])
      refine wpAnyH_take (i := 4) (oi := ⟨some 55, _, _, _, _, _⟩) (v := ?qbv4) rfl (by kernel_rfl) (by kernel_rfl) (by kernel_rfl) (fun _ _ _ h => h) (Or.inl ⟨by rfl, ?qbhy4⟩) hHeld ?qbr4
      case qbhy4 => (intro w hSw; (try dsimp only at hSw); go_simp; (try with_reducible rfl))
      (try simp only [Act.put, List.setIfInBounds_toArray, List.set_cons_zero, List.set_cons_succ])
      refine wpAnyH_take (i := 5) (oi := ⟨some 56, _, _, _, _, _⟩) (v := ?qbv5) rfl (by kernel_rfl) (by kernel_rfl) (by kernel_rfl) (fun _ _ _ h => h) (Or.inl ⟨by rfl, ?qbhy5⟩) hHeld ?qbr5
      case qbhy5 => (intro w hSw; (try dsimp only at hSw); go_simp; (try with_reducible rfl))
      (try simp only [Act.put, List.setIfInBounds_toArray, List.set_cons_zero, List.set_cons_succ])
      refine wpAnyH_take (i := 6) (oi := ⟨some 57, _, _, _, _, _⟩) (v := ?qbv6) rfl (by kernel_rfl) (by kernel_rfl) (by kernel_rfl) (fun _ _ _ h => h) (Or.inl ⟨by rfl, ?qbhy6⟩) hHeld ?qbr6
      case qbhy6 => (intro w hSw; (try dsimp only at hSw); go_simp; (try with_reducible rfl))
      (try simp only [Act.put, List.setIfInBounds_toArray, List.set_cons_zero, List.set_cons_succ])
      refine wpAnyH_take (i := 7) (oi := ⟨some 58, _, _, _, _, _⟩) (v := ?qbv7) rfl (by kernel_rfl) (by kernel_rfl) (by kernel_rfl) (fun _ _ _ h => h) (Or.inl ⟨by rfl, ?qbhy7⟩) hHeld ?qbr7
      case qbhy7 => (intro w hSw; (try dsimp only at hSw); go_simp; (try with_reducible rfl))
      (try simp only [Act.put, List.setIfInBounds_toArray, List.set_cons_zero, List.set_cons_succ])
      refine wpAnyH_take (i := 8) (oi := ⟨some 59, _, _, _, _, _⟩) (v := (.agg m.eff.cells)) rfl (by kernel_rfl) (by kernel_rfl) (by kernel_rfl) (fun _ _ _ h => h) (yields_load (by rfl) 33 _ rfl b 32 rfl m.eff.cells _ (fun w' h => Mach.cells_e h) Tryz.underlying33 rfl eff_size) hHeld ?qbr8
      (try simp only [Act.put, List.setIfInBounds_toArray, List.set_cons_zero, List.set_cons_succ])
      refine wpAnyH_ready (rs := [9]) (by kernel_rfl) (by simp) ?qbc9
      refine AllReadyH.cons (o := ⟨none, _, _, _, _, _⟩) rfl (fun K hK => ?qbst9) AllReadyH.nil
      (rw [if_pos (by rfl)]; refine wpOp_store_row 35 _ _ rfl (w.heap.size + 1) rfl m.v.cells c1 35 rfl K14.out s1.symm vm_size (vm_one _) ?_; rintro w5 hk5 ho5; have K15 := Lib.hid hk5; have HO5 := Lib.hid ho5; clear hk5)
      refine hK.out _ _ ?qbk9 (fun hHeld2 => ?qbm9)
      case qbk9 => first | exact hc | exact fun o => (ho5.cell (Nat.lt_of_lt_of_le (blk_lt HM.out) (Nat.le_refl _)) (by omega)).trans (hHeld o) | exact fun o => (ho6.cell (Nat.lt_of_lt_of_le (blk_lt HM.out) HO5.out.size) (by omega)).trans (hHeld o)
      clear hK K hHeld
      have hHeld := hHeld2; clear hHeld2
      (try simp only [Act.put, List.setIfInBounds_toArray, List.set_cons_zero, List.set_cons_succ])
      refine wpAnyH_take (i := 10) (oi := ⟨some 7, _, _, _, _, _⟩) (v := ?qbv10) rfl (by kernel_rfl) (by kernel_rfl) (by kernel_rfl) (fun _ _ _ h => h) (Or.inl ⟨by rfl, ?qbhy10⟩) hHeld ?qbr10
      case qbhy10 => (intro w hSw; (try dsimp only at hSw); go_simp; (try with_reducible rfl))
      (try simp only [Act.put, List.setIfInBounds_toArray, List.set_cons_zero, List.set_cons_succ])
      refine wpAnyH_ready (rs := [11]) (by kernel_rfl) (by simp) ?qbc11
      refine AllReadyH.cons (o := ⟨none, _, _, _, _, _⟩) rfl (fun K hK => ?qbst11) AllReadyH.nil
      (rw [if_pos (by rfl)]; refine wpOp_store_row 33 _ _ rfl (w.heap.size + 1 + 1) rfl m.eff.cells c2 33 rfl (blk_only (w := wr.drew) K24.out HO5.out (by omega)) s2.symm eff_size (eff_one _) ?_; rintro w6 hk6 ho6; have K26 := Lib.hid hk6; have K16 := Lib.hid (blk_only K15.out ho6 (by omega)); have HO6 := Lib.hid ho6; clear hk6)
      refine hK.out _ _ ?qbk11 (fun hHeld2 => ?qbm11)
      case qbk11 => first | exact hc | exact fun o => (ho5.cell (Nat.lt_of_lt_of_le (blk_lt HM.out) (Nat.le_refl _)) (by omega)).trans (hHeld o) | exact fun o => (ho6.cell (Nat.lt_of_lt_of_le (blk_lt HM.out) HO5.out.size) (by omega)).trans (hHeld o)
      clear hK K hHeld
      have hHeld := hHeld2; clear hHeld2
      (try simp only [Act.put, List.setIfInBounds_toArray, List.set_cons_zero, List.set_cons_succ])
      refine wpAnyH_take (i := 12) (oi := ⟨some 9, _, _, _, _, _⟩) (v := ?qbv12) rfl (by kernel_rfl) (by kernel_rfl) (by kernel_rfl) (fun _ _ _ h => h) (Or.inl ⟨by rfl, ?qbhy12⟩) hHeld ?qbr12
      case qbhy12 => (intro w hSw; (try dsimp only at hSw); go_simp; (try with_reducible rfl))
      (try simp only [Act.put, List.setIfInBounds_toArray, List.set_cons_zero, List.set_cons_succ])
      refine wpAnyH_done (by kernel_rfl) ?qbdone _
      have HBF := Lib.hid (below_only (below_only HB4.out.drew HO5.out (by omega) HB4.out.size) HO6.out (by omega) (Nat.le_trans HB4.out.size HO5.out.size))
      clear hHeld ho5 ho6 hc hfr mfr
      go_wp2_with fail
      refine bodyPost_ret (results_ctct Tryz.results7 _ _ _ _ m.v.cells m.eff.cells _ _ rfl (load_vm K16.out) rfl rfl (load_eff K26.out) rfl) rfl ⟨?_, HBF.out⟩
      rw [RV.out]
      rfl
/-- Run, for every processor, program and number. -/
theorem Run_any (v : Vm) (va : Value) (p : List Ins) (n : Int) (w : World) (ht : v.typed) (hp : Instrs w va p) :
    Calls Tryz.prog 7 #[.agg v.cells, va, .int .i64 n] w fun en w' => en = .returned (runVal (runRes v p n)) ∧ Below w.heap.size w w' := by
  by_cases h : checkE v p (betw n) = 0
  · rw [runRes_ok h]; exact Run_ok v va p n w ht hp h
  · rw [runRes_no h]; exact Run_no v va p n w ht hp h
end
section
open Go.RowKit
def newRes (wd en : Int) : Vm × Int := if wide wd = true ∧ 0 ≤ en ∧ en ≤ 4096 then ({ Vm.zero with width := wd, pc := en }, 0) else (Vm.zero, 1)
def pairVal (r : Vm × Int) : Value := .tuple #[.agg r.1.cells, .int .i64 r.2]
set_option maxRecDepth 100000 in
theorem New_any (wd en : Int) (w : World) : Calls Tryz.prog 22 #[.int .i64 wd, .int .i64 en] w fun e w' => e = .returned (pairVal (newRes wd en)) ∧ Below w.heap.size w w' := by
  have h4 : (wide wd = true ∧ 0 ≤ en ∧ en ≤ 4096) ∨ wide wd = false ∨ (wide wd = true ∧ en < 0) ∨ (wide wd = true ∧ 0 ≤ en ∧ 4096 < en) := by
    cases h : wide wd
    · simp
    · simp; omega
  have KN := Kn.start w
  rcases h4 with ⟨hw, h0, h1⟩ | hw | ⟨hw, h0⟩ | ⟨hw, h0, h1⟩
  · have hr : newRes wd en = ({ Vm.zero with width := wd, pc := en }, 0) := by unfold newRes; rw [if_pos ⟨hw, h0, h1⟩]
    rw [hr]; clear hr
    go_enter Tryz.func22, Tryz.ntmps22
    go_wp2_with (first | (go_at_call 71; refine (validWidth_any wd _).mono ?_; rintro e w' ⟨rfl, rfl⟩; rw [hw]) | ((with_reducible refine wpList_gate ?_); first | ((refine gate_store (by rfl) ?_); first | (refine wpList_kn_storeW KN (by rfl) 35 _ _ rfl _ rfl _ rfl _ _ (by repeat (first | exact Repl.here | apply Repl.there)) (by kernel_rfl) (by kernel_rfl) (by kernel_rfl) ?_; clear KN; intro wx KN) | (refine wpList_kn_storeA KN (by rfl) 35 _ _ rfl _ _ rfl _ rfl _ _ (by repeat (first | exact Repl.here | apply Repl.there)) (by (try simp only [Array.size_setIfInBounds, putL_size]); first | exact Nat.le_of_ble_eq_true rfl | (simp; omega)) (by kernel_rfl) (by kernel_rfl) ?_; clear KN; intro wx KN)) | ((refine gate_new (by rfl) ?_); first | (refine wpList_built rfl 35 _ rfl ({ Vm.zero with width := wd, pc := en } : Vm).cells (by kernel_rfl) ?_) | (refine wpList_kn_alloc KN (by rfl) 35 rfl 4 rfl Vm.zero.cells (by kernel_rfl) ?_; clear KN; intro g4 wx hg4 KN) | (refine wpList_built rfl 35 #[] rfl Vm.zero.cells (by kernel_rfl) ?_))))
    exact bodyPost_ret (results_ct Tryz.results22 _ _ _ ({ Vm.zero with width := wd, pc := en } : Vm).cells _ rfl (load_vm (KN.at_ (by repeat (first | exact Has.here | refine Has.there ?_)))) rfl) rfl ⟨rfl, KN.toBelow⟩
  all_goals
    have hr : newRes wd en = (Vm.zero, 1) := by
      unfold newRes; rw [if_neg]
      rintro ⟨q0, q1, q2⟩
      first | omega | (rw [hw] at q0; cases q0)
    rw [hr]; clear hr
    go_enter Tryz.func22, Tryz.ntmps22
    go_wp2_with (first | (go_at_call 71; refine (validWidth_any wd _).mono ?_; rintro e w' ⟨rfl, rfl⟩; rw [hw]) | ((with_reducible refine wpList_gate ?_); first | ((refine gate_store (by rfl) ?_); first | (refine wpList_kn_storeW KN (by rfl) 35 _ _ rfl _ rfl _ rfl _ _ (by repeat (first | exact Repl.here | apply Repl.there)) (by kernel_rfl) (by kernel_rfl) (by kernel_rfl) ?_; clear KN; intro wx KN) | (refine wpList_kn_storeA KN (by rfl) 35 _ _ rfl _ _ rfl _ rfl _ _ (by repeat (first | exact Repl.here | apply Repl.there)) (by (try simp only [Array.size_setIfInBounds, putL_size]); first | exact Nat.le_of_ble_eq_true rfl | (simp; omega)) (by kernel_rfl) (by kernel_rfl) ?_; clear KN; intro wx KN)) | ((refine gate_new (by rfl) ?_); first | (refine wpList_kn_alloc KN (by rfl) 35 rfl 4 rfl Vm.zero.cells (by kernel_rfl) ?_; clear KN; intro g4 wx hg4 KN) | (refine wpList_built rfl 35 #[] rfl Vm.zero.cells (by kernel_rfl) ?_))))
    exact bodyPost_ret (results_ct Tryz.results22 _ _ _ Vm.zero.cells _ rfl (load_vm (KN.at_ (by repeat (first | exact Has.here | refine Has.there ?_)))) rfl) rfl ⟨rfl, KN.toBelow⟩
end
end Go.Proofs.YtokppdegklfkmaaGreatDoor
