/- The interpreter's check, Step and Run. -/
import Derived.Test.YtbllialcfmpkaaaVmValid3
import Derived.Test.YtbllialcfmpkaaaStepVm
import Derived.Test.YtbllialcfmpkaaaValidate
set_option linter.unusedVariables false
set_option linter.unusedSimpArgs false
set_option linter.unusedSectionVars false
namespace Go.Proofs.Ytbllialcfmpkaaa
open Go.RowKit
attribute [local go_sem] Vm.get0 Vm.get1 Vm.get2 Vm.get3 Vm.get4 Vm.get5 Vm.get6 Vm.get7 Vm.get8 Vm.get9 Vm.get10 Vm.get11 Vm.get12 Vm.get13 Vm.get14 Vm.get15 Vm.get16 Vm.get17 Vm.get18 Vm.get19 Vm.get20 Vm.get21 Vm.get22 Vm.get23 Vm.get24 

theorem vm_size : (Try.prog.info? 35).map (·.size) = some 25 := by kernel_rfl
/-- What check answers. -/
def checkE (v : Vm) (p : List Ins) (b : Int) : Int := if v.ok = false then 74 else if ¬ progErr p = 0 then progErr p else if ¬ b = 0 then b else if v.state = 0 then 0 else 4

set_option maxRecDepth 100000 in
set_option maxHeartbeats 4000000 in
theorem check3_any (v : Vm) (va : Value) (p : List Ins) (b : Int) (w : World) (ht : v.typed) (hp : Instrs w va p) :
    Calls Try.prog 30 #[.agg v.cells, va, .int .i64 b] w fun en w' => en = .returned (.int .i64 (checkE v p b)) ∧ Below w.heap.size w w' := by
  obtain ⟨a, c, rfl, _⟩ := hp.form
  have HP := Lib.hid hp
  have TT := Lib.hid ht
  clear hp ht
  go_enter Try.func30, Try.ntmps30
  go_wp2_with (refine wpList_load_row rfl 35 (.tmp 3) rfl w.heap.size rfl 35 v.cells (0, 0) _ (blk_new _ _ _) Try.underlying35 rfl vm_size ?_)
  refine (Valid_any v _ TT.out).mono ?_
  rintro e w1 ⟨rfl, hb1⟩
  have hbl := Below.trans ((Below.refl w.heap.size w).alloc (Nat.le_refl _) (.cells v.cells 35)) (hb1.mono (by simp))
  have hst : w1.cell? ⟨w.heap.size, 2, none⟩ = some (.int .i64 v.state) := (hb1.cell (by simp)).trans ((blk_cell (blk_new w v.cells 35) 2).trans (v.get2))
  have HP1 := Lib.hid (HP.out.below hbl)
  have HB1 := Lib.hid hbl
  have hz1 := hbl.size
  have hq1 : w.heap.size < w1.heap.size := by have := hb1.size; simp at this; omega
  clear hb1 hbl
  rcases Bool.eq_false_or_eq_true v.ok with hv | hv
  case inr =>
    have he : checkE v p b = 74 := by unfold checkE; rw [if_pos hv]
    have HE := Lib.hid he
    clear he
    go_wp2
    go_ret
    exact ⟨ret_int HE.out.symm, HB1.out⟩
  rw [hv]
  have HV := Lib.hid hv
  clear hv
  go_wp2_with fail
  refine (Validate_any _ p _ HP1.out).mono ?_
  rintro e w2 ⟨rfl, hb2⟩
  have hst2 : w2.cell? ⟨w.heap.size, 2, none⟩ = some (.int .i64 v.state) := (hb2.cell (by exact hq1)).trans hst
  have HB2 := Lib.hid (HB1.out.trans (hb2.mono hz1))
  clear hb2 hst
  by_cases h1 : progErr p = 0
  · have n1 : (progErr p != 0) = false := by rw [bne_eq_false_iff_eq]; exact h1
    have H1 := Lib.hid h1
    clear h1
    by_cases h2 : b = 0
    · subst h2
      by_cases h3 : v.state = 0
      · have n3 : (v.state != 0) = false := by rw [bne_eq_false_iff_eq]; exact h3
        have he : checkE v p 0 = 0 := by unfold checkE; rw [if_neg (by rw [HV.out]; decide), if_neg (by rw [H1.out]; decide), if_neg (by decide), if_pos h3]
        have HE := Lib.hid he
        clear he h3
        go_wp2
        go_ret
        exact ⟨ret_int HE.out.symm, HB2.out⟩
      · have n3 : (v.state != 0) = true := by rw [bne_iff_ne]; exact h3
        have he : checkE v p 0 = 4 := by unfold checkE; rw [if_neg (by rw [HV.out]; decide), if_neg (by rw [H1.out]; decide), if_neg (by decide), if_neg h3]
        have HE := Lib.hid he
        clear he h3
        go_wp2
        go_ret
        exact ⟨ret_int HE.out.symm, HB2.out⟩
    · have n2 : (b != 0) = true := by rw [bne_iff_ne]; exact h2
      have he : checkE v p b = b := by unfold checkE; rw [if_neg (by rw [HV.out]; decide), if_neg (by rw [H1.out]; decide), if_pos h2]
      have HE := Lib.hid he
      clear he h2
      go_wp2
      go_ret
      exact ⟨ret_int HE.out.symm, HB2.out⟩
  · have n1 : (progErr p != 0) = true := by rw [bne_iff_ne]; exact h1
    have he : checkE v p b = progErr p := by unfold checkE; rw [if_neg (by rw [HV.out]; decide), if_pos h1]
    have HE := Lib.hid he
    clear he h1
    go_wp2
    go_ret
    exact ⟨ret_int HE.out.symm, HB2.out⟩
end Go.Proofs.Ytbllialcfmpkaaa
