/- Merged: RefTab, RefVal. -/
import Derived.Test.YtemigcdieghkfaaDoorPkValidG
import Derived.Test.YtemigcdieghkfaaDoorPkBlockG
import Derived.Deep.QuietTactic
import Derived.BigQuiet
set_option linter.unusedVariables false
set_option linter.unusedSimpArgs false
set_option linter.unusedSectionVars false
namespace Go.Proofs.YtemigcdieghkfaaDoor
section
open Go.RowKit

theorem tab_size : (Tryd.prog.info? 116).map (·.size) = some fmtA.size := by kernel_rfl
set_option maxRecDepth 100000 in
set_option maxHeartbeats 4000000 in
theorem table_any (w : World) : Calls Tryd.prog 54 #[] w fun e w' => e = .returned (.agg fmtA) ∧ Below w.heap.size w w' := by
  go_enter Tryd.func54, Tryd.ntmps54
  go_wp2_with (refine wpList_store_row rfl 116 (.tmp 0) (.tmp 29) rfl w.heap.size rfl _ _ 116 rfl (blk_new _ _ _) (by kernel_rfl) (by kernel_rfl) (by kernel_rfl) ?_; intro w1 hb ho)
  have hb2 : BlkT w1 w.heap.size fmtA 116 := Eq.trans hb (by kernel_rfl)
  refine bodyPost_ret (v := .agg fmtA) ?_ rfl ⟨rfl, below_only ((Below.refl _ _).alloc (Nat.le_refl _) _) ho (Nat.le_refl _) (by simp)⟩
  exact results_cell_row (p := 0) Tryd.results54 _ _ w.heap.size 116 fmtA (0, 0) _ rfl hb2 Tryd.underlying116 rfl tab_size
end
section
open Go.RowKit

theorem index_any (op : Int) (h0 : 0 ≤ op) (h1 : op ≤ 27) (w : World) :
    Sem.run Tryd.prog (Instr.index 116 (.agg fmtA) (.int .i64 op)) w = .ok (.agg #[.string (str (mnemOf op)), .string (str (operandsOf op))]) w := by
  have ho : op = 0 ∨ op = 1 ∨ op = 2 ∨ op = 3 ∨ op = 4 ∨ op = 5 ∨ op = 6 ∨ op = 7 ∨ op = 8 ∨ op = 9 ∨ op = 10 ∨ op = 11 ∨ op = 12 ∨ op = 13 ∨ op = 14 ∨ op = 15 ∨ op = 16 ∨ op = 17 ∨ op = 18 ∨ op = 19 ∨ op = 20 ∨ op = 21 ∨ op = 22 ∨ op = 23 ∨ op = 24 ∨ op = 25 ∨ op = 26 ∨ op = 27 := by omega
  rcases ho with rfl | rfl | rfl | rfl | rfl | rfl | rfl | rfl | rfl | rfl | rfl | rfl | rfl | rfl | rfl | rfl | rfl | rfl | rfl | rfl | rfl | rfl | rfl | rfl | rfl | rfl | rfl | rfl <;> (refine Eq.trans (b := Result.ok (.agg #[.string (str (mnemOf _)), .string (str (operandsOf _))]) w) ?_ rfl; kernel_rfl)
theorem index2_any (a b : ByteArray) (w : World) : Sem.run Tryd.prog (Instr.index 115 (.agg #[.string a, .string b]) (.int .i64 1)) w = .ok (.string b) w := by kernel_rfl
set_option maxRecDepth 100000 in
theorem Operands_any (op : Int) (w : World) (h0 : 0 ≤ op) (h1 : op ≤ 27) :
    Calls Tryd.prog 55 #[.int .i64 op] w fun e w' => e = .returned (.string (str (operandsOf op))) ∧ Below w.heap.size w w' := by
  have hi := Lib.hid (index_any op h0 h1)
  go_enter Tryd.func55, Tryd.ntmps55
  go_wp2_with fail
  refine (table_any _).mono ?_
  rintro e w1 ⟨rfl, hb⟩
  generalize hf : fmtA = fa
  have hi2 := hi.out
  rw [hf] at hi2
  clear hi
  clear hf
  have hj := index2_any (str (mnemOf op)) (str (operandsOf op))
  go_wp2
  go_ret
  exact ⟨rfl, hb⟩
theorem operands_len (op : Int) (h0 : 0 ≤ op) (h1 : op ≤ 27) : (operandsOf op).length ≤ 3 := by
  unfold operandsOf
  have ho : op = 0 ∨ op = 1 ∨ op = 2 ∨ op = 3 ∨ op = 4 ∨ op = 5 ∨ op = 6 ∨ op = 7 ∨ op = 8 ∨ op = 9 ∨ op = 10 ∨ op = 11 ∨ op = 12 ∨ op = 13 ∨ op = 14 ∨ op = 15 ∨ op = 16 ∨ op = 17 ∨ op = 18 ∨ op = 19 ∨ op = 20 ∨ op = 21 ∨ op = 22 ∨ op = 23 ∨ op = 24 ∨ op = 25 ∨ op = 26 ∨ op = 27 := by omega
  rcases ho with rfl | rfl | rfl | rfl | rfl | rfl | rfl | rfl | rfl | rfl | rfl | rfl | rfl | rfl | rfl | rfl | rfl | rfl | rfl | rfl | rfl | rfl | rfl | rfl | rfl | rfl | rfl | rfl <;> decide
theorem uses_any (op : Int) (c : UInt8) (w : World) (h0 : 0 ≤ op) (h1 : op ≤ 27) :
    Calls Tryd.prog 52 #[.int .i64 op, .int .u8 c.toNat] w fun e w' => e = .returned (.bool (uses op c)) ∧ Below w.heap.size w w' := by
  have hl := operands_len op h0 h1
  obtain ⟨s, hs⟩ : ∃ s, s = str (operandsOf op) := ⟨_, rfl⟩
  have hsz : s.size ≤ 3 := by rw [hs, str_size]; exact hl
  have hu : uses op c = s.data.toList.contains c := by rw [hs, data_str]; rfl
  have HU := Lib.hid hu
  have HS := Lib.hid hs
  clear hu hs hl
  go_enter Tryd.func52, Tryd.ntmps52
  go_wp2_with fail
  refine (Operands_any op _ h0 h1).mono ?_
  rintro e w1 ⟨rfl, hb⟩
  rw [← HS.out]
  have HB := Lib.hid hb
  clear hb
  go_wp2_with fail
  go_loop [6] (fun i => ∃ k : Nat, k ≤ s.size ∧ i = .int .i64 k ∧ ∀ x ∈ s.data.toList.take k, x ≠ c) (fun i => s.size - (intOf i).toNat)
  case atStart => exact ⟨0, by omega, rfl, by simp⟩
  case round =>
    obtain ⟨k, hk, rfl, ha⟩ := hrel
    have HA := Lib.hid ha
    clear ha
    by_cases hlt : k < s.size
    · by_cases hc : s[k] = c
      · have hb : (((s[k].toNat : Nat) : Int) == ((c.toNat : Nat) : Int)) = true := by rw [hc]; simp
        have HC := Lib.hid hc
        clear hc
        go_wp2
        go_ret
        refine ⟨ret_bool ?_, HB.out⟩
        rw [HU.out, List.contains_iff_mem.2 (by rw [← HC.out]; exact List.getElem_mem (l := s.data.toList) hlt)]
      · have hb : (((s[k].toNat : Nat) : Int) == ((c.toNat : Nat) : Int)) = false := by
          rw [beq_eq_false_iff_ne]; intro h; exact hc (UInt8.toNat_inj.1 (by omega))
        have HC := Lib.hid hc
        clear hc
        go_wp2
        go_round
        case rel =>
          refine ⟨k + 1, by omega, by go_num, ?_⟩
          intro x hx
          rw [take_snoc s k hlt] at hx
          simp only [List.mem_append, List.mem_singleton] at hx
          rcases hx with hx | rfl
          · exact HA.out x hx
          · exact HC.out
        case measure => simp [intOf]; omega
    · go_wp2
      go_ret
      refine ⟨ret_bool ?_, HB.out⟩
      rw [HU.out]
      symm
      rw [Bool.eq_false_iff]
      intro h
      have := HA.out c (by rw [List.take_of_length_le (by show s.size ≤ k; omega)]; exact List.contains_iff_mem.1 h)
      exact this rfl
theorem uses_letters (op : Int) (w : World) (h0 : 0 ≤ op) (h1 : op ≤ 27) :
    (Calls Tryd.prog 52 #[.int .i64 op, .int .u8 97] w fun e w' => e = .returned (.bool (uses op 97)) ∧ Below w.heap.size w w') ∧
    (Calls Tryd.prog 52 #[.int .i64 op, .int .u8 98] w fun e w' => e = .returned (.bool (uses op 98)) ∧ Below w.heap.size w w') ∧
    (Calls Tryd.prog 52 #[.int .i64 op, .int .u8 99] w fun e w' => e = .returned (.bool (uses op 99)) ∧ Below w.heap.size w w') ∧
    (Calls Tryd.prog 52 #[.int .i64 op, .int .u8 105] w fun e w' => e = .returned (.bool (uses op 105)) ∧ Below w.heap.size w w') ∧
    (Calls Tryd.prog 52 #[.int .i64 op, .int .u8 116] w fun e w' => e = .returned (.bool (uses op 116)) ∧ Below w.heap.size w w') :=
  ⟨uses_any op 97 w h0 h1, uses_any op 98 w h0 h1, uses_any op 99 w h0 h1, uses_any op 105 w h0 h1, uses_any op 116 w h0 h1⟩
theorem Jumps_any (x : Ins) (w : World) (h0 : 0 ≤ x.op) (h1 : x.op ≤ 27) :
    Calls Tryd.prog 36 #[.agg x.cells] w fun e w' => e = .returned (.bool (uses x.op 116)) ∧ Below w.heap.size w w' := by
  unfold Ins.cells
  have h2 : x.op < 28 := by omega
  go_enter Tryd.func36, Tryd.ntmps36
  go_wp2_with fail
  refine (uses_letters x.op _ h0 h1).2.2.2.2.mono ?_
  rintro e w1 ⟨rfl, hb⟩
  have HB := Lib.hid hb
  clear hb
  go_wp2
  go_ret
  exact ⟨rfl, ((Below.refl _ _).alloc (Nat.le_refl _) _).trans (HB.out.mono (by simp))⟩
end
end Go.Proofs.YtemigcdieghkfaaDoor
