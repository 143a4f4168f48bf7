/- strconv.FormatUint at base 10, over the kit's contracts of what it calls. -/
import Derived.Test.YtemigcdieghkfabDoorShelf
import Derived.Test.YtemigcdieghkfabDoorPkLexP
import Derived.Test.YtemigcdieghkfabDoorPkBase0
import Derived.Lib.ItoaMem
import Derived.Lib.AppendIntMem
import Derived.Lib.LaidTab
import Derived.WalkKit
import Derived.BigCall
import Derived.BigGuard
import Derived.Below
import Derived.KernelRfl
set_option linter.unusedVariables false
set_option linter.unusedSimpArgs false
set_option linter.unusedSectionVars false
namespace Go.Proofs.YtemigcdieghkfabDoor
open Go Go.RowKit Go.Sort

theorem decDigits_numL (n : Nat) : Lib.decDigits n = numL 10 n := by
  induction n using Nat.strongRecOn with
  | _ n ih =>
    by_cases h : n < 10
    · rw [Lib.decDigits, dif_pos h, numL_small h]; rfl
    · rw [Lib.decDigits, dif_neg h, numL_big (by omega) (by decide), ih (n / 10) (by omega)]; rfl
/-- The table of the powers of ten stands in memory. -/
def Pow (w : World) : Prop := Lib.TabIs Tryd.prog w "internal/strconv.uint64pow10" .u64 Lib.pow10Tab
theorem pow_named : ∃ g, Tryd.prog.globalNamed "internal/strconv.uint64pow10" = some g := ⟨1, by kernel_rfl⟩
theorem Pow.below {w w' : World} (h : Pow w) (hb : Below w.heap.size w w') : Pow w' := by
  unfold Pow Lib.TabIs at h ⊢
  obtain ⟨g, hg⟩ := pow_named
  unfold World.var? at h ⊢
  rw [hg] at h ⊢
  simp only [Option.bind_some] at h ⊢
  cases hq : w.heap[g]? with
  | none => simp [hq] at h
  | some o =>
    have hlt : g < w.heap.size := (Array.getElem?_eq_some_iff.1 hq).1
    rw [hb.block g hlt]
    exact h

set_option maxRecDepth 100000 in
set_option maxHeartbeats 4000000 in
theorem FormatUintI_any (n : Nat) (hn : (n : Int) ≤ 18446744073709551615) (w : World) (hp : Pow w) :
    Calls Tryd.prog 74 #[.int .u64 n, .int .i64 10] w fun e w' => e = .returned (.string (str (numL 10 n))) ∧ Below w.heap.size w w' := by
  by_cases hs : n < 100
  · go_enter Tryd.func74, Tryd.ntmps74
    go_wp2_with (go_at_call 78; refine (Tryd.internal_strconv_small n hs _).mono ?_; rintro e w' ⟨rfl, rfl⟩)
    go_ret
    exact ⟨by rw [decDigits_numL]; rfl, Below.refl _ _⟩
  · have hu1 : 1 ≤ n := by omega
    have hu64 : n < 18446744073709551616 := by omega
    have hnd20 : Lib.nDigits n ≤ 20 := by have := Lib.numDigits_eq n hu1 hu64; split at this <;> omega
    have hal : Tryd.prog.arrayLen 124 = 24 := by kernel_rfl
    have hel : Tryd.prog.underlying 124 = some (.array 24 5) := Tryd.underlying124
    have hsl1 : ∀ W, (Instr.sliceAt 124 (.pointer (some ⟨w.heap.size, 0, none⟩)) none (some (.int .i64 (Lib.nDigits n : Int))) none).run Tryd.prog W = .ok (.slice (some ⟨w.heap.size, 0, none⟩) (Lib.nDigits n) 24) W := fun W => by
      rw [run_sliceAt_array_h W 124 ⟨w.heap.size, 0, none⟩ (by simp [Program.arrayLen, Program.elem, hel]) .i64 (Lib.nDigits n : Int) (by omega) (by rw [hal]; omega)]
      go_simp
    have hH0 : Holds (fun (b : UInt8) => Value.int .u8 (b.toNat : Int)) (w.alloc (.cells Lib.zeros24 124)) w.heap.size 0 (Array.replicate (Lib.nDigits n) (0 : UInt8)) := fun j hj => by
      have hj' : j < Lib.nDigits n := by simpa using hj
      refine ⟨?_, World.frozen?_alloc_new _ _ _ _⟩
      rw [World.cell?_alloc_new, Lib.zeros24_at _ (by omega), getElem!_pos _ j hj]
      simp
    have hfmt := Tryd.internal_strconv_formatBase10 w.heap.size 0 24 n (Array.replicate (Lib.nDigits n) 0) (w.alloc (.cells Lib.zeros24 124)) hH0 (by rw [Array.size_replicate]; exact Lib.lt_pow_nDigits n) hu64 (by rw [Array.size_replicate]; omega)
    rw [Array.size_replicate] at hfmt
    have HH0 := Lib.hid hH0
    have HP := Lib.hid hp
    clear hH0 hal hel hp
    go_enter Tryd.func74, Tryd.ntmps74
    go_wp2_with (first
      | (go_at_call 79; refine (Tryd.internal_strconv_numDigits n hu1 hu64 _ (Lib.tabIs_alloc HP.out _)).mono ?_; rintro e w' ⟨rfl, rfl⟩))
    go_at_call 80
    refine hfmt.mono ?_
    rintro e w' ⟨rfl, k, v', dk, rfl, hF⟩
    have hcv : (convert 23 9 (.slice (some ⟨w.heap.size, 0, none⟩) (Lib.nDigits n) 24)).run Tryd.prog ((putRow (fun (b : UInt8) => Value.int .u8 (b.toNat : Int)) (w.alloc (.cells Lib.zeros24 124)) w.heap.size 0 dk).drewN k) = .ok (.string ⟨(Lib.decDigits n).toArray⟩) ((putRow (fun (b : UInt8) => Value.int .u8 (b.toNat : Int)) (w.alloc (.cells Lib.zeros24 124)) w.heap.size 0 dk).drewN k) := by
      have h := run_convert_bytes_back (P := Tryd.prog) ((putRow (fun (b : UInt8) => Value.int .u8 (b.toNat : Int)) (w.alloc (.cells Lib.zeros24 124)) w.heap.size 0 dk).drewN k) 23 9 5 ⟨w.heap.size, 0, none⟩ 24 (Lib.decDigits n) Tryd.underlying23 Tryd.underlying5 Tryd.underlying9 (fun j hj => by
        rw [Lib.row_is_numeral hF j hj, Lib.add_plain, World.cell?_drewN]
        exact cell?_putRow (fun (b : UInt8) => Value.int .u8 (b.toNat : Int)) _ w.heap.size 0 _ dk HH0.out (by rw [hF.size, Array.size_replicate]) j (by rw [hF.size]; rw [Lib.decDigits_length] at hj; exact hj))
      rw [Lib.decDigits_length] at h
      exact h
    go_wp2
    go_ret
    obtain ⟨os, _, eo⟩ := putRow_grow_new (fun (b : UInt8) => Value.int .u8 (b.toNat : Int)) w #[.cells Lib.zeros24 124] w.heap.size 0 dk (Nat.le_refl _)
    refine ⟨by rw [decDigits_numL]; rfl, ?_⟩
    rw [alloc_eq_grow, eo]
    exact Lib.below_grow _ w (Nat.le_refl _) k os
theorem FormatUint_any (n : Nat) (hn : (n : Int) ≤ 18446744073709551615) (w : World) (hp : Pow w) :
    Calls Tryd.prog 66 #[.int .u64 n, .int .i64 10] w fun e w' => e = .returned (.string (str (numL 10 n))) ∧ Below w.heap.size w w' := by
  have HP := Lib.hid hp
  clear hp
  go_enter Tryd.func66, Tryd.ntmps66
  go_wp2_with (go_at_call 74; refine (FormatUintI_any n hn _ HP.out).mono ?_; rintro e w' ⟨rfl, hb⟩)
  go_ret
  exact ⟨rfl, by assumption⟩
end Go.Proofs.YtemigcdieghkfabDoor
