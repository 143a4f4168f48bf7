/- The kit's Place and Numbers.Next: what they return, for every number and every list. -/
import Derived.Test.YtokppdegklfkmaaGreatDoorProg
import Derived.Test.YtokppdegklfkmaaGreatDoorPkRead
import Derived.WalkKit
import Derived.WalkLawsBesides
import Derived.WalkSpells
import Derived.Outline
import Derived.Lib.Hide
import Derived.KernelRfl
import Derived.Deep.QuietTactic
import Derived.BigQuiet
import Derived.Deep.RegionHeld3
import Derived.Deep.DrawnRows
set_option linter.unusedVariables false
set_option linter.unusedSimpArgs false
set_option linter.unusedSectionVars false
namespace Go.Proofs.YtokppdegklfkmaaGreatDoor
open Go.RowKit

theorem tmod_place (v n : Int) (hn : 0 < n) : (if v.tmod n < 0 then v.tmod n + n else v.tmod n) = v % n := by
  have h1 := Int.emod_nonneg v (show n ≠ 0 by omega)
  have h2 := Int.emod_lt_of_pos v hn
  have e := Int.tmod_eq_emod (a := v) (b := n)
  rw [e]
  by_cases hd : 0 ≤ v ∨ n ∣ v
  · rw [if_pos hd, if_neg (by omega)]; omega
  · rw [if_neg hd]
    have : (n.natAbs : Int) = n := by omega
    rw [this, if_pos (by omega)]; omega

theorem Place_any (v n : Int) (w : World) (h0 : -9223372036854775808 ≤ v) (h1 : v ≤ 9223372036854775807) (hn : 0 < n) (hn2 : n ≤ 9223372036854775807) :
    Calls Tryz.prog 4 #[.int .i64 v, .int .i64 n] w fun e w' => e = .returned (.int .i64 (v % n)) ∧ w = w' := by
  have hp := tmod_place v n hn
  have l1 : v.tmod n < n := Int.tmod_lt_of_pos v hn
  have l2 : -n < v.tmod n := by
    have := Int.lt_tmod_of_pos v hn
    omega
  have hz : (n == 0) = false := by rw [beq_eq_false_iff_ne]; omega
  have HP := Lib.hid hp
  clear hp
  by_cases hc : v.tmod n < 0
  · go_enter Tryz.func4, Tryz.ntmps4
    go_wp2
    go_ret
    refine ⟨?_, rfl⟩
    show Ending.returned (.int .i64 (v.tmod n + n)) = _
    rw [← HP.out, if_pos hc]
  · go_enter Tryz.func4, Tryz.ntmps4
    go_wp2
    go_ret
    refine ⟨?_, rfl⟩
    show Ending.returned (.int .i64 (v.tmod n)) = _
    rw [← HP.out, if_neg (by omega)]

/-- A slice of these ints. -/
def Ints (w : World) (v : Value) (zs : List Int) : Prop := Row w v 1 (zs.map fun z => [Value.int .i64 z]) ∧ ∀ z ∈ zs, -9223372036854775808 ≤ z ∧ z ≤ 9223372036854775807
theorem Ints.below {w w' : World} {v : Value} {zs : List Int} (h : Ints w v zs) (hb : Below w.heap.size w w') : Ints w' v zs := ⟨h.1.below hb, h.2⟩
end Go.Proofs.YtokppdegklfkmaaGreatDoor
