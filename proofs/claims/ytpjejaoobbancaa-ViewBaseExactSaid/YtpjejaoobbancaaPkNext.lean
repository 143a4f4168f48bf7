/- The kit's Place and Numbers.Next: what they return, for every number and every list. -/
import Derived.Test.YtpjejaoobbancaaProg
import Derived.Test.YtpjejaoobbancaaPkRead
import Derived.WalkKit
import Derived.WalkLawsBesides
import Derived.WalkSpells
import Derived.Outline
import Derived.Lib.Hide
import Derived.KernelRfl
import Derived.Deep.QuietTactic
import Derived.BigQuiet
import Derived.Deep.RegionHeld3
import Derived.Deep.DrawnRows
set_option linter.unusedVariables false
set_option linter.unusedSimpArgs false
set_option linter.unusedSectionVars false
namespace Go.Proofs.Ytpjejaoobbancaa
open Go.RowKit

theorem tmod_place (v n : Int) (hn : 0 < n) : (if v.tmod n < 0 then v.tmod n + n else v.tmod n) = v % n := by
  have h1 := Int.emod_nonneg v (show n ≠ 0 by omega)
  have h2 := Int.emod_lt_of_pos v hn
  have e := Int.tmod_eq_emod (a := v) (b := n)
  rw [e]
  by_cases hd : 0 ≤ v ∨ n ∣ v
  · rw [if_pos hd, if_neg (by omega)]; omega
  · rw [if_neg hd]
    have : (n.natAbs : Int) = n := by omega
    rw [this, if_pos (by omega)]; omega

/-- A slice of these ints. -/
def Ints (w : World) (v : Value) (zs : List Int) : Prop := Row w v 1 (zs.map fun z => [Value.int .i64 z]) ∧ ∀ z ∈ zs, -9223372036854775808 ≤ z ∧ z ≤ 9223372036854775807
theorem Ints.below {w w' : World} {v : Value} {zs : List Int} (h : Ints w v zs) (hb : Below w.heap.size w w') : Ints w' v zs := ⟨h.1.below hb, h.2⟩
end Go.Proofs.Ytpjejaoobbancaa
