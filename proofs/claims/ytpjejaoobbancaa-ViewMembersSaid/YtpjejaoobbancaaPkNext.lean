/- The kit's Place and Numbers.Next: what they return, for every number and every list. -/
import Derived.Test.YtpjejaoobbancaaProg
import Derived.Test.YtpjejaoobbancaaPkRead
import Derived.WalkKit
import Derived.WalkLawsBesides
import Derived.WalkSpells
import Derived.Outline
import Derived.Lib.Hide
import Derived.KernelRfl
import Derived.Deep.QuietTactic
import Derived.BigQuiet
import Derived.Deep.RegionHeld3
import Derived.Deep.DrawnRows
set_option linter.unusedVariables false
set_option linter.unusedSimpArgs false
set_option linter.unusedSectionVars false
namespace Go.Proofs.Ytpjejaoobbancaa
open Go.RowKit

theorem tmod_place (v n : Int) (hn : 0 < n) : (if v.tmod n < 0 then v.tmod n + n else v.tmod n) = v % n := by
  have h1 := Int.emod_nonneg v (show n ≠ 0 by omega)
  have h2 := Int.emod_lt_of_pos v hn
  have e := Int.tmod_eq_emod (a := v) (b := n)
  rw [e]
  by_cases hd : 0 ≤ v ∨ n ∣ v
  · rw [if_pos hd, if_neg (by omega)]; omega
  · rw [if_neg hd]
    have : (n.natAbs : Int) = n := by omega
    rw [this, if_pos (by omega)]; omega

/-- What Next yields before it is reduced. -/
def nextV (zs : List Int) (k : Nat) : Int := (if zs.length = 0 then 0 else (zs.getD (k % zs.length) 0) % 1073741824) + 7 * ((k / max zs.length 1 : Nat) : Int)
theorem nextV_bd (zs : List Int) (k : Nat) : 0 ≤ nextV zs k ∧ nextV zs k ≤ 1073741824 + 7 * (k : Int) := by
  have h : k / max zs.length 1 ≤ k := Nat.div_le_self _ _
  unfold nextV
  generalize k / max zs.length 1 = q at *
  split
  · omega
  · have h1 := Int.emod_nonneg (zs.getD (k % zs.length) 0) (show (1073741824 : Int) ≠ 0 by decide)
    have h2 := Int.emod_lt_of_pos (zs.getD (k % zs.length) 0) (show (0 : Int) < 1073741824 by decide)
    omega
/-- A slice of these ints. -/
def Ints (w : World) (v : Value) (zs : List Int) : Prop := Row w v 1 (zs.map fun z => [Value.int .i64 z]) ∧ ∀ z ∈ zs, -9223372036854775808 ≤ z ∧ z ≤ 9223372036854775807
theorem Ints.below {w w' : World} {v : Value} {zs : List Int} (h : Ints w v zs) (hb : Below w.heap.size w w') : Ints w' v zs := ⟨h.1.below hb, h.2⟩
def NextPost (a : Addr) (k : Nat) (r : Int) (w : World) (e : Ending) (w' : World) : Prop := e = .returned (.int .i64 r) ∧ ∃ nq, w' = (w.setCell a (.int .i64 ((k + 1 : Nat) : Int))).drewN nq

end Go.Proofs.Ytpjejaoobbancaa
