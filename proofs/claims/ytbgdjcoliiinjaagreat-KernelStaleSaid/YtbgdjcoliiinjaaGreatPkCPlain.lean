/- Valid configurations, in plain words. -/
import Derived.Test.YtbgdjcoliiinjaaGreatPkInc
set_option linter.unusedVariables false
set_option linter.unusedSimpArgs false
set_option linter.unusedSectionVars false
namespace Go.Proofs.YtbgdjcoliiinjaaGreat
open Go Go.RowKit Go.BigFrame
def p2 (k : Int) : Int := 2 ^ k.toNat
theorem p2_pos (k : Int) : 0 < p2 k := by unfold p2; exact Int.pow_pos (by omega)
theorem p2_le {k : Int} (h : k ≤ 40) : p2 k ≤ 1099511627776 := by
  unfold p2
  have h2 : 2 ^ k.toNat ≤ 2 ^ 40 := Nat.pow_le_pow_right (by omega) (by omega)
  have h3 : (2 : Nat) ^ 40 = 1099511627776 := rfl
  have e : ((2 ^ k.toNat : Nat) : Int) = (2 : Int) ^ k.toNat := by simp
  rw [← e]
  omega
/-- A region: its base, its bits, whether it is a device. -/
abbrev Reg := Int × Int × Bool
def okB (b k : Int) : Prop := 6 ≤ k ∧ k ≤ 40 ∧ 0 ≤ b ∧ b % p2 k = 0 ∧ b + p2 k ≤ 1099511627776
instance (b k : Int) : Decidable (okB b k) := by unfold okB; infer_instance
abbrev okR (r : Reg) : Prop := okB r.1 r.2.1
def endB (b k : Int) : Int := if okB b k then b + p2 k else 0
def ovlB (a j b k : Int) : Prop := okB a j ∧ okB b k ∧ a < endB b k ∧ b < endB a j
instance (a j b k : Int) : Decidable (ovlB a j b k) := by unfold ovlB; infer_instance
abbrev ovlR (a b : Reg) : Prop := ovlB a.1 a.2.1 b.1 b.2.1
/-- A configuration. -/
structure Cfg where
  ws : List Int
  st : Int
  sl : Int
  rs : List Reg
  os : List Int
/-- The regions below k are fine. -/
def RegsOk (c : Cfg) (k : Nat) : Prop := ∀ (i : Nat) (r : Reg) (o : Int), i < k → c.rs[i]? = some r → c.os[i]? = some o → okR r ∧ 0 ≤ o ∧ o < c.st ∧ ∀ (j : Nat) (s : Reg), j < i → c.rs[j]? = some s → ¬ ovlR r s
theorem RegsOk.zero (c : Cfg) : RegsOk c 0 := fun i _ _ h => absurd h (Nat.not_lt_zero i)
theorem RegsOk.succ {c : Cfg} {k : Nat} (h : RegsOk c k) {r : Reg} {o : Int} (hr : c.rs[k]? = some r) (ho : c.os[k]? = some o) (h1 : okR r) (h2 : 0 ≤ o) (h3 : o < c.st) (h4 : ∀ (j : Nat) (s : Reg), j < k → c.rs[j]? = some s → ¬ ovlR r s) : RegsOk c (k + 1) := by
  intro i r' o' hi hr' ho'
  rcases Nat.lt_or_ge i k with q | q
  · exact h i r' o' q hr' ho'
  · obtain rfl : i = k := by omega
    rw [hr] at hr'; rw [ho] at ho'
    cases hr'; cases ho'
    exact ⟨h1, h2, h3, h4⟩
theorem RegsOk.of {c : Cfg} {k : Nat} (h : RegsOk c c.rs.length) {r : Reg} {o : Int} (hr : c.rs[k]? = some r) (ho : c.os[k]? = some o) : okR r ∧ 0 ≤ o ∧ o < c.st ∧ ∀ (j : Nat) (s : Reg), j < k → c.rs[j]? = some s → ¬ ovlR r s :=
  h k r o (List.getElem?_eq_some_iff.1 hr).1 hr ho
end Go.Proofs.YtbgdjcoliiinjaaGreat
