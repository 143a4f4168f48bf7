/- What IsaImmediates's text assembles to. Plain. -/
import Derived.Test.YtemigcdieghkfaaDoorPkImmPlain
import Derived.Test.YtemigcdieghkfaaDoorPkRoundG
set_option linter.unusedVariables false
set_option linter.unusedSimpArgs false
set_option linter.unusedSectionVars false
namespace Go.Proofs.YtemigcdieghkfaaDoor
open Go
def immD (sg : Bool) (v n : Int) : List Tok := ⟨wordR [108, 105], 1, 1⟩ :: ⟨wordR [114, 51], 1, 4⟩ :: ⟨punR 44, 1, 6⟩ :: ((if sg then [⟨punR 45, 1, 8⟩] else []) ++ [⟨numR v, 1, 8 + sgN sg⟩, ⟨punR 59, 1, 8 + sgN sg + n⟩])
theorem imm_run (sg : Bool) (v n : Int) : aInstr (immD sg v n) ⟨0, [], [], []⟩ = match aImm (immD sg v n) 0 false 3 with
    | .error e => .error e
    | .ok (u, j, us) => if isP (immD sg v n) j [59] = true then .ok ⟨j + 1, [⟨1, 3, 0, 0, u⟩], [], us⟩ else .error (j, 50) := by
  have h0 : ∀ f, aLabels (immD sg v n) 0 (f + 1) 0 [] = .ok (0, []) := by
    intro f
    show (if (1 : Int) = 1 ∧ isP (immD sg v n) 1 [58] = true then _ else Except.ok (0, [])) = (Except.ok (0, []) : Except AErr (Nat × Labels))
    rw [if_neg (by rintro ⟨_, q⟩; revert q; show ¬ false = true; decide)]
  have h2 : aReg (immD sg v n) 1 = .ok 3 := by rfl
  have h3 : aOperand (immD sg v n) 0 97 ⟨1, 0, 0, 0, 0⟩ 1 = .ok (⟨1, 3, 0, 0, 0⟩, 2, []) := by unfold aOperand; rw [if_pos rfl, h2]
  have h5 : aOperands (immD sg v n) 0 true [97, 105] ⟨1, 0, 0, 0, 0⟩ 1 [] = match aImm (immD sg v n) 0 false 3 with | .error e => .error e | .ok (u, j, us) => .ok (⟨1, 3, 0, 0, u⟩, j, us) := by
    unfold aOperands
    rw [h3]
    show aOperands (immD sg v n) 0 false [105] ⟨1, 3, 0, 0, 0⟩ 2 [] = _
    unfold aOperands
    rw [if_neg (by show ¬ true = false; decide)]
    unfold aOperand
    rw [if_neg (by decide), if_neg (by decide), if_neg (by decide), if_pos rfl]
    show (match (match aImm (immD sg v n) 0 false 3 with | .error e => Except.error e | .ok (u, j, us) => Except.ok ((⟨1, 3, 0, 0, u⟩ : Ins), j, us)) with | .error e => Except.error e | .ok (y, j, vs) => aOperands (immD sg v n) 0 false [] y j ([] ++ vs)) = _
    cases aImm (immD sg v n) 0 false 3 with
    | error e => rfl
    | ok t => obtain ⟨u, j, us⟩ := t; rfl
  have hm : mnemIx [108, 105] = 1 := by decide
  have ho : operandsOf 1 = [97, 105] := by decide
  have hl : ∃ f, (immD sg v n).length = f + 1 := ⟨(immD sg v n).length - 1, rfl⟩
  obtain ⟨f, hl⟩ := hl
  unfold aInstr
  simp only [List.length_nil, hl, h0]
  show aBody (immD sg v n) ⟨0, [], [], []⟩ = _
  unfold aBody
  have ht : tk (immD sg v n) 0 = wordR [108, 105] := rfl
  simp only [ht]
  rw [show (wordR [108, 105]).text = [108, 105] from rfl, hm, ho, if_neg (by decide), if_neg (by decide), if_neg (by decide)]
  simp only [List.length_nil, h5]
  cases aImm (immD sg v n) 0 false 3 with
  | error e => rfl
  | ok t => obtain ⟨u, j, us⟩ := t; rfl
theorem imm_pos (v n : Int) : aImm (immD false v n) 0 false 3 = if 2147483647 < v then .error (3, 6) else .ok (v, 4, []) := rfl
theorem imm_neg (v n : Int) : aImm (immD true v n) 0 false 3 = if 2147483648 < v then .error (4, 6) else .ok (-v, 5, []) := rfl
end Go.Proofs.YtemigcdieghkfaaDoor
