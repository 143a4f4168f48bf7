/- One token: the plain definition. -/
import Derived.Test.YtmeicjndfblglaaDoorPlain
import Derived.Test.YtmeicjndfblglaaDoorStr
set_option linter.unusedVariables false
set_option linter.unusedSimpArgs false
set_option linter.unusedSectionVars false
namespace Go.Proofs.YtmeicjndfblglaaDoor
open Go

structure Raw where
  kind : Int
  text : List UInt8
  value : Int

def Raw.bad : Raw := ⟨0, [], 0⟩
/-- The token with which l begins, its length, and the error's number. -/
def lexOne (l : List UInt8) : Raw × Nat × Int :=
  match l with
  | [] => (Raw.bad, 0, 50)
  | c :: r =>
    if letterB c.toNat = true then (⟨1, l.take (runLen l), 0⟩, runLen l, 0)
    else if digitB c.toNat = true then
      if (numeral (l.take (runLen l))).2 = 0 then (⟨2, [], (numeral (l.take (runLen l))).1⟩, runLen l, 0) else (Raw.bad, 0, (numeral (l.take (runLen l))).2)
    else if c.toNat = 34 then
      if (r.drop (strLen r)).head? = some 34 then (⟨3, r.take (strLen r), 0⟩, strLen r + 2, 0) else (Raw.bad, 0, 50)
    else if punctLen l = 0 then (Raw.bad, 0, 50) else (⟨4, l.take (punctLen l), 0⟩, punctLen l, 0)

def Raw.cells (r : Raw) (line col : Int) : Array Value := #[.int .i64 r.kind, .string (str r.text), .int .u64 r.value, .int .i64 line, .int .i64 col]

theorem lexOne_letter {c : UInt8} {r : List UInt8} (h : letterB c.toNat = true) : lexOne (c :: r) = (⟨1, (c :: r).take (runLen (c :: r)), 0⟩, runLen (c :: r), 0) := by
  unfold lexOne; simp only [h, if_true]
theorem lexOne_num {c : UInt8} {r : List UInt8} (h0 : letterB c.toNat = false) (h : digitB c.toNat = true) (h1 : (numeral ((c :: r).take (runLen (c :: r)))).2 = 0) :
    lexOne (c :: r) = (⟨2, [], (numeral ((c :: r).take (runLen (c :: r)))).1⟩, runLen (c :: r), 0) := by
  unfold lexOne; simp only [h0, h, h1, if_true, Bool.false_eq_true, if_false]
theorem lexOne_numbad {c : UInt8} {r : List UInt8} (h0 : letterB c.toNat = false) (h : digitB c.toNat = true) (h1 : ¬ (numeral ((c :: r).take (runLen (c :: r)))).2 = 0) :
    lexOne (c :: r) = (Raw.bad, 0, (numeral ((c :: r).take (runLen (c :: r)))).2) := by
  unfold lexOne; simp only [h0, h, h1, if_true, Bool.false_eq_true, if_false]
theorem lexOne_str {c : UInt8} {r : List UInt8} (h0 : letterB c.toNat = false) (h : digitB c.toNat = false) (h1 : c.toNat = 34) (h2 : (r.drop (strLen r)).head? = some 34) :
    lexOne (c :: r) = (⟨3, r.take (strLen r), 0⟩, strLen r + 2, 0) := by
  simp only [lexOne]; rw [if_neg (by rw [h0]; decide), if_neg (by rw [h]; decide), if_pos h1, if_pos h2]
theorem lexOne_strbad {c : UInt8} {r : List UInt8} (h0 : letterB c.toNat = false) (h : digitB c.toNat = false) (h1 : c.toNat = 34) (h2 : ¬ (r.drop (strLen r)).head? = some 34) :
    lexOne (c :: r) = (Raw.bad, 0, 50) := by
  simp only [lexOne]; rw [if_neg (by rw [h0]; decide), if_neg (by rw [h]; decide), if_pos h1, if_neg h2]
theorem lexOne_bad {c : UInt8} {r : List UInt8} (h0 : letterB c.toNat = false) (h : digitB c.toNat = false) (h1 : ¬ c.toNat = 34) (h2 : punctLen (c :: r) = 0) :
    lexOne (c :: r) = (Raw.bad, 0, 50) := by
  unfold lexOne; simp only [h0, h, h1, h2, if_true, Bool.false_eq_true, if_false]
theorem lexOne_punct {c : UInt8} {r : List UInt8} (h0 : letterB c.toNat = false) (h : digitB c.toNat = false) (h1 : ¬ c.toNat = 34) (h2 : ¬ punctLen (c :: r) = 0) :
    lexOne (c :: r) = (⟨4, (c :: r).take (punctLen (c :: r)), 0⟩, punctLen (c :: r), 0) := by
  unfold lexOne; simp only [h0, h, h1, h2, Bool.false_eq_true, if_false]
theorem punctLen_le (l : List UInt8) : punctLen l ≤ l.length ∧ punctLen l ≤ 2 := by
  unfold punctLen
  split
  · omega
  · split
    · simp
    · split <;> simp
end Go.Proofs.YtmeicjndfblglaaDoor
