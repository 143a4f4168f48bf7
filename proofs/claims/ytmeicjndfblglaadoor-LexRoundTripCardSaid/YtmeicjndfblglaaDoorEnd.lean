/- The reference's 'end'. -/
import Derived.Test.YtmeicjndfblglaaDoorMark
set_option linter.unusedVariables false
set_option linter.unusedSimpArgs false
set_option linter.unusedSectionVars false
namespace Go.Proofs.YtmeicjndfblglaaDoor
open Go.RowKit

def endLen (l : List UInt8) : Nat :=
  match l with
  | [] => 0
  | c :: r => if alnumB c.toNat = true then runLen l else if c.toNat = 34 then (if (r.drop (strLen r)).head? = some 34 then strLen r + 2 else 0) else punctLen l
theorem endLen_run {c : UInt8} {r : List UInt8} (h : alnumB c.toNat = true) : endLen (c :: r) = runLen (c :: r) := by simp only [endLen]; rw [if_pos h]
theorem endLen_str {c : UInt8} {r : List UInt8} (h : alnumB c.toNat = false) (h1 : c.toNat = 34) (h2 : (r.drop (strLen r)).head? = some 34) : endLen (c :: r) = strLen r + 2 := by
  simp only [endLen]; rw [if_neg (by rw [h]; decide), if_pos h1, if_pos h2]
theorem endLen_strbad {c : UInt8} {r : List UInt8} (h : alnumB c.toNat = false) (h1 : c.toNat = 34) (h2 : ¬ (r.drop (strLen r)).head? = some 34) : endLen (c :: r) = 0 := by
  simp only [endLen]; rw [if_neg (by rw [h]; decide), if_pos h1, if_neg h2]
theorem endLen_punct {c : UInt8} {r : List UInt8} (h : alnumB c.toNat = false) (h1 : ¬ c.toNat = 34) : endLen (c :: r) = punctLen (c :: r) := by
  simp only [endLen]; rw [if_neg (by rw [h]; decide), if_neg h1]

end Go.Proofs.YtmeicjndfblglaaDoor
