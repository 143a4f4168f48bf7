/- Contracts of data: grow. -/
import Derived.Test.YtbgdjcoliiinjaaGreatPkKD7b
import Derived.Test.YtbgdjcoliiinjaaGreatPkKD7c
import Derived.Test.YtbgdjcoliiinjaaGreatPkKD7d
import Derived.Test.YtbgdjcoliiinjaaGreatPkKD7e
set_option linter.unusedVariables false
set_option linter.unusedSimpArgs false
set_option linter.unusedSectionVars false
namespace Go.Proofs.YtbgdjcoliiinjaaGreat
open Go Go.RowKit Go.BigFrame
theorem growB_all : ∀ L, L < 24 → growB L = true
  | 0, _ => rGrow0
  | 1, _ => rGrow1
  | 2, _ => rGrow2
  | 3, _ => rGrow3
  | 4, _ => rGrow4
  | 5, _ => rGrow5
  | 6, _ => rGrow6
  | 7, _ => rGrow7
  | 8, _ => rGrow8
  | 9, _ => rGrow9
  | 10, _ => rGrow10
  | 11, _ => rGrow11
  | 12, _ => rGrow12
  | 13, _ => rGrow13
  | 14, _ => rGrow14
  | 15, _ => rGrow15
  | 16, _ => rGrow16
  | 17, _ => rGrow17
  | 18, _ => rGrow18
  | 19, _ => rGrow19
  | 20, _ => rGrow20
  | 21, _ => rGrow21
  | 22, _ => rGrow22
  | 23, _ => rGrow23
  | n + 24, h => by omega
theorem dcGrow (L : Nat) (h : L < 24) : DC Tryz.prog 53 [xL L, xStep, xI] (yGrow L) := growB_dc (growB_all L h)
end Go.Proofs.YtbgdjcoliiinjaaGreat
