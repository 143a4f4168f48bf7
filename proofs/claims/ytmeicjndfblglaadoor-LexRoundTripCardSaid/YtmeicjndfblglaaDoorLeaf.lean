/- The leaves of the lexer: what each small function on bytes returns, for every byte. -/
import Derived.Test.YtmeicjndfblglaaDoorProg
import Derived.Test.YtmeicjndfblglaaDoorPlain
import Derived.Test.YtmeicjndfblglaaDoorRet
import Derived.WalkKit
import Derived.WalkLawsBesides
import Derived.WalkSpells
import Derived.Outline
import Derived.Lib.Hide
import Derived.KernelRfl
set_option linter.unusedVariables false
set_option linter.unusedSimpArgs false
set_option linter.unusedSectionVars false
namespace Go.Proofs.YtmeicjndfblglaaDoor
open Go.RowKit

theorem isDigit_any (n : Int) (w : World) :
    Calls Tryd.prog 28 #[.int .u8 n] w fun e w' => e = .returned (.bool (digitB n)) ∧ w = w' := by
  go_enter Tryd.func28, Tryd.ntmps28
  go_wp2
  all_goals (go_ret; refine ⟨?_, rfl⟩; simp [digitB]; try omega)

theorem Digit_any (n : Int) (w : World) :
    Calls Tryd.prog 34 #[.int .u8 n] w fun e w' => e = .returned (.bool (digitB n)) ∧ w = w' := by
  go_enter Tryd.func34, Tryd.ntmps34
  go_wp2
  all_goals (go_ret; refine ⟨?_, rfl⟩; simp [digitB]; try omega)

theorem isLetter_any (n : Int) (w : World) :
    Calls Tryd.prog 26 #[.int .u8 n] w fun e w' => e = .returned (.bool (letterB n)) ∧ w = w' := by
  go_enter Tryd.func26, Tryd.ntmps26
  go_wp2
  all_goals (go_ret; refine ⟨ret_bool (Bool.eq_iff_iff.2 ?_), rfl⟩; simp [letterB]; try omega)

theorem Letter_any (n : Int) (w : World) :
    Calls Tryd.prog 33 #[.int .u8 n] w fun e w' => e = .returned (.bool (letterB n)) ∧ w = w' := by
  go_enter Tryd.func33, Tryd.ntmps33
  go_wp2
  all_goals (go_ret; refine ⟨ret_bool (Bool.eq_iff_iff.2 ?_), rfl⟩; simp [letterB]; try omega)

theorem inString_any (n : Int) (w : World) :
    Calls Tryd.prog 19 #[.int .u8 n] w fun e w' => e = .returned (.bool (plainB n)) ∧ w = w' := by
  go_enter Tryd.func19, Tryd.ntmps19
  go_wp2
  all_goals (go_ret; refine ⟨ret_bool (Bool.eq_iff_iff.2 ?_), rfl⟩; simp [plainB, bne]; try omega)

theorem plain_any (n : Int) (w : World) :
    Calls Tryd.prog 35 #[.int .u8 n] w fun e w' => e = .returned (.bool (plainB n)) ∧ w = w' := by
  go_enter Tryd.func35, Tryd.ntmps35
  go_wp2
  all_goals (go_ret; refine ⟨ret_bool (Bool.eq_iff_iff.2 ?_), rfl⟩; simp [plainB, bne]; try omega)

end Go.Proofs.YtmeicjndfblglaaDoor
