/- Words, numerals, punctuation: the functions of the lexer that read a string and make nothing. -/
import Derived.Test.YtmeicjndfblglaaDoorLeaf
import Derived.LoopTactic
set_option linter.unusedVariables false
set_option linter.unusedSimpArgs false
set_option linter.unusedSectionVars false
namespace Go.Proofs.YtmeicjndfblglaaDoor
open Go.RowKit

theorem run_any (s : ByteArray) (w : World) (hs : s.size ≤ maxLen) :
    Calls Tryd.prog 27 #[.string s] w fun e w' => e = .returned (.int .i64 (runLen s.data.toList)) ∧ w = w' := by
  unfold maxLen at hs
  go_enter Tryd.func27, Tryd.ntmps27
  go_wp2
  go_loop [3] (fun i => ∃ k : Nat, k ≤ s.size ∧ AllP alnumB (s.data.toList.take k) ∧ i = .int .i64 k) (fun i => s.size - (intOf i).toNat)
  case atStart => exact ⟨0, Nat.zero_le _, by simpa using AllP.nil _, rfl⟩
  case round =>
    obtain ⟨k, hk, ha, rfl⟩ := hrel
    have HA := Lib.hid ha
    clear ha
    by_cases hlt : k < s.size
    · by_cases h1 : letterB s[k].toNat = true
      · go_wp2_with (first | (go_at_call 26; refine (isLetter_any _ _).mono ?_; rintro e w' ⟨rfl, rfl⟩) | (go_at_call 28; refine (isDigit_any _ _).mono ?_; rintro e w' ⟨rfl, rfl⟩))
        go_round
        case rel => exact ⟨k + 1, by omega, HA.out.snoc hlt (by simp [alnumB, h1]), by go_num⟩
        case measure => simp [intOf]; omega
      · by_cases h2 : digitB s[k].toNat = true
        · simp at h1
          go_wp2_with (first | (go_at_call 26; refine (isLetter_any _ _).mono ?_; rintro e w' ⟨rfl, rfl⟩) | (go_at_call 28; refine (isDigit_any _ _).mono ?_; rintro e w' ⟨rfl, rfl⟩))
          go_round
          case rel => exact ⟨k + 1, by omega, HA.out.snoc hlt (by simp [alnumB, h2]), by go_num⟩
          case measure => simp [intOf]; omega
        · simp at h1 h2
          go_wp2_with (first | (go_at_call 26; refine (isLetter_any _ _).mono ?_; rintro e w' ⟨rfl, rfl⟩) | (go_at_call 28; refine (isDigit_any _ _).mono ?_; rintro e w' ⟨rfl, rfl⟩))
          go_ret
          exact ⟨ret_int (by rw [runLen_eq hk HA.out (fun _ => by simp [alnumB, h1, h2])]), rfl⟩
    · go_wp2
      go_ret
      exact ⟨ret_int (by rw [runLen_eq hk HA.out (fun h => absurd h hlt)]), rfl⟩

end Go.Proofs.YtmeicjndfblglaaDoor
