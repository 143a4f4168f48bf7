/- The leaves of the lexer: what each small function on bytes returns, for every byte. -/
import Derived.Test.YtmeicjndfblglaaProg
import Derived.Test.YtmeicjndfblglaaPlain
import Derived.WalkKit
import Derived.WalkLawsBesides
import Derived.WalkSpells
import Derived.Outline
import Derived.Lib.Hide
import Derived.KernelRfl
namespace Go.Proofs.Ytmeicjndfblglaa
open Go.RowKit

theorem ret_int {k : IntKind} {a b : Int} (h : a = b) : Ending.returned (.int k a) = .returned (.int k b) := by rw [h]
theorem ret_bool {a b : Bool} (h : a = b) : Ending.returned (.bool a) = .returned (.bool b) := by rw [h]
theorem ret_str {a b : ByteArray} (h : a = b) : Ending.returned (.string a) = .returned (.string b) := by rw [h]

theorem isDigit_any (n : Int) (w : World) :
    Calls Try.prog 35 #[.int .u8 n] w fun e w' => e = .returned (.bool (digitB n)) ∧ w = w' := by
  go_enter Try.func35, Try.ntmps35
  go_wp2
  all_goals (go_ret; refine ⟨?_, rfl⟩; simp [digitB]; try omega)

theorem Digit_any (n : Int) (w : World) :
    Calls Try.prog 28 #[.int .u8 n] w fun e w' => e = .returned (.bool (digitB n)) ∧ w = w' := by
  go_enter Try.func28, Try.ntmps28
  go_wp2
  all_goals (go_ret; refine ⟨?_, rfl⟩; simp [digitB]; try omega)

theorem isLetter_any (n : Int) (w : World) :
    Calls Try.prog 33 #[.int .u8 n] w fun e w' => e = .returned (.bool (letterB n)) ∧ w = w' := by
  go_enter Try.func33, Try.ntmps33
  go_wp2
  all_goals (go_ret; refine ⟨ret_bool (Bool.eq_iff_iff.2 ?_), rfl⟩; simp [letterB]; try omega)

theorem Letter_any (n : Int) (w : World) :
    Calls Try.prog 27 #[.int .u8 n] w fun e w' => e = .returned (.bool (letterB n)) ∧ w = w' := by
  go_enter Try.func27, Try.ntmps27
  go_wp2
  all_goals (go_ret; refine ⟨ret_bool (Bool.eq_iff_iff.2 ?_), rfl⟩; simp [letterB]; try omega)

theorem inString_any (n : Int) (w : World) :
    Calls Try.prog 37 #[.int .u8 n] w fun e w' => e = .returned (.bool (plainB n)) ∧ w = w' := by
  go_enter Try.func37, Try.ntmps37
  go_wp2
  all_goals (go_ret; refine ⟨ret_bool (Bool.eq_iff_iff.2 ?_), rfl⟩; simp [plainB, bne]; try omega)

theorem plain_any (n : Int) (w : World) :
    Calls Try.prog 31 #[.int .u8 n] w fun e w' => e = .returned (.bool (plainB n)) ∧ w = w' := by
  go_enter Try.func31, Try.ntmps31
  go_wp2
  all_goals (go_ret; refine ⟨ret_bool (Bool.eq_iff_iff.2 ?_), rfl⟩; simp [plainB, bne]; try omega)

theorem hex_any (n : Int) (w : World) (h0 : 0 ≤ n) (h1 : n ≤ 255) :
    Calls Try.prog 39 #[.int .u8 n] w fun e w' => e = .returned (.int .i64 (hexV n)) ∧ w = w' := by
  by_cases hd : digitB n = true
  · have hd' := hd
    simp [digitB] at hd'
    go_enter Try.func39, Try.ntmps39
    go_wp2_with (go_at_call 28; refine (Digit_any _ _).mono ?_; rintro e w' ⟨rfl, rfl⟩)
    all_goals (go_ret; refine ⟨ret_int ?_, rfl⟩; simp [hexV, hd])
  · simp at hd
    have hd' := hd
    simp [digitB] at hd'
    go_enter Try.func39, Try.ntmps39
    go_wp2_with (go_at_call 28; refine (Digit_any _ _).mono ?_; rintro e w' ⟨rfl, rfl⟩)
    all_goals (go_ret; refine ⟨ret_int ?_, rfl⟩; simp only [hexV, hd]; simp; try (split <;> (try split)) <;> try omega)

end Go.Proofs.Ytmeicjndfblglaa
