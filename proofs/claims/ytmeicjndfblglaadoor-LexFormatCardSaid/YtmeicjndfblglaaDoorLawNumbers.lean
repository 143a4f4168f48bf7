/- LexNumbers' walk. -/
import Derived.Test.YtmeicjndfblglaaDoorNumPlain
set_option linter.unusedVariables false
set_option linter.unusedSimpArgs false
set_option linter.unusedSectionVars false
namespace Go.Proofs.YtmeicjndfblglaaDoor
open Go.RowKit

theorem and15 (m : Nat) (h : (m : Int) ≤ 18446744073709551615) : bits BinOp.and IntKind.u64 (m : Int) 15 = (m : Int) % 16 := by
  have h1 := bits_and_u64_nat m 15 (by omega) (by omega)
  have h2 : m &&& 15 = m % 16 := Nat.and_two_pow_sub_one_eq_mod m 4
  rw [h2] at h1
  have h3 : ((m % 16 : Nat) : Int) = (m : Int) % 16 := by omega
  exact h1.trans h3
def dig16 : ByteArray := ⟨#[48, 49, 50, 51, 52, 53, 54, 55, 56, 57, 97, 98, 99, 68, 69, 70]⟩
theorem dig16_at : ∀ j < 16, (dig16.extract j (j + 1)).data.toList = [digC 16 j] := by decide
def emptyN : Value → Nat | .string s => if s.size = 0 then 1 else 0 | _ => 0
def dig10 : ByteArray := ⟨#[48, 49, 50, 51, 52, 53, 54, 55, 56, 57]⟩
theorem dig10_at : ∀ j < 10, (dig10.extract j (j + 1)).data.toList = [digC 10 j] := by decide

theorem Decimal_any (n : Nat) (hn : (n : Int) ≤ 18446744073709551615) (w : World) :
    Calls Tryd.prog 23 #[.int .u64 n] w fun e w' => e = .returned (.string (str (numL 10 n))) ∧ w = w' := by
  go_enter Tryd.func23, Tryd.ntmps23
  go_wp2_with fail
  go_loop [0, 3] (fun v s => ∃ (m : Nat) (t : ByteArray), m ≤ n ∧ numL 10 n = numL 10 m ++ t.data.toList ∧ v = .int .u64 m ∧ s = .string t) (fun v _ => (intOf v).toNat)
  case atStart => exact ⟨n, ⟨#[]⟩, Nat.le_refl _, by simp, rfl, rfl⟩
  case round =>
    obtain ⟨m, t, hm, heq, rfl, rfl⟩ := hrel
    have HEQ := Lib.hid heq
    have ht : t.size ≤ 20 := by
      have h5 := congrArg List.length heq
      rw [List.length_append, data_len] at h5
      have := numL_len10 hn
      omega
    clear heq
    by_cases hge : 10 ≤ m
    · have hj : m % 10 < 10 := Nat.mod_lt _ (by decide)
      have hex := dig10_at (m % 10) hj
      have HEX := Lib.hid hex
      have hsz : ((⟨#[48, 49, 50, 51, 52, 53, 54, 55, 56, 57]⟩ : ByteArray).extract (m % 10) (m % 10 + 1)).size = 1 := congrArg List.length hex
      clear hex
      go_wp2
      go_round
      case rel =>
        refine ⟨m / 10, _, by omega, ?_, by go_num, rfl⟩
        rw [HEQ.out, numL_big hge (by decide), ← HEX.out]
        simp [dig10]
      case measure => simp [intOf]; omega
    · have hex := dig10_at m (by omega)
      have HEX := Lib.hid hex
      have hsz : ((⟨#[48, 49, 50, 51, 52, 53, 54, 55, 56, 57]⟩ : ByteArray).extract m (m + 1)).size = 1 := congrArg List.length hex
      clear hex
      go_wp2
      go_ret
      refine ⟨ret_str ?_, rfl⟩
      refine bytes_ext ?_
      rw [data_str, HEQ.out, numL_small (by omega), ← HEX.out]
      simp [dig10]
end Go.Proofs.YtmeicjndfblglaaDoor
