/- The reference's 'number'. -/
import Derived.Test.YtmeicjndfblglaaDoorNum
import Derived.RegionTactic
set_option linter.unusedVariables false
set_option linter.unusedSimpArgs false
set_option linter.unusedSectionVars false
namespace Go.Proofs.YtmeicjndfblglaaDoor
open Go.RowKit

theorem beq120 (n : Nat) : ((n : Int) == 120) = decide (n = 120) := by rw [Bool.eq_iff_iff]; simp; omega
theorem isHex_iff {s : ByteArray} (h : 2 < s.size) : isHexL s.data.toList = (decide (s[0].toNat = 48) && decide (s[1].toNat = 120)) := by
  have e := data_drop (s := s) (k := 0) (by omega)
  rw [List.drop_zero, data_drop (s := s) (k := 1) (by omega)] at e
  unfold isHexL
  rw [e, Bool.eq_iff_iff]
  simp only [List.isPrefixOf, Bool.and_eq_true, beq_iff_eq, decide_eq_true_eq, and_true, ← UInt8.toNat_inj]
  constructor
  · rintro ⟨h1, h2⟩; exact ⟨h1.symm, h2.symm⟩
  · rintro ⟨h1, h2⟩; exact ⟨h1.symm, h2.symm⟩
theorem isHex_short {s : ByteArray} (h : isHexL s.data.toList = true) (h2 : ¬ 2 < s.size) : s.size = 2 ∧ s.data.toList = [48, 120] := by
  have hp := List.isPrefixOf_iff_prefix.1 h
  have hl := hp.length_le
  simp only [List.length_cons, List.length_nil, data_len] at hl
  refine ⟨by omega, ?_⟩
  exact (hp.eq_of_length (by simp only [List.length_cons, List.length_nil, data_len]; omega)).symm

end Go.Proofs.YtmeicjndfblglaaDoor
