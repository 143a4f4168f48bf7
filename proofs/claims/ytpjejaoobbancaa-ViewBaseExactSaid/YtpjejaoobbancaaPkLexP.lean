/- Merged: LawNumbers. -/
import Derived.Test.YtpjejaoobbancaaPkSrtNil
import Derived.Test.YtpjejaoobbancaaPkLawAdopts
set_option linter.unusedVariables false
set_option linter.unusedSimpArgs false
set_option linter.unusedSectionVars false
namespace Go.Proofs.Ytpjejaoobbancaa
section
open Go.RowKit Go.BigFrame

theorem mkReports_core {zs : List Int} : ∀ {n k : Nat} {r : Rep}, (mkReports zs n)[k]? = some r → r.core = (k : Int)
  | 0, k, r, h => by simp [mkReports] at h
  | n + 1, k, r, h => by
    unfold mkReports at h
    rcases Nat.lt_or_ge k n with hk | hk
    · rw [List.getElem?_append_left (by rw [mkReports_len]; exact hk)] at h
      exact mkReports_core h
    · rw [List.getElem?_append_right (by rw [mkReports_len]; exact hk), mkReports_len] at h
      have hk0 : k - n = 0 := by
        have := (List.getElem?_eq_some_iff.1 h).1
        simp only [List.length_cons, List.length_nil] at this
        omega
      rw [hk0] at h
      have hr : { mkReport (zs.drop (11 * (n : Int)).toNat) with core := (n : Int) } = r := by simpa using h
      rw [← hr]
      show (n : Int) = (k : Int)
      omega
theorem mkView_len (zs : List Int) : (mkView zs).mem.length ≤ 1000 ∧ (mkView zs).own.length ≤ 1000 := by
  refine ⟨?_, ?_⟩
  · have := memK_len zs (at0 zs 1 % 4).toNat
    show (memK zs (at0 zs 1 % 4).toNat).length ≤ 1000
    omega
  · have := ownK_len zs (at0 zs 6 % 3).toNat
    show (ownK zs (at0 zs 6 % 3).toNat).length ≤ 1000
    omega
theorem mkReports_vb (zs : List Int) (n : Nat) : ViewsB (mkReports zs n) := by
  intro r hr
  obtain ⟨i, _, rfl⟩ := mkReports_mem hr
  refine ⟨mkView_len _, ?_⟩
  unfold mkReport
  dsimp only
  split
  · exact mkView_len _
  · exact ⟨Nat.zero_le _, Nat.zero_le _⟩
theorem mkReports_num {zs : List Int} {n : Nat} {p : Int} (h0 : 0 ≤ p) (h1 : p < 300) : ∀ z ∈ numsOf p (mkReports zs n), 0 ≤ z ∧ z ≤ 1073741824 := by
  intro z hz
  rcases numsOf_mem hz with rfl | ⟨r, hr, h | h⟩
  · omega
  · have := mkReports_bd hr; omega
  · have := mkReports_bd hr; omega
end
end Go.Proofs.Ytpjejaoobbancaa
