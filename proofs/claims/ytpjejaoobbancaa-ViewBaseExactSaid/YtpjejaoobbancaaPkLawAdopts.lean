/- ViewAdopts: true for every list and number. -/
import Derived.Test.YtpjejaoobbancaaPkVAwake
import Derived.Test.YtpjejaoobbancaaPkBase
set_option linter.unusedVariables false
set_option linter.unusedSimpArgs false
set_option linter.unusedSectionVars false
namespace Go.Proofs.Ytpjejaoobbancaa
open Go.RowKit Go.BigFrame

theorem mkReports_mem {zs : List Int} : ∀ {n : Nat} {r : Rep}, r ∈ mkReports zs n → ∃ i : Nat, i < n ∧ r = { mkReport (zs.drop (11 * (i : Int)).toNat) with core := (i : Int) }
  | 0, r, h => by simp [mkReports] at h
  | n + 1, r, h => by
    unfold mkReports at h
    rcases List.mem_append.1 h with h | h
    · obtain ⟨i, hi, e⟩ := mkReports_mem h
      exact ⟨i, by omega, e⟩
    · exact ⟨n, by omega, by simpa using h⟩
theorem mkReports_bd {zs : List Int} {n : Nat} {r : Rep} (h : r ∈ mkReports zs n) : (0 ≤ r.view.num ∧ r.view.num < 200) ∧ 0 ≤ r.next.num ∧ r.next.num < 200 := by
  obtain ⟨i, _, rfl⟩ := mkReports_mem h
  refine ⟨?_, ?_⟩
  · show 0 ≤ at0 _ 0 % 200 ∧ at0 _ 0 % 200 < 200
    omega
  · unfold mkReport
    dsimp only
    split
    · show 0 ≤ at0 _ 0 % 200 ∧ at0 _ 0 % 200 < 200
      omega
    · show (0 : Int) ≤ 0 ∧ (0 : Int) < 200
      decide
theorem IsMax.cons {m a : Int} {l : List Int} (h : IsMax m (a :: l)) (hl : ∀ z ∈ l, a ≤ z) (hne : ¬ l = []) : IsMax m l := by
  refine ⟨?_, fun z hz => h.2 z (List.mem_cons_of_mem _ hz)⟩
  rcases List.mem_cons.1 h.1 with h1 | h1
  · subst h1
    cases l with
    | nil => exact absurd rfl hne
    | cons y ys =>
      have h2 := h.2 y (by simp)
      have h3 := hl y (by simp)
      have : m = y := by omega
      rw [this]; simp
  · exact h1
end Go.Proofs.Ytpjejaoobbancaa
