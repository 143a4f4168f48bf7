/- LexPrefix's walk. -/
import Derived.Test.YtmeicjndfblglaaDoorOffset
import Derived.Test.YtmeicjndfblglaaDoorLawExact
set_option linter.unusedVariables false
set_option linter.unusedSimpArgs false
set_option linter.unusedSectionVars false
namespace Go.Proofs.YtmeicjndfblglaaDoor
open Go.RowKit

theorem scanRes_place {l : List UInt8} (h : l.length ≤ 65536) : scanRes l = match scanK l with
    | (d, none) => ((place l (1, 1) (d, none)).1, 0, 0, 0)
    | (_, some (k, e)) => ([], (adv (l.take k) (1, 1)).1, (adv (l.take k) (1, 1)).2, e) := by
  have hs := scan_place l (1, 1)
  simp only at hs
  cases hk : scanK l with
  | mk d x =>
    rw [hk] at hs
    cases x with
    | none => exact scanRes_ok (by omega) hs
    | some x => obtain ⟨k, e⟩ := x; exact scanRes_err (by omega) hs
theorem prefix_facts {l : List UInt8} (h : l.length ≤ 1000) {d : List Tok} {a b e : Int} (hr : scanRes l = (d, a, b, e)) :
    (e = 0 ∧ a = 0 ∧ b = 0) ∨ (¬ e = 0 ∧ d = [] ∧ ∃ k, k < l.length ∧ adv (l.take k) (1, 1) = (a, b) ∧ (∃ d', scanRes (l.take k) = (d', 0, 0, 0)) ∧ scanRes (l.drop k) = ([], 1, 1, e)) := by
  rw [scanRes_place (by omega)] at hr
  cases hk : scanK l with
  | mk d0 x =>
    rw [hk] at hr
    cases x with
    | none =>
      simp only [Prod.mk.injEq] at hr
      exact .inl ⟨hr.2.2.2.symm, hr.2.1.symm, hr.2.2.1.symm⟩
    | some x =>
      obtain ⟨k, e'⟩ := x
      simp only [Prod.mk.injEq] at hr
      obtain ⟨h1, h2, h3, h4⟩ := hr
      obtain ⟨g0, g1, g2, g3⟩ := scanK_err l d0 k e' hk
      subst h4
      refine .inr ⟨g0, h1.symm, k, g1, by rw [← h2, ← h3], ⟨_, by rw [scanRes_place (by rw [List.length_take]; omega), g2]⟩, ?_⟩
      rw [scanRes_place (by rw [List.length_drop]; omega), g3]
      rfl

end Go.Proofs.YtmeicjndfblglaaDoor
