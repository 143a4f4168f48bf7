/- make(map..) in a drawn region. Nothing of the program is imported. -/
import Derived.Test.YtlhmeeidlhpodaaGreatPkCLem
import Derived.Test.YtlhmeeidlhpodaaGreatPkEngH
set_option linter.unusedVariables false
set_option linter.unusedSimpArgs false
set_option linter.unusedSectionVars false
namespace Go.Proofs.YtlhmeeidlhpodaaGreat
open Go Go.RowKit Go.BigFrame
theorem wp_kn_newMap {P : Program} {op : Oper} {a : Act} {w W : World} {K : Act → World → Prop} {Q : Exit → Act → World → Prop} {M : List Nat} {l : Ents} (KN : Kn M W w l) (t : TypeId) (ho : op.op = .makeMap t none)
    (h : ∀ g w', W.heap.size ≤ g → Kn M W w' ((g, MapIs [] 0) :: l) → K (a.put op.dst (.map (some g))) w') : op.wp P a w K Q := by
  have e : (execOp a.eval op).run P w = .ok (.value (.map (some w.heap.size))) (w.alloc (.map #[] 0)) := by
    unfold execOp
    simp only [ho]
    rfl
  unfold Oper.wp
  rw [e]
  exact h _ _ KN.size (KN.alloc (Φ := MapIs [] 0) (.map #[] 0) rfl)
end Go.Proofs.YtlhmeeidlhpodaaGreat
