/- A known block to the front; results that lie in one cell. Nothing of the program is imported. -/
import Derived.Test.YtpjejaoobbancaaPkKnAll
set_option linter.unusedVariables false
set_option linter.unusedSimpArgs false
set_option linter.unusedSectionVars false
namespace Go.Proofs.Ytpjejaoobbancaa
open Go Go.RowKit Go.BigFrame

theorem Del.perm {l l' : Ents} {g : Nat} {Φ : Obj → Prop} (h : Del l g Φ l') : l.Perm ((g, Φ) :: l') := by
  induction h with
  | here => exact List.Perm.refl _
  | there _ ih => exact (ih.cons _).trans (List.Perm.swap _ _ _)
theorem Kn.mv {M : List Nat} {W w : World} {l l' : Ents} {Φ : Obj → Prop} (h : Kn M W w l) (g : Nat) (d : Del l g Φ l' := by repeat (first | exact Del.here | apply Del.there)) : Kn M W w ((g, Φ) :: l') := h.perm d.perm
theorem Kn.pick {M : List Nat} {W w : World} {l l' : Ents} (h : Kn M W w l) (s : l'.Sublist l := by repeat (first | exact List.Sublist.refl _ | apply List.Sublist.cons_cons | apply List.Sublist.cons)) : Kn M W w l' :=
  ⟨h.os, h.tape, h.output, h.size, h.frame, fun g Φ hk => h.own g Φ (Has.of_mem (s.subset hk.mem)), fun g Φ hk => h.fresh g Φ (Has.of_mem (s.subset hk.mem)), h.apart.sublist (s.map _)⟩
end Go.Proofs.Ytpjejaoobbancaa
