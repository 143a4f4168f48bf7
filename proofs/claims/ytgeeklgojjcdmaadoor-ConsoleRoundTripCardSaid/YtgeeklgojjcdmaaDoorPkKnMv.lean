/- A known block to the front; results that lie in one cell. Nothing of the program is imported. -/
import Derived.Test.YtgeeklgojjcdmaaDoorPkKnAll
set_option linter.unusedVariables false
set_option linter.unusedSimpArgs false
set_option linter.unusedSectionVars false
namespace Go.Proofs.YtgeeklgojjcdmaaDoor
open Go Go.RowKit Go.BigFrame

theorem Del.perm {l l' : Ents} {g : Nat} {Φ : Obj → Prop} (h : Del l g Φ l') : l.Perm ((g, Φ) :: l') := by
  induction h with
  | here => exact List.Perm.refl _
  | there _ ih => exact (ih.cons _).trans (List.Perm.swap _ _ _)
theorem Kn.mv {M : List Nat} {W w : World} {l l' : Ents} {Φ : Obj → Prop} (h : Kn M W w l) (g : Nat) (d : Del l g Φ l' := by repeat (first | exact Del.here | apply Del.there)) : Kn M W w ((g, Φ) :: l') := h.perm d.perm
theorem Kn.pick {M : List Nat} {W w : World} {l l' : Ents} (h : Kn M W w l) (s : l'.Sublist l := by repeat (first | exact List.Sublist.refl _ | apply List.Sublist.cons_cons | apply List.Sublist.cons)) : Kn M W w l' :=
  ⟨h.os, h.tape, h.output, h.size, h.frame, fun g Φ hk => h.own g Φ (Has.of_mem (s.subset hk.mem)), fun g Φ hk => h.fresh g Φ (Has.of_mem (s.subset hk.mem)), h.apart.sublist (s.map _)⟩
theorem run_loadVar1 {P : Program} {w : World} {g o : Nat} {ty : TypeId} {v : Value} {d : TypeDesc} (hc : w.cell? ⟨g, o, none⟩ = some v) (hu : P.underlying ty = some d) (hd : d.isRow = false) : (loadVar ty ⟨g, o, none⟩).run P w = .ok v w := by
  have hagg : (isAgg ty).run P w = .ok false w := by
    unfold isAgg
    rw [Sem.run_bind, run_underlying hu w]
    cases d <;> simp_all
  simp [Sem.run_bind, loadVar, hagg, hc]
theorem results_vvt {P : Program} {fn : Func} {p q s : Tmp} {ty ty2 : TypeId} (h : fn.results = #[.cell p ty, .cell q ty2, .tmp s]) (tmps : Array Value) (w : World) (g g2 : Nat) (x y v : Value)
    (hp : tmps.getD p undef = .pointer (some ⟨g, 0, none⟩)) (hg : (loadVar ty ⟨g, 0, none⟩).run P w = .ok x w) (hq : tmps.getD q undef = .pointer (some ⟨g2, 0, none⟩)) (hg2 : (loadVar ty2 ⟨g2, 0, none⟩).run P w = .ok y w) (hs : tmps.getD s undef = v) :
    (results fn tmps).run P w = .ok (.tuple #[x, y, v]) w := by
  have hp' : tmps[p]?.getD undef = .pointer (some ⟨g, 0, none⟩) := by simpa using hp
  have hq' : tmps[q]?.getD undef = .pointer (some ⟨g2, 0, none⟩) := by simpa using hq
  have hs' : tmps[s]?.getD undef = v := by simpa using hs
  simp [results, h, hp', hq', hs', asAddr, hg, hg2]
end Go.Proofs.YtgeeklgojjcdmaaDoor
