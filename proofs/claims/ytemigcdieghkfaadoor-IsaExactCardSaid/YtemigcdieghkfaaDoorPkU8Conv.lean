/- Bytes as a string. -/
import Derived.Test.YtemigcdieghkfaaDoorPkDec
import Derived.Laws.BytesArg
set_option linter.unusedVariables false
set_option linter.unusedSimpArgs false
set_option linter.unusedSectionVars false
namespace Go.Proofs.YtemigcdieghkfaaDoor
open Go.RowKit

theorem U8s.conv {w : World} {va : Value} {zs : List Int} (h : U8s w va zs) : (convert 36 9 va).run Tryd.prog w = .ok (.string (strOfNums zs)) w := by
  obtain ⟨a, c, rfl, hm, hc⟩ := h.form
  cases zs with
  | nil =>
    rw [run_convert_bytes_string w 36 9 5 a _ c Tryd.underlying36 Tryd.underlying5 Tryd.underlying9]
    cases a <;> rfl
  | cons z zs =>
    obtain ⟨g, off, rfl, _⟩ := hc 0 z rfl
    refine run_convert_bytes_arg (P := Tryd.prog) w 36 5 Tryd.underlying36 Tryd.underlying5 g off _ c (z :: zs) rfl (fun i hi => ?_) 9 Tryd.underlying9
    obtain ⟨g2, off2, e, _, _, _, hcell⟩ := hc i ((z :: zs).getD i 0) (getD_get hi)
    cases e
    exact hcell
theorem U8s.of_own {M : List Nat} {W w : World} {f : Ents → Ents} {ol : Ents} {v : Value} {zs : List Int} (OW : OwnT 5 1 v (u8C zs) ol) (KN : Kn M W w (f ol)) (hf : TailF f) (h : BytesOk zs) : U8s w v zs := ⟨OW.row KN hf, h⟩
theorem encI_bytes (x : Ins) : BytesOk (encI x) := by
  intro z hz
  unfold encI fixL at hz
  simp only [List.cons_append, List.nil_append, List.mem_cons, List.not_mem_nil, or_false] at hz
  rcases hz with rfl | rfl | rfl | rfl | rfl | rfl | rfl | rfl <;> omega
theorem encP_bytes (p : List Ins) : BytesOk (encP p) := by
  intro z hz
  unfold encP at hz
  obtain ⟨x, _, hx⟩ := List.mem_flatMap.1 hz
  exact encI_bytes x z hx
theorem encR_bytes (p : List Ins) : BytesOk (encR p) := by
  unfold encR
  split
  · exact encP_bytes p
  · intro z hz; cases hz
end Go.Proofs.YtemigcdieghkfaaDoor
