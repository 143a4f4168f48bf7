/- IsaSpoilt. -/
import Derived.Test.YtemigcdieghkfabDoorPkAwakeI
import Derived.Test.YtemigcdieghkfabDoorPkProgG
import Derived.Test.YtemigcdieghkfabDoorPkKnAll
set_option linter.unusedVariables false
set_option linter.unusedSimpArgs false
set_option linter.unusedSectionVars false
namespace Go.Proofs.YtemigcdieghkfabDoor
open Go.RowKit Go.BigFrame

theorem firstErr_all {n : Int} : ∀ {p : List Ins}, firstErr n p = 0 → ∀ x ∈ p, insErr x n = 0
  | [], _, x, hx => by cases hx
  | y :: p, h, x, hx => by
    rw [firstErr] at h
    by_cases hy : insErr y n = 0
    · rw [if_pos hy] at h
      rcases List.mem_cons.1 hx with rfl | hx
      · exact hy
      · exact firstErr_all h x hx
    · rw [if_neg hy] at h; exact absurd h hy
theorem progErr_all {p : List Ins} (h : progErr p = 0) : ∀ x ∈ p, insErr x p.length = 0 := by
  unfold progErr at h
  split at h
  · cases h
  · exact firstErr_all h
set_option maxRecDepth 100000 in
set_option maxHeartbeats 4000000 in
theorem Disassemble_bad (va : Value) (p : List Ins) (w : World) (h : Instrs w va p) (he : ¬ progErr p = 0) :
    Calls Tryd.prog 11 #[va] w fun e w' => e = .returned (.string ByteArray.empty) ∧ Below w.heap.size w w' := by
  have hb0 : (progErr p != 0) = true := by rw [bne_iff_ne]; exact he
  have H := Lib.hid h
  clear h he
  go_enter Tryd.func11, Tryd.ntmps11
  go_wp2_with (go_at_call 17; refine (Validate_any _ p _ H.out).mono ?_; rintro e wx ⟨rfl, hb⟩)
  go_ret
  exact ⟨rfl, hb⟩
theorem Instrs.of_kn' {M : List Nat} {W w : World} {l : Ents} (KN : Kn M W w l) {g cap n : Nat} {p : List Ins} (m : Has l g (CapAt 48 5 cap (p.map fun x => x.cells.toList))) (h : p.length = n) (h1 : p.length ≤ cap) (h2 : cap ≤ maxLen) (hf : ∀ x ∈ p, x.fits) : Instrs w (.slice (some ⟨g, 0, none⟩) n cap) p := by
  subst h
  have := OwnT.blk (e := 48) (sz := 5) (g := g) (cap := cap) (L := p.map fun x => x.cells.toList) (by rw [List.length_map]; exact h1) h2 (insLen _)
  rw [List.length_map] at this
  exact Instrs.ofT (f := fun o => o) this (KN.onlyK m) .id hf
end Go.Proofs.YtemigcdieghkfabDoor
