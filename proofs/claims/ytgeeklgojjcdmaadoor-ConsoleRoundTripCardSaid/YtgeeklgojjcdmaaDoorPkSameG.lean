/- Merged: Same, Awake. -/
import Derived.Test.YtgeeklgojjcdmaaDoorPkScanP
import Derived.Deep.RegionHeld3
set_option linter.unusedVariables false
set_option linter.unusedSimpArgs false
set_option linter.unusedSectionVars false
namespace Go.Proofs.YtgeeklgojjcdmaaDoor
section
open Go.RowKit

/-- A slice value that reads as these tokens. -/
def TokSlice (w : World) (v : Value) (n : Nat) (d : List Tok) : Prop :=
  d.length = n ∧ ((n = 0 ∧ v = .slice none 0 0) ∨ ∃ b off cap, v = .slice (some ⟨b, off, none⟩) n cap ∧ n ≤ 65536 ∧ b < w.heap.size ∧
    ∀ (i : Nat) (t : Tok), d[i]? = some t → w.cell? ⟨b, off + i * 5, none⟩ = some (.int .i64 t.raw.kind) ∧ w.cell? ⟨b, off + i * 5 + 1, none⟩ = some (.string (str t.raw.text)) ∧
      w.cell? ⟨b, off + i * 5 + 2, none⟩ = some (.int .u64 t.raw.value) ∧ w.cell? ⟨b, off + i * 5 + 3, none⟩ = some (.int .i64 t.line) ∧ w.cell? ⟨b, off + i * 5 + 4, none⟩ = some (.int .i64 t.col))
theorem TokSlice.below {w w' : World} {v : Value} {n : Nat} {d : List Tok} (h : TokSlice w v n d) (hb : Below w.heap.size w w') : TokSlice w' v n d := by
  refine ⟨h.1, ?_⟩
  rcases h.2 with h2 | ⟨b, off, cap, hv, hn, hbb, hc⟩
  · exact .inl h2
  · refine .inr ⟨b, off, cap, hv, hn, by have := hb.size; omega, fun i t ht => ?_⟩
    obtain ⟨x0, x1, x2, x3, x4⟩ := hc i t ht
    exact ⟨(hb.cell (by exact hbb)).trans x0, (hb.cell (by exact hbb)).trans x1, (hb.cell (by exact hbb)).trans x2, (hb.cell (by exact hbb)).trans x3, (hb.cell (by exact hbb)).trans x4⟩

end
section
open Go.RowKit

theorem tflat_at : ∀ (d : List Tok) (i j : Nat) (t : Tok), d[i]? = some t → j < 5 → (flat d)[i * 5 + j]? = t.cells.toList[j]?
  | [], i, j, t, h, _ => by simp at h
  | a :: d, 0, j, t, h, hj => by
    simp at h; subst h
    rw [flat, List.flatMap_cons, List.getElem?_append_left (by show 0 * 5 + j < 5; omega)]; simp
  | a :: d, i + 1, j, t, h, hj => by
    rw [flat, List.flatMap_cons, List.getElem?_append_right (by show 5 ≤ _; omega), ← flat]
    rw [show (i + 1) * 5 + j - a.cells.toList.length = i * 5 + j from by show (i + 1) * 5 + j - 5 = _; omega]
    exact tflat_at d i j t (by simpa using h) hj
theorem TokSlice.of_own {w : World} {base : Nat} {v : Value} {d : List Tok} {n : Nat} (hn : d.length = n) (h : w.ownsRow base 52 5 v n (flat d)) (hl : n ≤ 65536) : TokSlice w v n d := by
  subst hn
  refine ⟨rfl, ?_⟩
  rcases h.2 with ⟨hv, hn⟩ | ⟨g, cap, cur, hv, hg, hgg, _⟩
  · exact .inl ⟨hn, hv⟩
  · right
    refine ⟨g, 0, cap, hv, hl, (Array.getElem?_eq_some_iff.1 hgg).1, fun i t ht => ?_⟩
    have hc : ∀ j u, t.cells.toList[j]? = some u → j < 5 → w.cell? ⟨g, 0 + i * 5 + j, none⟩ = some u := by
      intro j u hu hj
      have h1 := h.cells (g := g) (by rw [hv]; rfl) (i * 5 + j) u (by rw [tflat_at d i j t ht hj]; exact hu)
      have hadd : (⟨g, 0, none⟩ : Addr).add (i * 5 + j) = ⟨g, 0 + i * 5 + j, none⟩ := by unfold Addr.add; split <;> simp_all
      rwa [hadd] at h1
    exact ⟨hc 0 _ rfl (by omega), hc 1 _ rfl (by omega), hc 2 _ rfl (by omega), hc 3 _ rfl (by omega), hc 4 _ rfl (by omega)⟩

end
end Go.Proofs.YtgeeklgojjcdmaaDoor
