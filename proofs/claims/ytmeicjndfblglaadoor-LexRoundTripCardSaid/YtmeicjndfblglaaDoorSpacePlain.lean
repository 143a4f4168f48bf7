/- The text of well-formed tokens with gaps between them: what scanning it comes to. Plain. -/
import Derived.Test.YtmeicjndfblglaaDoorTextPlain
set_option linter.unusedVariables false
set_option linter.unusedSimpArgs false
set_option linter.unusedSectionVars false
namespace Go.Proofs.YtmeicjndfblglaaDoor
open Go

/-- The six gaps. -/
def gapsL : List (List UInt8) := [[32], [10], [9, 13, 10], [32, 35, 32, 97, 32, 99, 111, 109, 109, 101, 110, 116, 32, 34, 32, 123, 32, 10], [35, 10, 35, 10], [32, 32, 9]]
def gapN (i : Nat) : List UInt8 := gapsL.getD i []
def theEnd : List UInt8 := [35, 32, 116, 104, 101, 32, 101, 110, 100]
theorem gap_seg (i : Nat) (h : i < 6) : Seg (gapN i) [] ∧ (∃ c q, gapN i = c :: q ∧ gapB c = true) ∧ (gapN i).length ≤ 18 := by
  have ws : ∀ c : UInt8, wsB c = true → Seg [c] [] := fun c h => Seg.ws h
  have cm : Seg (35 :: (([32, 97, 32, 99, 111, 109, 109, 101, 110, 116, 32, 34, 32, 123, 32] : List UInt8) ++ [10])) [] := Seg.comment (by decide)
  have c0 : Seg (35 :: (([] : List UInt8) ++ [10])) [] := Seg.comment (by decide)
  obtain rfl | rfl | rfl | rfl | rfl | rfl : i = 0 ∨ i = 1 ∨ i = 2 ∨ i = 3 ∨ i = 4 ∨ i = 5 := by omega
  · exact ⟨ws 32 (by decide), ⟨32, [], rfl, by decide⟩, by decide⟩
  · exact ⟨ws 10 (by decide), ⟨10, [], rfl, by decide⟩, by decide⟩
  · exact ⟨((ws 9 (by decide)).append (ws 13 (by decide))).append (ws 10 (by decide)), ⟨9, [13, 10], rfl, by decide⟩, by decide⟩
  · exact ⟨(ws 32 (by decide)).append cm, ⟨32, _, rfl, by decide⟩, by decide⟩
  · exact ⟨c0.append c0, ⟨35, _, rfl, by decide⟩, by decide⟩
  · exact ⟨((ws 32 (by decide)).append (ws 32 (by decide))).append (ws 9 (by decide)), ⟨32, [32, 9], rfl, by decide⟩, by decide⟩

/-- The text of the first k tokens, a gap ahead of and behind each. -/
def spaced (rs : List Raw) (g : Nat → Nat) : Nat → List UInt8
  | 0 => gapN (g 0)
  | k + 1 => spaced rs g k ++ (textOf (rs.getD k ⟨0, [], 0⟩)).1 ++ gapN (g (k + 1))
theorem textOf_len (r : Raw) (hv : 0 ≤ r.value ∧ r.value ≤ 18446744073709551615) (h : r.text.length ≤ 200) : (textOf r).1.length ≤ 202 := by
  unfold textOf
  repeat' split
  · simp
  · simp only; omega
  · have := numL_len10 (n := r.value.toNat) (by omega)
    simp only; omega
  · simp only [List.length_append, List.length_cons, List.length_nil]; omega
  · simp only; omega
  · simp
theorem spaced_len (rs : List Raw) (g : Nat → Nat) (hg : ∀ i, g i < 6) (hr : ∀ r ∈ rs, (0 ≤ r.value ∧ r.value ≤ 18446744073709551615) ∧ r.text.length ≤ 200) : ∀ k, k ≤ rs.length → (spaced rs g k).length ≤ 18 + 220 * k
  | 0, _ => by have := (gap_seg (g 0) (hg 0)).2.2; simp only [spaced]; omega
  | k + 1, hk => by
    have h1 := spaced_len rs g hg hr k (by omega)
    have h2 := (gap_seg (g (k + 1)) (hg _)).2.2
    have hm : rs.getD k ⟨0, [], 0⟩ ∈ rs := by rw [List.getD_eq_getElem?_getD, List.getElem?_eq_getElem (by omega)]; exact List.getElem_mem _
    have h3 := textOf_len _ (hr _ hm).1 (hr _ hm).2
    simp only [spaced, List.length_append]
    omega
theorem spaced_seg (rs : List Raw) (g : Nat → Nat) (hg : ∀ i, g i < 6) (hr : ∀ r ∈ rs, (0 ≤ r.value ∧ r.value ≤ 18446744073709551615) ∧ (textOf r).2 = true) : ∀ k, k ≤ rs.length → Seg (spaced rs g k) (rs.take k)
  | 0, _ => by simpa [spaced] using (gap_seg (g 0) (hg 0)).1
  | k + 1, hk => by
    have h1 := spaced_seg rs g hg hr k (by omega)
    obtain ⟨h2, h3, _⟩ := gap_seg (g (k + 1)) (hg _)
    have he : rs.getD k ⟨0, [], 0⟩ = rs[k]'(by omega) := by rw [List.getD_eq_getElem?_getD, List.getElem?_eq_getElem (by omega)]; rfl
    have hm : rs.getD k ⟨0, [], 0⟩ ∈ rs := by rw [he]; exact List.getElem_mem _
    have h4 := Seg.tok (rs.getD k ⟨0, [], 0⟩) ⟨by unfold most; have := (hr _ hm).1; omega, (hr _ hm).1.1⟩ (hr _ hm).2 h2 h3
    have h5 := h1.append h4
    rw [List.take_add_one, List.getElem?_eq_getElem (by omega), Option.toList_some, ← he]
    simpa [spaced] using h5
theorem end_scan : scanK theEnd = ([], none) := rfl
theorem spaced_scan (rs : List Raw) (g : Nat → Nat) (hg : ∀ i, g i < 6) (hn : rs.length ≤ 100) (hr : ∀ r ∈ rs, (0 ≤ r.value ∧ r.value ≤ 18446744073709551615) ∧ (textOf r).2 = true ∧ r.text.length ≤ 200) :
    (spaced rs g rs.length ++ theEnd).length ≤ 65536 ∧ ∃ d : List Tok, scanRes (spaced rs g rs.length ++ theEnd) = (d, 0, 0, 0) ∧ d.map (·.raw) = rs := by
  have hl := spaced_len rs g hg (fun r h => ⟨(hr r h).1, (hr r h).2.2⟩) rs.length (Nat.le_refl _)
  have hs := spaced_seg rs g hg (fun r h => ⟨(hr r h).1, (hr r h).2.1⟩) rs.length (Nat.le_refl _)
  rw [List.take_of_length_le (Nat.le_refl _)] at hs
  have h9 : (spaced rs g rs.length ++ theEnd).length ≤ 65536 := by rw [List.length_append]; show _ + 9 ≤ _; omega
  exact ⟨h9, hs.scan end_scan h9⟩
end Go.Proofs.YtmeicjndfblglaaDoor
