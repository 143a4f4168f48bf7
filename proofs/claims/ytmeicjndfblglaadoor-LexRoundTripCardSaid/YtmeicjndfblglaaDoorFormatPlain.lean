/- Tokens as a text, separated by single spaces, and what scanning it comes to. Plain. -/
import Derived.Test.YtmeicjndfblglaaDoorSpacePlain
set_option linter.unusedVariables false
set_option linter.unusedSimpArgs false
set_option linter.unusedSectionVars false
namespace Go.Proofs.YtmeicjndfblglaaDoor
open Go

/-- The text of the first k tokens, a space between each two. -/
def joinK (rs : List Raw) : Nat → List UInt8
  | 0 => []
  | k + 1 => joinK rs k ++ (if k = 0 then [] else [32]) ++ (textOf (rs.getD k ⟨0, [], 0⟩)).1
def okRaw (r : Raw) : Bool := (textOf r).2
/-- What Format returns. -/
def formatL (rs : List Raw) : List UInt8 := if rs.all okRaw = true then joinK rs rs.length else []
theorem getD_mem {rs : List Raw} {k : Nat} (h : k < rs.length) : rs.getD k ⟨0, [], 0⟩ = rs[k] ∧ rs.getD k ⟨0, [], 0⟩ ∈ rs := by
  have he : rs.getD k ⟨0, [], 0⟩ = rs[k] := by rw [List.getD_eq_getElem?_getD, List.getElem?_eq_getElem h]; rfl
  exact ⟨he, by rw [he]; exact List.getElem_mem _⟩
theorem joinK_len (rs : List Raw) (hr : ∀ r ∈ rs, (0 ≤ r.value ∧ r.value ≤ 18446744073709551615) ∧ r.text.length ≤ 200) : ∀ k, k ≤ rs.length → (joinK rs k).length ≤ 203 * k
  | 0, _ => by simp [joinK]
  | k + 1, hk => by
    have h1 := joinK_len rs hr k (by omega)
    have hm := (getD_mem (rs := rs) (k := k) (by omega)).2
    have h3 := textOf_len _ (hr _ hm).1 (hr _ hm).2
    simp only [joinK, List.length_append]
    have : (if k = 0 then ([] : List UInt8) else [32]).length ≤ 1 := by split <;> simp
    omega
theorem joinK_snoc (rs : List Raw) (k : Nat) (h0 : ¬ k = 0) : joinK rs (k + 1) = joinK rs k ++ [32] ++ (textOf (rs.getD k ⟨0, [], 0⟩)).1 := by
  rw [joinK, if_neg h0]
theorem joinK_seg (rs : List Raw) (hr : ∀ r ∈ rs, (0 ≤ r.value ∧ r.value ≤ 18446744073709551615) ∧ (textOf r).2 = true) : ∀ k, k ≤ rs.length → ∀ c, wsB c = true → Seg (joinK rs k ++ [c]) (rs.take k)
  | 0, _, c, hc => by simpa [joinK] using Seg.ws hc
  | k + 1, hk, c, hc => by
    obtain ⟨he, hm⟩ := getD_mem (rs := rs) (k := k) (by omega)
    have h4 := Seg.tok (rs.getD k ⟨0, [], 0⟩) ⟨by unfold most; have := (hr _ hm).1; omega, (hr _ hm).1.1⟩ (hr _ hm).2 (Seg.ws hc) ⟨c, [], rfl, by unfold gapB; rw [hc]; rfl⟩
    rw [List.take_add_one, List.getElem?_eq_getElem (by omega), Option.toList_some, ← he]
    by_cases h0 : k = 0
    · subst h0
      simpa [joinK] using h4
    · have h1 := (joinK_seg rs hr k (by omega) 32 (by decide)).append h4
      rw [joinK_snoc rs k h0]
      simpa using h1
/-- What scanning the text of well-formed tokens comes to. -/
theorem joinK_scan (rs : List Raw) (hn : rs.length ≤ 100) (hr : ∀ r ∈ rs, (0 ≤ r.value ∧ r.value ≤ 18446744073709551615) ∧ (textOf r).2 = true ∧ r.text.length ≤ 200) :
    (joinK rs rs.length).length ≤ 65536 ∧ ∃ d : List Tok, scanRes (joinK rs rs.length) = (d, 0, 0, 0) ∧ d.map (·.raw) = rs := by
  have hl := joinK_len rs (fun r h => ⟨(hr r h).1, (hr r h).2.2⟩) rs.length (Nat.le_refl _)
  have hs := joinK_seg rs (fun r h => ⟨(hr r h).1, (hr r h).2.1⟩) rs.length (Nat.le_refl _) 10 (by decide)
  rw [List.take_of_length_le (Nat.le_refl _)] at hs
  have h9 : (joinK rs rs.length).length ≤ 65536 := by omega
  refine ⟨h9, ?_⟩
  obtain ⟨D, e1, h1⟩ := hs
  have h2 := h1 []
  rw [List.append_nil, scanK_join, scanK_nil] at h2
  have h3 : scanK (joinK rs rs.length) = (D, none) := by
    cases hq : scanK (joinK rs rs.length) with
    | mk da x =>
      rw [hq] at h2
      cases x with
      | none =>
        simpa [join, ResK.pre, ResK.shift] using h2
      | some v =>
        simp [join, ResK.pre, ResK.shift] at h2
  refine ⟨(place (joinK rs rs.length) (1, 1) (D, none)).1, by rw [scanRes_place h9, h3], ?_⟩
  simp only [place, List.map_map, ← e1]
  apply List.map_congr_left; intro y _; rfl
theorem formatL_bad {rs : List Raw} {r : Raw} (h : r ∈ rs) (hb : (textOf r).2 = false) : formatL rs = [] := by
  unfold formatL
  rw [if_neg]
  intro h2
  have := List.all_eq_true.1 h2 r h
  unfold okRaw at this
  rw [hb] at this; cases this
theorem formatL_good {rs : List Raw} (h : ∀ r ∈ rs, (textOf r).2 = true) : formatL rs = joinK rs rs.length := by
  unfold formatL
  rw [if_pos (List.all_eq_true.2 fun r hr => h r hr : rs.all okRaw = true)]
end Go.Proofs.YtmeicjndfblglaaDoor
