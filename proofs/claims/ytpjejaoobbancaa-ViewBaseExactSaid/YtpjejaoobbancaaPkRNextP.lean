/- The reference's proposal: plain. -/
import Derived.Test.YtpjejaoobbancaaPkRAdd
import Derived.Test.YtpjejaoobbancaaPkMemP
import Derived.Test.YtpjejaoobbancaaPkRBase
set_option linter.unusedVariables false
set_option linter.unusedSimpArgs false
set_option linter.unusedSectionVars false
namespace Go.Proofs.Ytpjejaoobbancaa
open Go

theorem snoc_ind {P : List Int → Prop} (h0 : P []) (h1 : ∀ l c, P l → P (l ++ [c])) (l : List Int) : P l := by
  have h : ∀ r : List Int, P r.reverse := by
    intro r
    induction r with
    | nil => exact h0
    | cons a r ih => rw [List.reverse_cons]; exact h1 _ _ ih
  have := h l.reverse
  rwa [List.reverse_reverse] at this
/-- What an ascending list adds to a list: its elements that are not there, each once. -/
theorem joinU_asc {m : List Int} : ∀ {l : List Int}, l.Pairwise (· ≤ ·) → ∃ s, joinU m l = m ++ s ∧ s.Pairwise (· < ·) ∧ ∀ z, z ∈ s ↔ z ∈ l ∧ z ∉ m := by
  intro l
  refine snoc_ind (P := fun l => l.Pairwise (· ≤ ·) → ∃ s, joinU m l = m ++ s ∧ s.Pairwise (· < ·) ∧ ∀ z, z ∈ s ↔ z ∈ l ∧ z ∉ m) ?_ ?_ l
  · intro _; exact ⟨[], by simp [joinU], List.Pairwise.nil, by simp⟩
  · intro l c ih h
    rw [List.pairwise_append] at h
    obtain ⟨h1, _, h3⟩ := h
    obtain ⟨s, hs, hp, hm⟩ := ih h1
    rw [joinU_snoc, hs]
    by_cases hc : c ∈ m ++ s
    · rw [if_pos hc]
      refine ⟨s, rfl, hp, fun z => ?_⟩
      rw [hm, List.mem_append, List.mem_singleton]
      constructor
      · rintro ⟨a, b⟩; exact ⟨.inl a, b⟩
      · rintro ⟨a | a, b⟩
        · exact ⟨a, b⟩
        · subst a
          rcases List.mem_append.1 hc with hc | hc
          · exact absurd hc b
          · exact (hm z).1 hc
    · rw [if_neg hc]
      have hcm : c ∉ m := fun q => hc (List.mem_append_left _ q)
      have hcs : c ∉ s := fun q => hc (List.mem_append_right _ q)
      refine ⟨s ++ [c], List.append_assoc _ _ _, ?_, fun z => ?_⟩
      · rw [List.pairwise_append]
        refine ⟨hp, List.pairwise_singleton _ _, fun a ha b hb => ?_⟩
        have : b = c := by simpa using hb
        subst this
        have h4 := h3 a ((hm a).1 ha).1 b (List.mem_singleton.2 rfl)
        have : a ≠ b := fun q => hcs (q ▸ ha)
        omega
      · rw [List.mem_append, hm, List.mem_append, List.mem_singleton]
        constructor
        · rintro (⟨a, b⟩ | rfl)
          · exact ⟨.inl a, b⟩
          · exact ⟨.inr rfl, hcm⟩
        · rintro ⟨a | a, b⟩
          · exact .inl ⟨a, b⟩
          · exact .inr a
theorem joinU_app (m a b : List Int) : joinU m (a ++ b) = joinU (joinU m a) b := by unfold joinU; rw [List.foldl_append]
theorem upto_asc (n : Nat) : (upto n).Pairwise (· < ·) := by
  induction n with
  | zero => exact List.Pairwise.nil
  | succ n ih =>
    rw [upto_succ, List.pairwise_append]
    refine ⟨ih, List.pairwise_singleton _ _, fun a ha b hb => ?_⟩
    have : b = (n : Int) := by simpa using hb
    have := (upto_lt a ha).2
    omega
theorem upto_next {n : Nat} {l : List Int} (hp : l.Pairwise (· < ·)) (h : ∀ z, z ∈ l ↔ z ∈ upto n ∨ z = (n : Int)) : l = upto (n + 1) := by
  refine asc_ext hp (upto_asc _) fun z => ?_
  rw [h, upto_succ, List.mem_append, List.mem_singleton]
theorem keep_sort_asc (dead wanted : List Int) : (keepL dead (sortL wanted)).Pairwise (· ≤ ·) := by
  refine List.Pairwise.sublist (List.filter_sublist) ?_
  have := List.pairwise_mergeSort (le := fun a b : Int => decide (a ≤ b)) (fun a b c h1 h2 => by simp at *; omega) (fun a b => by simp; omega) wanted
  exact this.imp (fun h => by simpa using h)
/-- The joining cores, as the reference finds them. -/
theorem joins_eq {m1 js dead wanted : List Int} (hp : js.Pairwise (· < ·)) (h : ∀ z, z ∈ js ↔ z ∈ wanted ∧ z ∉ dead ∧ z ∉ m1) : joinU m1 (keepL dead (sortL wanted)) = m1 ++ js := by
  obtain ⟨s, hs, hsp, hsm⟩ := joinU_asc (m := m1) (keep_sort_asc dead wanted)
  rw [hs, asc_ext hsp hp fun z => by rw [hsm, h, keepL_mem, sortL_mem, and_assoc]]
theorem numFor_next {leader mx y : Int} (h0 : 0 ≤ leader) (h1 : leader < 32) (hy : mx + 1 ≤ y) (hy2 : y ≤ numFor leader mx) (hm : y % 32 = leader) : y = numFor leader mx := by
  unfold numFor at *; omega
theorem numFor_more {leader mx y : Int} (h0 : 0 ≤ leader) (h1 : leader < 32) (hy : mx + 1 ≤ y) (hy2 : y ≤ numFor leader mx) (hm : ¬ y % 32 = leader) : y + 1 ≤ numFor leader mx := by
  unfold numFor at *; omega
theorem numFor_bd {leader mx : Int} (h0 : 0 ≤ leader) (h1 : leader < 32) : mx + 1 ≤ numFor leader mx ∧ numFor leader mx ≤ mx + 32 := by
  unfold numFor; omega
end Go.Proofs.Ytpjejaoobbancaa
