/- The members of a proposed view: plain. -/
import Derived.Test.YtpjejaoobbancaaPkSrt
import Derived.Test.YtpjejaoobbancaaPkLawAdopts
set_option linter.unusedVariables false
set_option linter.unusedSimpArgs false
set_option linter.unusedSectionVars false
namespace Go.Proofs.Ytpjejaoobbancaa
open Go

theorem joinU_mem {cs : List Int} : ∀ {ms : List Int} {z : Int}, z ∈ joinU ms cs ↔ z ∈ ms ∨ z ∈ cs := by
  induction cs with
  | nil => intro ms z; simp [joinU]
  | cons c cs ih =>
    intro ms z
    have e : joinU ms (c :: cs) = joinU (if c ∈ ms then ms else ms ++ [c]) cs := rfl
    rw [e, ih, List.mem_cons]
    by_cases hc : c ∈ ms
    · rw [if_pos hc]
      constructor
      · rintro (h | h)
        · exact .inl h
        · exact .inr (.inr h)
      · rintro (h | rfl | h)
        · exact .inl h
        · exact .inl hc
        · exact .inr h
    · rw [if_neg hc, List.mem_append, List.mem_singleton]
      constructor
      · rintro ((h | h) | h)
        · exact .inl h
        · exact .inr (.inl h)
        · exact .inr (.inr h)
      · rintro (h | h | h)
        · exact .inl (.inl h)
        · exact .inl (.inr h)
        · exact .inr h
theorem joinU_nodup {cs : List Int} : ∀ {ms : List Int}, ms.Nodup → (joinU ms cs).Nodup := by
  induction cs with
  | nil => intro ms h; exact h
  | cons c cs ih =>
    intro ms h
    have e : joinU ms (c :: cs) = joinU (if c ∈ ms then ms else ms ++ [c]) cs := rfl
    rw [e]
    apply ih
    by_cases hc : c ∈ ms
    · rw [if_pos hc]; exact h
    · rw [if_neg hc]
      refine List.nodup_append.2 ⟨h, by simp, ?_⟩
      intro a ha b hb
      have : b = c := by simpa using hb
      subst this
      rintro rfl
      exact hc ha
theorem inL_mem {l ms : List Int} {z : Int} : z ∈ inL l ms ↔ z ∈ l ∧ z ∈ ms := by unfold inL; rw [List.mem_filter]; simp
theorem inL_nodup {l ms : List Int} (h : l.Nodup) : (inL l ms).Nodup := h.sublist (List.filter_sublist)
theorem keepL_mem {outs l : List Int} {z : Int} : z ∈ keepL outs l ↔ z ∈ l ∧ z ∉ outs := by unfold keepL; rw [List.mem_filter]; simp
theorem sortL_mem {l : List Int} {z : Int} : z ∈ sortL l ↔ z ∈ l := List.mem_mergeSort
theorem upto_mem {n : Nat} {z : Int} : z ∈ upto n ↔ 0 ≤ z ∧ z < (n : Int) := by
  refine ⟨upto_lt z, fun h => ?_⟩
  unfold upto
  exact List.mem_map.2 ⟨z.toNat, List.mem_range.2 (by omega), by omega⟩
theorem memK_nodup (zs : List Int) : ∀ i, (memK zs i).Nodup
  | 0 => List.nodup_nil
  | i + 1 => by
    have h := memK_nodup zs i
    unfold memK
    split
    · exact h
    · rename_i hc
      refine List.nodup_append.2 ⟨h, by simp, ?_⟩
      intro a ha b hb
      have : b = at0 zs (2 + (i : Int)) % 4 := by simpa using hb
      subst this
      rintro rfl
      exact hc ha
theorem baseVf_nodup {rs : List Rep} (h : ∀ r ∈ rs, r.view.mem.Nodup ∧ r.next.mem.Nodup) (b : Int) (ad : Bool) : (baseVf rs b ad).mem.Nodup := by
  unfold baseVf
  split
  · rename_i r hr
    exact (h r (List.mem_of_find?_eq_some hr)).1
  · split
    · rename_i r hr
      exact (h r (List.mem_of_find?_eq_some hr)).2
    · exact List.nodup_nil
theorem mkReports_nodup (zs : List Int) (n : Nat) : ∀ r ∈ mkReports zs n, r.view.mem.Nodup ∧ r.next.mem.Nodup := by
  intro r hr
  obtain ⟨i, _, rfl⟩ := mkReports_mem hr
  refine ⟨memK_nodup _ _, ?_⟩
  unfold mkReport
  dsimp only
  split
  · exact memK_nodup _ _
  · exact List.nodup_nil
theorem fix1_mem {mem : List Int} (h : ¬ mem = []) (c : Int) : fix1 mem c ∈ mem := by
  unfold fix1
  by_cases hc : c ∈ mem
  · rw [if_pos hc]; exact hc
  · rw [if_neg hc]
    cases mem with
    | nil => exact absurd rfl h
    | cons m ms => exact List.mem_cons_self
/-- The members and owners of a proposed view. -/
theorem next_members {leader p : Int} {rs : List Rep} {wanted dead : List Int} {V : Vw} (hn : ∀ r ∈ rs, r.view.mem.Nodup ∧ r.next.mem.Nodup) (h0 : 1 ≤ rs.length) (h : IsNext leader p rs (keepL dead (sortL wanted)) V) :
    V.mem.Nodup ∧ (∀ z, z ∈ V.mem ↔ (0 ≤ z ∧ z < (rs.length : Int)) ∨ (z ∈ wanted ∧ z ∉ dead)) ∧ ∀ z ∈ V.own, z ∈ V.mem := by
  obtain ⟨mx, b, ad, _, _, _, hm, ho⟩ := h
  have hmem : ∀ z, z ∈ V.mem ↔ (0 ≤ z ∧ z < (rs.length : Int)) ∨ (z ∈ wanted ∧ z ∉ dead) := by
    intro z
    rw [hm, joinU_mem, inL_mem, List.mem_append, upto_mem, keepL_mem, sortL_mem]
    constructor
    · rintro (h | h | h)
      · exact .inl h.2
      · exact .inl h
      · exact .inr h
    · rintro (h | h)
      · exact .inr (.inl h)
      · exact .inr (.inr h)
  refine ⟨by rw [hm]; exact joinU_nodup (inL_nodup (baseVf_nodup hn b ad)), hmem, ?_⟩
  intro z hz
  rw [ho] at hz
  obtain ⟨c, _, rfl⟩ := List.mem_map.1 hz
  refine fix1_mem (fun hnil => ?_) c
  have := (hmem 0).2 (.inl ⟨by omega, by omega⟩)
  rw [hnil] at this
  cases this
end Go.Proofs.Ytpjejaoobbancaa
