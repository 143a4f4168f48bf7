/- A slice of a slice: as a value, in a region that draws its order, and what it reads as. Nothing of the program is imported. -/
import Derived.Test.YtpjejaoobbancaaPkKnAll
import Derived.Laws.Slices
set_option linter.unusedVariables false
set_option linter.unusedSimpArgs false
set_option linter.unusedSectionVars false
namespace Go.Proofs.Ytpjejaoobbancaa
open Go Go.RowKit
section
variable {P : Program} {ops : Array Oper} {op : Oper} {a : Act} {S : World → Prop}
end
theorem Row.sub {w : World} {ad : Option Addr} {n cap sz : Nat} {L : List (List Value)} (h : Row w (.slice ad n cap) sz L) (k m : Nat) (h1 : k ≤ m) (h2 : m ≤ L.length) : Row w (sliced ad k m cap sz) sz ((L.drop k).take (m - k)) := by
  have hlen : ((L.drop k).take (m - k)).length = m - k := by rw [List.length_take, List.length_drop]; omega
  refine ⟨by rw [hlen]; have := h.1; omega, ?_⟩
  rcases h.2 with ⟨hL, a, c, he⟩ | ⟨g, off, cap', he, h0, hc, hm, hg, hcell⟩
  · refine .inl ⟨by rw [hL]; simp, if cap = k then ad else ad.map (·.add (k * sz)), cap - k, ?_⟩
    unfold sliced
    have : m - k = 0 := by rw [hL] at h2; simp at h2; omega
    rw [this]
  · simp only [Value.slice.injEq] at he
    obtain ⟨rfl, hn, rfl⟩ := he
    subst hn
    by_cases hz : m = k
    · subst hz
      refine .inl ⟨by simp, if cap = m then some ⟨g, off, none⟩ else (some (⟨g, off, none⟩ : Addr)).map (·.add (m * sz)), cap - m, ?_⟩
      unfold sliced
      rw [Nat.sub_self]
    · refine .inr ⟨g, off + k * sz, cap - k, ?_, by rw [hlen]; omega, by rw [hlen]; omega, by omega, hg, fun i c j x hi hj => ?_⟩
      · unfold sliced
        rw [if_neg (by omega), hlen]
        simp only [Option.map_some, Value.slice.injEq, Option.some.injEq, and_true]
        unfold Addr.add
        split <;> simp_all
      · have hi' : L[k + i]? = some c := by
          rw [List.getElem?_take] at hi
          split at hi
          · rwa [List.getElem?_drop] at hi
          · cases hi
        have := hcell (k + i) c j x hi' hj
        rwa [show off + (k + i) * sz + j = off + k * sz + i * sz + j from by rw [Nat.add_mul]; omega] at this
end Go.Proofs.Ytpjejaoobbancaa
