/- Arguments that are slices of numbers, and what a list of cells' lists is made of. -/
import Derived.Test.YtbllialcfmpkaaaNext
set_option linter.unusedVariables false
set_option linter.unusedSimpArgs false
set_option linter.unusedSectionVars false
namespace Go.Proofs.Ytbllialcfmpkaaa
open Go Go.RowKit

theorem map_of {α β : Type} (g : α → β) (p : α → Prop) : ∀ {L : List β}, (∀ c ∈ L, ∃ a, c = g a ∧ p a) → ∃ l : List α, L = l.map g ∧ ∀ a ∈ l, p a
  | [], _ => ⟨[], rfl, by simp⟩
  | c :: L, h => by
    obtain ⟨a, rfl, ha⟩ := h c (by simp)
    obtain ⟨l, rfl, hl⟩ := map_of g p (L := L) (fun c hc => h c (by simp [hc]))
    exact ⟨a :: l, rfl, by simpa using ⟨ha, hl⟩⟩
section
variable {H : Type} {enc : TypeId × Value → H} {P : Program} {w : World} {base : Nat} {held : Bool}
theorem Rd.one_int {sp : Nat → Bool} {t : TypeId} {k : IntKind} {c : List Value} (h : Rd enc P w base sp held t c) (ht : P.underlying t = some (.int k)) : ∃ n, c = [.int k n] ∧ (Lit.int k n).wf = true := by
  obtain ⟨m, y, h, _⟩ := h
  obtain ⟨n, hc, _, hw⟩ := DataW.trod_int ht h
  exact ⟨n, hc, hw⟩
theorem ints_arg {t e : TypeId} {v : Value} {d : DataW H} {p : List MemPlace} {r : Reach} {b0 : Nat} (ht : P.underlying t = some (.slice e)) (he : P.underlying e = some (.int .i64)) (hz : P.cellsOf e = 1) (hok : Value.okWide P w r b0 t v)
    (h : DataW.Trod enc P w base (fun _ => true) held t v d p) (hs : ∀ n ∈ d.weights P t, n ≤ reachBytes) : ∃ zs, Ints w v zs := by
  obtain ⟨L, hr, hc, _⟩ := open_row ht (by omega) hok h hs
  obtain ⟨zs, rfl, hzs⟩ := map_of (fun z => [Value.int .i64 z]) (fun z => -9223372036854775808 ≤ z ∧ z ≤ 9223372036854775807) (fun c h => by
    obtain ⟨n, rfl, hw⟩ := (hc c h).one_int he
    refine ⟨n, rfl, ?_⟩
    simp [Lit.wf, IntKind.min, IntKind.max, IntKind.signed, IntKind.bits] at hw
    exact hw)
  rw [hz] at hr
  exact ⟨zs, hr, hzs⟩
end
end Go.Proofs.Ytbllialcfmpkaaa
