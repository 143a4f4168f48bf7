/- An argument that is a slice of bytes. -/
import Derived.Test.YtemigcdieghkfaaDoorPkEncG
import Derived.Test.YtemigcdieghkfaaDoorPkWf
set_option linter.unusedVariables false
set_option linter.unusedSimpArgs false
set_option linter.unusedSectionVars false
namespace Go.Proofs.YtemigcdieghkfaaDoor
open Go Go.RowKit

theorem u8s_arg {H : Type} {enc : TypeId × Value → H} {P : Program} {w : World} {base : Nat} {held : Bool} {t e : TypeId} {v : Value} {d : DataW H} {p : List MemPlace} {r : Reach} {b0 : Nat} (ht : P.underlying t = some (.slice e)) (he : P.underlying e = some (.int .u8)) (hz : P.cellsOf e = 1) (hok : Value.okWide P w r b0 t v)
    (h : DataW.Trod enc P w base (fun _ => true) held t v d p) (hs : ∀ n ∈ d.weights P t, n ≤ reachBytes) : ∃ zs, U8s w v zs := by
  obtain ⟨L, hr, hc, _⟩ := open_row ht (by omega) hok h hs
  obtain ⟨zs, rfl, hzs⟩ := map_of (fun z => [Value.int .u8 z]) (fun z => 0 ≤ z ∧ z ≤ 255) (fun c h => by
    obtain ⟨n, rfl, hw⟩ := (hc c h).one_int he
    refine ⟨n, rfl, ?_⟩
    simp [Lit.wf, IntKind.min, IntKind.max, IntKind.signed, IntKind.bits] at hw
    exact hw)
  rw [hz] at hr
  exact ⟨zs, hr, hzs⟩
end Go.Proofs.YtemigcdieghkfaaDoor
