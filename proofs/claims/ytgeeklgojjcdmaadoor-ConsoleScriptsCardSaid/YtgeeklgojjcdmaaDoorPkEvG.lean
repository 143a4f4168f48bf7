/- Merged: Wf, EvArg. -/
import Derived.Test.YtgeeklgojjcdmaaDoorPkArgs
import Derived.Test.YtgeeklgojjcdmaaDoorPkConFG
set_option linter.unusedVariables false
set_option linter.unusedSimpArgs false
set_option linter.unusedSectionVars false
namespace Go.Proofs.YtgeeklgojjcdmaaDoor
section
open Go Go.RowKit
theorem wf_i64 {n : Int} (h : (Lit.int .i64 n).wf = true) : -9223372036854775808 ≤ n ∧ n ≤ 9223372036854775807 := by
  simp [Lit.wf, IntKind.min, IntKind.max, IntKind.signed, IntKind.bits] at h; exact h
end
section
open Go Go.RowKit Go.ChangeShapes Go.WideShapes
section
variable {H : Type} {enc : TypeId × Value → H} {w : World} {base : Nat} {held : Bool}
/-- Cells that read as these kinds of integers. -/
theorem ints_open {ts : List TypeId} : ∀ {ks : List IntKind} {cs : List Value}, (∀ (i : Nat) (k : IntKind), ks[i]? = some k → ∃ t, ts[i]? = some t ∧ Tryd.prog.underlying t = some (.int k)) → cs.length = ks.length →
    (∀ (j : Nat) (t' : TypeId), ts[j]? = some t' → ∃ v, cs[j]? = some v ∧ Leaf enc Tryd.prog w base (fun _ => true) held t' v) → ∃ ns : List Int, ns.length = ks.length ∧ cs = (ks.zip ns).map (fun x => Value.int x.1 x.2) ∧ ∀ x ∈ ks.zip ns, (Lit.int x.1 x.2).wf = true := by
  intro ks cs hk hl hj
  have each : ∀ (i : Nat) (k : IntKind), ks[i]? = some k → ∃ n, cs[i]? = some (.int k n) ∧ (Lit.int k n).wf = true := by
    intro i k hik
    obtain ⟨t, ht, hu⟩ := hk i k hik
    obtain ⟨v, hv, hL⟩ := hj i t ht
    obtain ⟨n, rfl, hw⟩ := hL.int hu
    exact ⟨n, hv, hw⟩
  clear hk hj
  induction ks generalizing cs with
  | nil =>
    have : cs = [] := List.eq_nil_of_length_eq_zero (by simpa using hl)
    subst this
    exact ⟨[], rfl, rfl, by simp⟩
  | cons k ks ih =>
    cases cs with
    | nil => simp at hl
    | cons c cs =>
      obtain ⟨n, hn, hw⟩ := each 0 k rfl
      simp only [List.getElem?_cons_zero, Option.some.injEq] at hn
      subst hn
      obtain ⟨ns, hnl, hcs, hws⟩ := ih (cs := cs) (by simpa using hl) (fun i k' h => by
        obtain ⟨m, hm, hw'⟩ := each (i + 1) k' (by simpa using h)
        exact ⟨m, by simpa using hm, hw'⟩)
      refine ⟨n :: ns, by simp [hnl], by simp [hcs], fun x hx => ?_⟩
      simp only [List.zip_cons_cons, List.mem_cons] at hx
      rcases hx with rfl | hx
      · exact hw
      · exact hws x hx
def evKinds : List IntKind := [.i64, .i64, .i64]
def evLeaves : List TypeId := [3, 3, 3]
theorem ev_leaves : leaves Tryd.prog 3 35 = some evLeaves := by kernel_rfl
theorem ev_kinds : ∀ (i : Nat) (k : IntKind), evKinds[i]? = some k → ∃ t, evLeaves[i]? = some t ∧ Tryd.prog.underlying t = some (.int k) := by
  intro i k hk
  match i, hk with
  | 0, hk => cases hk; exact ⟨_, rfl, Tryd.underlying3⟩
  | 1, hk => cases hk; exact ⟨_, rfl, Tryd.underlying3⟩
  | 2, hk => cases hk; exact ⟨_, rfl, Tryd.underlying3⟩
  | n + 3, hk => simp [evKinds] at hk
set_option maxRecDepth 100000 in
theorem raws_arg {v : Value} {d : DataW H} {p : List MemPlace} {r : Reach} {b0 : Nat} (hok : Value.okWide Tryd.prog w r b0 22 v)
    (h : DataW.Trod enc Tryd.prog w base (fun _ => true) held 22 v d p) (hs : ∀ n ∈ d.weights Tryd.prog 22, n ≤ reachBytes) : ∃ q : List RawEv, Row w v 3 (rawRows q) := by
  obtain ⟨L, hr, hc, _⟩ := open_row Tryd.underlying22 (by decide +kernel) hok h hs
  obtain ⟨q, rfl, _⟩ := map_of (fun x : RawEv => x.cells.toList) (fun _ => True) (fun c hcm => by
    obtain ⟨hl, g⟩ := leaves_open 3 35 evLeaves c ev_leaves (hc c hcm)
    obtain ⟨ns, hnl, hcs, _⟩ := ints_open (ks := evKinds) ev_kinds (by rw [hl]; rfl) g
    have h3 : ns.length = 3 := hnl
    match ns, h3 with
    | [n0, n1, n2], _ => exact ⟨⟨n0, n1, n2⟩, hcs, trivial⟩)
  have h3 : Tryd.prog.cellsOf 35 = 3 := by kernel_rfl
  rw [h3] at hr
  exact ⟨q, hr⟩
end
end
end Go.Proofs.YtgeeklgojjcdmaaDoor
