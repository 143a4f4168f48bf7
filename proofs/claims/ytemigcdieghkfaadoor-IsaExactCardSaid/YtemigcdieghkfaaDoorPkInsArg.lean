/- An argument that is a slice of instructions. -/
import Derived.Test.YtemigcdieghkfaaDoorPkValidG
import Derived.Test.YtemigcdieghkfaaDoorPkWf
set_option linter.unusedVariables false
set_option linter.unusedSimpArgs false
set_option linter.unusedSectionVars false
namespace Go.Proofs.YtemigcdieghkfaaDoor
open Go Go.RowKit Go.ChangeShapes Go.WideShapes
section
variable {H : Type} {enc : TypeId × Value → H} {w : World} {base : Nat} {held : Bool}
theorem wf_i32 {n : Int} (h : (Lit.int .i32 n).wf = true) : -2147483648 ≤ n ∧ n ≤ 2147483647 := by
  simp [Lit.wf, IntKind.min, IntKind.max, IntKind.signed, IntKind.bits] at h; exact h
/-- Cells that read as these kinds of integers. -/
theorem ints_open {ts : List TypeId} : ∀ {ks : List IntKind} {cs : List Value}, (∀ (i : Nat) (k : IntKind), ks[i]? = some k → ∃ t, ts[i]? = some t ∧ Tryd.prog.underlying t = some (.int k)) → cs.length = ks.length →
    (∀ (j : Nat) (t' : TypeId), ts[j]? = some t' → ∃ v, cs[j]? = some v ∧ Leaf enc Tryd.prog w base (fun _ => true) held t' v) → ∃ ns : List Int, ns.length = ks.length ∧ cs = (ks.zip ns).map (fun x => Value.int x.1 x.2) ∧ ∀ x ∈ ks.zip ns, (Lit.int x.1 x.2).wf = true := by
  intro ks cs hk hl hj
  have each : ∀ (i : Nat) (k : IntKind), ks[i]? = some k → ∃ n, cs[i]? = some (.int k n) ∧ (Lit.int k n).wf = true := by
    intro i k hik
    obtain ⟨t, ht, hu⟩ := hk i k hik
    obtain ⟨v, hv, hL⟩ := hj i t ht
    obtain ⟨n, rfl, hw⟩ := hL.int hu
    exact ⟨n, hv, hw⟩
  clear hk hj
  induction ks generalizing cs with
  | nil =>
    have : cs = [] := List.eq_nil_of_length_eq_zero (by simpa using hl)
    subst this
    exact ⟨[], rfl, rfl, by simp⟩
  | cons k ks ih =>
    cases cs with
    | nil => simp at hl
    | cons c cs =>
      obtain ⟨n, hn, hw⟩ := each 0 k rfl
      simp only [List.getElem?_cons_zero, Option.some.injEq] at hn
      subst hn
      obtain ⟨ns, hnl, hcs, hws⟩ := ih (cs := cs) (by simpa using hl) (fun i k' h => by
        obtain ⟨m, hm, hw'⟩ := each (i + 1) k' (by simpa using h)
        exact ⟨m, by simpa using hm, hw'⟩)
      refine ⟨n :: ns, by simp [hnl], by simp [hcs], fun x hx => ?_⟩
      simp only [List.zip_cons_cons, List.mem_cons] at hx
      rcases hx with rfl | hx
      · exact hw
      · exact hws x hx
def insKinds : List IntKind := [.i64, .i64, .i64, .i64, .i32]
def insLeaves : List TypeId := [3, 3, 3, 3, 21]
theorem ins_leaves : leaves Tryd.prog 5 35 = some insLeaves := by kernel_rfl
theorem kinds_of {ts : List TypeId} {ks : List IntKind} (h : ts.map (fun t => if t = 3 then IntKind.i64 else .i32) = ks) (hall : ∀ t ∈ ts, t = 3 ∨ t = 21) :
    ∀ (i : Nat) (k : IntKind), ks[i]? = some k → ∃ t, ts[i]? = some t ∧ Tryd.prog.underlying t = some (.int k) := by
  intro i k hk
  rw [← h, List.getElem?_map] at hk
  cases ht : ts[i]? with
  | none => rw [ht] at hk; cases hk
  | some t =>
    rw [ht] at hk
    simp only [Option.map_some, Option.some.injEq] at hk
    refine ⟨t, rfl, ?_⟩
    rcases hall t (List.mem_of_getElem? ht) with rfl | rfl
    · rw [← hk]; exact Tryd.underlying3
    · rw [← hk]; exact Tryd.underlying21
set_option maxRecDepth 100000 in
theorem instrs_arg {v : Value} {d : DataW H} {p : List MemPlace} {r : Reach} {b0 : Nat} (hok : Value.okWide Tryd.prog w r b0 23 v)
    (h : DataW.Trod enc Tryd.prog w base (fun _ => true) held 23 v d p) (hs : ∀ n ∈ d.weights Tryd.prog 23, n ≤ reachBytes) : ∃ q : List Ins, Instrs w v q := by
  obtain ⟨L, hr, hc, _⟩ := open_row Tryd.underlying23 (by decide +kernel) hok h hs
  obtain ⟨q, rfl, hq⟩ := map_of (fun x : Ins => x.cells.toList) Ins.fits (fun c hcm => by
    obtain ⟨hl, g⟩ := leaves_open 5 35 insLeaves c ins_leaves (hc c hcm)
    obtain ⟨ns, hnl, hcs, hw⟩ := ints_open (ks := insKinds) (kinds_of (ts := insLeaves) (by decide) (by decide)) (by rw [hl]; rfl) g
    have h5 : ns.length = 5 := hnl
    match ns, h5 with
    | [n0, n1, n2, n3, n4], _ =>
      simp only [insKinds, List.zip_cons_cons, List.zip_nil_right, List.mem_cons, List.not_mem_nil, or_false, forall_eq_or_imp, forall_eq] at hw
      exact ⟨⟨n0, n1, n2, n3, n4⟩, hcs, wf_i32 hw.2.2.2.2, wf_i64 hw.1⟩)
  have h5 : Tryd.prog.cellsOf 35 = 5 := by kernel_rfl
  rw [h5] at hr
  exact ⟨q, hr, hq⟩
end
end Go.Proofs.YtemigcdieghkfaaDoor
