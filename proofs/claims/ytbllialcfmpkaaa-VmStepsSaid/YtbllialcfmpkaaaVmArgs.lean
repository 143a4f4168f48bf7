/- The laws' arguments: a processor, a program, words. -/
import Derived.Test.YtbllialcfmpkaaaAwakeVm
import Derived.Test.YtbllialcfmpkaaaArgs
set_option linter.unusedVariables false
set_option linter.unusedSimpArgs false
set_option linter.unusedSectionVars false
namespace Go.Proofs.Ytbllialcfmpkaaa
open Go Go.RowKit Go.ChangeShapes Go.WideShapes
section
variable {H : Type} {enc : TypeId × Value → H} {w : World} {base : Nat} {held : Bool}
theorem wf_u64 {n : Int} (h : (Lit.int .u64 n).wf = true) : 0 ≤ n ∧ n ≤ 18446744073709551615 := by
  simp [Lit.wf, IntKind.min, IntKind.max, IntKind.signed, IntKind.bits] at h; exact h
theorem wf_i64 {n : Int} (h : (Lit.int .i64 n).wf = true) : -9223372036854775808 ≤ n ∧ n ≤ 9223372036854775807 := by
  simp [Lit.wf, IntKind.min, IntKind.max, IntKind.signed, IntKind.bits] at h; exact h
theorem wf_i32 {n : Int} (h : (Lit.int .i32 n).wf = true) : -2147483648 ≤ n ∧ n ≤ 2147483647 := by
  simp [Lit.wf, IntKind.min, IntKind.max, IntKind.signed, IntKind.bits] at h; exact h
/-- Cells that read as these kinds of integers. -/
theorem ints_open {ts : List TypeId} : ∀ {ks : List IntKind} {cs : List Value}, (∀ (i : Nat) (k : IntKind), ks[i]? = some k → ∃ t, ts[i]? = some t ∧ Try.prog.underlying t = some (.int k)) → cs.length = ks.length →
    (∀ (j : Nat) (t' : TypeId), ts[j]? = some t' → ∃ v, cs[j]? = some v ∧ Leaf enc Try.prog w base (fun _ => true) held t' v) → ∃ ns : List Int, ns.length = ks.length ∧ cs = (ks.zip ns).map (fun x => Value.int x.1 x.2) ∧ ∀ x ∈ ks.zip ns, (Lit.int x.1 x.2).wf = true := by
  intro ks cs hk hl hj
  have each : ∀ (i : Nat) (k : IntKind), ks[i]? = some k → ∃ n, cs[i]? = some (.int k n) ∧ (Lit.int k n).wf = true := by
    intro i k hik
    obtain ⟨t, ht, hu⟩ := hk i k hik
    obtain ⟨v, hv, hL⟩ := hj i t ht
    obtain ⟨n, rfl, hw⟩ := hL.int hu
    exact ⟨n, hv, hw⟩
  clear hk hj
  induction ks generalizing cs with
  | nil =>
    have : cs = [] := List.eq_nil_of_length_eq_zero (by simpa using hl)
    subst this
    exact ⟨[], rfl, rfl, by simp⟩
  | cons k ks ih =>
    cases cs with
    | nil => simp at hl
    | cons c cs =>
      obtain ⟨n, hn, hw⟩ := each 0 k rfl
      simp only [List.getElem?_cons_zero, Option.some.injEq] at hn
      subst hn
      obtain ⟨ns, hnl, hcs, hws⟩ := ih (cs := cs) (by simpa using hl) (fun i k' h => by
        obtain ⟨m, hm, hw'⟩ := each (i + 1) k' (by simpa using h)
        exact ⟨m, by simpa using hm, hw'⟩)
      refine ⟨n :: ns, by simp [hnl], by simp [hcs], fun x hx => ?_⟩
      simp only [List.zip_cons_cons, List.mem_cons] at hx
      rcases hx with rfl | hx
      · exact hw
      · exact hws x hx
def vmKinds : List IntKind := [.i64, .i64, .i64, .i64, .u64, .u64, .u64, .u64, .u64, .u64, .u64, .u64, .u64, .u64, .u64, .u64, .u64, .u64, .u64, .u64, .i64, .i64, .i64, .u64, .u64]
def insKinds : List IntKind := [.i64, .i64, .i64, .i64, .i32]
def vmLeaves : List TypeId := [3, 3, 3, 3, 30, 30, 30, 30, 30, 30, 30, 30, 30, 30, 30, 30, 30, 30, 30, 30, 3, 3, 3, 30, 30]
def insLeaves : List TypeId := [3, 3, 3, 3, 21]
theorem vm_leaves : leaves Try.prog 5 35 = some vmLeaves := by kernel_rfl
theorem ins_leaves : leaves Try.prog 5 29 = some insLeaves := by kernel_rfl
theorem kinds_of {ts : List TypeId} {ks : List IntKind} (h : ts.map (fun t => if t = 3 then IntKind.i64 else if t = 30 then .u64 else .i32) = ks) (hall : ∀ t ∈ ts, t = 3 ∨ t = 30 ∨ t = 21) :
    ∀ (i : Nat) (k : IntKind), ks[i]? = some k → ∃ t, ts[i]? = some t ∧ Try.prog.underlying t = some (.int k) := by
  intro i k hk
  rw [← h, List.getElem?_map] at hk
  cases ht : ts[i]? with
  | none => rw [ht] at hk; cases hk
  | some t =>
    rw [ht] at hk
    simp only [Option.map_some, Option.some.injEq] at hk
    refine ⟨t, rfl, ?_⟩
    rcases hall t (List.mem_of_getElem? ht) with rfl | rfl | rfl
    · rw [← hk]; exact Try.underlying3
    · rw [← hk]; exact Try.underlying30
    · rw [← hk]; exact Try.underlying21
set_option maxRecDepth 100000 in
theorem vm_arg {v : Value} {d : DataW H} {p : List MemPlace} {r : Reach} {b0 : Nat} (hok : Value.okWide Try.prog w r b0 35 v)
    (h : DataW.Trod enc Try.prog w base (fun _ => true) held 35 v d p) (hs : ∀ n ∈ d.weights Try.prog 35, n ≤ reachBytes) : ∃ x : Vm, v = .agg x.cells ∧ x.typed := by
  obtain ⟨cs, rfl, hsz⟩ := okWide_struct Try.underlying35 hok
  obtain ⟨hl, g⟩ := leaves_open 5 35 vmLeaves cs.toList vm_leaves (Rd.of h hs)
  obtain ⟨ns, hnl, hcs, hw⟩ := ints_open (ks := vmKinds) (kinds_of (ts := vmLeaves) (by decide) (by decide)) (by rw [hl]; rfl) g
  have h25 : ns.length = 25 := hnl
  match ns, h25 with
  | [n0, n1, n2, n3, n4, n5, n6, n7, n8, n9, n10, n11, n12, n13, n14, n15, n16, n17, n18, n19, n20, n21, n22, n23, n24], _ =>
    simp only [vmKinds, List.zip_cons_cons, List.zip_nil_right, List.mem_cons, List.not_mem_nil, or_false, forall_eq_or_imp, forall_eq] at hw
    obtain ⟨_, _, _, _, w4, w5, w6, w7, w8, w9, w10, w11, w12, w13, w14, w15, w16, w17, w18, w19, _, _, _, w23, w24⟩ := hw
    refine ⟨⟨n0, n1, n2, n3, [n4, n5, n6, n7, n8, n9, n10, n11, n12, n13, n14, n15, n16, n17, n18, n19], ⟨n20, n21, n22, n23, n24⟩⟩, ?_, rfl, ?_, wf_u64 w23, wf_u64 w24⟩
    · congr 1
      apply Array.toList_inj.1
      rw [hcs]; rfl
    · intro i
      rcases Nat.lt_or_ge i 16 with hi | hi
      · have h16 : i = 0 ∨ i = 1 ∨ i = 2 ∨ i = 3 ∨ i = 4 ∨ i = 5 ∨ i = 6 ∨ i = 7 ∨ i = 8 ∨ i = 9 ∨ i = 10 ∨ i = 11 ∨ i = 12 ∨ i = 13 ∨ i = 14 ∨ i = 15 := by omega
        rcases h16 with rfl | rfl | rfl | rfl | rfl | rfl | rfl | rfl | rfl | rfl | rfl | rfl | rfl | rfl | rfl | rfl
        · exact wf_u64 w4
        · exact wf_u64 w5
        · exact wf_u64 w6
        · exact wf_u64 w7
        · exact wf_u64 w8
        · exact wf_u64 w9
        · exact wf_u64 w10
        · exact wf_u64 w11
        · exact wf_u64 w12
        · exact wf_u64 w13
        · exact wf_u64 w14
        · exact wf_u64 w15
        · exact wf_u64 w16
        · exact wf_u64 w17
        · exact wf_u64 w18
        · exact wf_u64 w19
      · rw [Vm.r_out _ rfl i hi]; decide
set_option maxRecDepth 100000 in
theorem instrs_arg {v : Value} {d : DataW H} {p : List MemPlace} {r : Reach} {b0 : Nat} (hok : Value.okWide Try.prog w r b0 25 v)
    (h : DataW.Trod enc Try.prog w base (fun _ => true) held 25 v d p) (hs : ∀ n ∈ d.weights Try.prog 25, n ≤ reachBytes) : ∃ q : List Ins, Instrs w v q := by
  obtain ⟨L, hr, hc, _⟩ := open_row Try.underlying25 (by decide +kernel) hok h hs
  obtain ⟨q, rfl, hq⟩ := map_of (fun x : Ins => x.cells.toList) Ins.fits (fun c hcm => by
    obtain ⟨hl, g⟩ := leaves_open 5 29 insLeaves c ins_leaves (hc c hcm)
    obtain ⟨ns, hnl, hcs, hw⟩ := ints_open (ks := insKinds) (kinds_of (ts := insLeaves) (by decide) (by decide)) (by rw [hl]; rfl) g
    have h5 : ns.length = 5 := hnl
    match ns, h5 with
    | [n0, n1, n2, n3, n4], _ =>
      simp only [insKinds, List.zip_cons_cons, List.zip_nil_right, List.mem_cons, List.not_mem_nil, or_false, forall_eq_or_imp, forall_eq] at hw
      exact ⟨⟨n0, n1, n2, n3, n4⟩, hcs, wf_i32 hw.2.2.2.2, wf_i64 hw.1⟩)
  have h5 : Try.prog.cellsOf 29 = 5 := by kernel_rfl
  rw [h5] at hr
  exact ⟨q, hr, hq⟩
set_option maxRecDepth 100000 in
theorem u64s_arg {v : Value} {d : DataW H} {p : List MemPlace} {r : Reach} {b0 : Nat} (hok : Value.okWide Try.prog w r b0 23 v)
    (h : DataW.Trod enc Try.prog w base (fun _ => true) held 23 v d p) (hs : ∀ n ∈ d.weights Try.prog 23, n ≤ reachBytes) : ∃ xs, U64s w v xs := by
  have h1 : Try.prog.cellsOf 30 = 1 := by kernel_rfl
  obtain ⟨L, hr, hc, _⟩ := open_row Try.underlying23 (by rw [h1]; decide) hok h hs
  obtain ⟨xs, rfl, hxs⟩ := map_of (fun x : Int => [Value.int .u64 x]) (fun x => 0 ≤ x ∧ x ≤ 18446744073709551615) (fun c hcm => by
    obtain ⟨n, rfl, hw⟩ := (hc c hcm).one_int Try.underlying30
    exact ⟨n, rfl, wf_u64 hw⟩)
  rw [h1] at hr
  exact ⟨xs, hr, hxs⟩
end
end Go.Proofs.Ytbllialcfmpkaaa
