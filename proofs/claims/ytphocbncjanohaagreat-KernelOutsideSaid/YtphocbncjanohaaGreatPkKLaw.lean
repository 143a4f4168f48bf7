/- KernelOutside: its arguments; the law. -/
import Derived.Test.YtphocbncjanohaaGreatPkKRun
import Derived.Test.YtphocbncjanohaaGreatPkArgs
import Derived.Test.YtphocbncjanohaaGreatPkEvG
set_option linter.unusedVariables false
set_option linter.unusedSimpArgs false
set_option linter.unusedSectionVars false
namespace Go.Proofs.YtphocbncjanohaaGreat
open Go Go.RowKit Go.BigFrame Go.ChangeShapes Go.WideShapes
/-- All cells are i64 ints. -/
def AllInt (c : List Value) : Prop := ∀ u ∈ c, ∃ m : Int, u = .int .i64 m ∧ IntKind.i64.wrap m = m
theorem wrap_of_wf {n : Int} (h : (Lit.int .i64 n).wf = true) : IntKind.i64.wrap n = n := by
  simp [Lit.wf, IntKind.min, IntKind.max, IntKind.signed, IntKind.bits] at h
  simp only [IntKind.wrap, IntKind.bits, IntKind.signed]
  simp
  omega
section
variable {H : Type} {enc : TypeId × Value → H} {w : World} {base : Nat} {held : Bool}
theorem wish_leaves : leaves Tryz.prog 3 36 = some (List.replicate 9 3) := by kernel_rfl
theorem acall_leaves : leaves Tryz.prog 3 24 = some (List.replicate 12 3) := by kernel_rfl
set_option maxRecDepth 100000 in
theorem wishes_arg {v : Value} {d : DataW H} {p : List MemPlace} {r : Reach} {b0 : Nat} (hok : Value.okWide Tryz.prog w r b0 22 v)
    (h : DataW.Trod enc Tryz.prog w base (fun _ => true) held 22 v d p) (hs : ∀ n ∈ d.weights Tryz.prog 22, n ≤ reachBytes) : ∃ L : List (List Value), Row w v 9 L ∧ ∀ c ∈ L, c.length = 9 ∧ AllInt c := by
  obtain ⟨L, hr, hc, _⟩ := open_row Tryz.underlying22 (by decide +kernel) hok h hs
  have h3 : Tryz.prog.cellsOf 36 = 9 := by kernel_rfl
  rw [h3] at hr
  refine ⟨L, hr, fun c hcm => ?_⟩
  obtain ⟨hl, g⟩ := leaves_open 3 36 (List.replicate 9 3) c wish_leaves (hc c hcm)
  have hl : c.length = 9 := by simpa using hl
  refine ⟨hl, fun u hu => ?_⟩
  obtain ⟨i, hi, rfl⟩ := List.mem_iff_getElem.1 hu
  obtain ⟨v0, h0, hL0⟩ := g i 3 (by rw [List.getElem?_replicate, if_pos (by omega)])
  obtain ⟨n0, rfl, hw⟩ := hL0.int Tryz.underlying3
  rw [List.getElem?_eq_getElem hi] at h0
  exact ⟨n0, Option.some.inj h0, wrap_of_wf hw⟩
set_option maxRecDepth 100000 in
theorem acall_arg {v : Value} {d : DataW H} {p : List MemPlace} {r : Reach} {b0 : Nat} (hok : Value.okWide Tryz.prog w r b0 24 v)
    (h : DataW.Trod enc Tryz.prog w base (fun _ => true) held 24 v d p) (hs : ∀ n ∈ d.weights Tryz.prog 24, n ≤ reachBytes) : ∃ cs, v = .agg cs ∧ cs.size = 12 ∧ AllInt cs.toList := by
  obtain ⟨cs, rfl, hsz⟩ := okWide_struct Tryz.underlying24 hok
  obtain ⟨hl, g⟩ := leaves_open 3 24 (List.replicate 12 3) cs.toList acall_leaves (Rd.of h hs)
  have hl : cs.toList.length = 12 := by simpa using hl
  refine ⟨cs, rfl, by simpa using hl, fun u hu => ?_⟩
  obtain ⟨i, hi, rfl⟩ := List.mem_iff_getElem.1 hu
  obtain ⟨v0, h0, hL0⟩ := g i 3 (by rw [List.getElem?_replicate, if_pos (by omega)])
  obtain ⟨n0, rfl, hw⟩ := hL0.int Tryz.underlying3
  rw [List.getElem?_eq_getElem hi] at h0
  exact ⟨n0, Option.some.inj h0, wrap_of_wf hw⟩
end
theorem ints_at {W : World} {v : Value} {L : List (List Value)} (h : Row W v 9 L) (hL : ∀ c ∈ L, c.length = 9 ∧ AllInt c) : ∃ a n c, v = .slice a n c ∧ n ≤ maxLen ∧ (0 < n → ∃ g o, a = some ⟨g, o, none⟩ ∧ IntsAt W g o (n * 9)) := by
  rcases h.2 with ⟨_, a, c, rfl⟩ | ⟨b, off, cap, rfl, h0, hl, hm, hb, hc⟩
  · exact ⟨a, 0, c, rfl, Nat.zero_le _, fun q => absurd q (Nat.lt_irrefl 0)⟩
  · refine ⟨_, _, _, rfl, h.1, fun _ => ⟨b, off, rfl, hb, fun i hi => ?_⟩⟩
    have h1 : i / 9 < L.length := by omega
    obtain ⟨hlen, hall⟩ := hL L[i / 9] (List.getElem_mem h1)
    have h2 : i % 9 < (L[i / 9]).length := by rw [hlen]; omega
    obtain ⟨m, hm1, hm2⟩ := hall _ (List.getElem_mem h2)
    refine ⟨m, ?_, hm2⟩
    have := hc (i / 9) L[i / 9] (i % 9) _ (List.getElem?_eq_getElem h1) (List.getElem?_eq_getElem h2)
    rw [hm1] at this
    rw [← this]
    congr 2
    omega
/-- The law, for any list of wishes and any call. -/
theorem kernelOutside_any {v u : Value} {L : List (List Value)} {cs : Array Value} (W : World) (h : Row W v 9 L) (hL : ∀ c ∈ L, c.length = 9 ∧ AllInt c) (hu : u = .agg cs) (hsz : cs.size = 12) (hcs : AllInt cs.toList) :
    Calls Tryz.prog 3 #[v, u] W fun e w' => e = .returned (.bool true) ∧ Below W.heap.size W w' := by
  obtain ⟨a, n, c, rfl, hn, hi⟩ := ints_at h hL
  subst hu
  let ρ : Names := ⟨fun _ => none, (W, fun _ => .slice a n c)⟩
  refine Calls.mono (runL_ok 29 [0, 9, 11, 13, 14, 29, 36] [0, 9, 11, 13, 14, 36] _ _ st0 _ outside_run W (fun _ => False) ρ _ W [] ?_ (fun g hg => absurd hg (Nat.not_lt_zero g)) (sim0 W _)) fun e w' hh => ?_
  · refine ⟨rfl, fun i x y hx hy => ?_⟩
    have a1 : VR ρ (symSX 0 0 9).toV (.slice a n c) := .symS (i := 0) (lo := 0) (sz := 9) rfl (Nat.zero_le _) hn (by omega) hi
    have a2 : VR ρ (X.agg (List.replicate 12 anyI64)).toV (.agg cs) := by
      refine .agg (by simp [hsz]) fun j x y hx hy => ?_
      have hx : ((List.replicate 12 anyI64).map V.toV).toArray[j]? = some x := hx
      have hj : j < 12 := by have := (Array.getElem?_eq_some_iff.1 hx).1; simpa using this
      have hx2 : x = anyI64.toV := by
        rw [List.getElem?_toArray, List.getElem?_map, List.getElem?_replicate, if_pos hj] at hx
        exact (Option.some.inj hx).symm
      obtain ⟨m, rfl, hw⟩ := hcs y (List.mem_of_getElem? (by rw [Array.getElem?_toList]; exact hy))
      rw [hx2]
      exact .anyI (k := .i64) hw
    match i, hx, hy with
    | 0, hx, hy => cases hx; cases hy; exact a1
    | 1, hx, hy => cases hx; cases hy; exact a2
    | i + 2, hx, hy => cases hx
  · obtain ⟨x, st', ρ', v', l', hk, rfl, hle, hv, hs⟩ := hh
    have := isTrue_eq hk
    subst this
    rw [bool_real hv]
    exact ⟨rfl, hs.below⟩
end Go.Proofs.YtphocbncjanohaaGreat
