/- Merged: KSArg, KFTail. -/
import Derived.Test.YtbgdjcoliiinjaaGreatPkKdC
import Derived.Test.YtbgdjcoliiinjaaGreatPkArgs
import Derived.Test.YtbgdjcoliiinjaaGreatPkEvG
import Derived.Test.YtbgdjcoliiinjaaGreatPkKAw
set_option linter.unusedVariables false
set_option linter.unusedSimpArgs false
set_option linter.unusedSectionVars false
namespace Go.Proofs.YtbgdjcoliiinjaaGreat
section
open Go Go.RowKit Go.BigFrame Go.ChangeShapes Go.WideShapes
theorem okWide_cap {P : Program} {w : World} {r : Reach} {base : Nat} {t e : TypeId} {v : Value} (ht : P.underlying t = some (.slice e)) (h : Value.okWide P w r base t v) : ∃ a n c, v = .slice a n c ∧ n ≤ c ∧ c ≤ maxLen := by
  simp only [Value.okWide, ht, Cell.okWide] at h
  cases v with
  | slice a n c =>
    refine ⟨a, n, c, rfl, ?_⟩
    cases a with
    | none =>
      cases n with
      | zero =>
        cases c with
        | zero => exact ⟨Nat.le_refl _, Nat.zero_le _⟩
        | succ c => simp [Cell.ok, ht] at h
      | succ n => simp [Cell.ok, ht] at h
    | some a =>
      simp only [Cell.ok, ht] at h
      refine ⟨h.1, ?_⟩
      have h2 := h.2.1
      unfold maxLen
      simp [IntKind.max, IntKind.signed, IntKind.bits] at h2
      omega
  | _ => simp_all [Cell.ok]
/-- Rows that are what their type says are data. -/
theorem row_BS {w : World} {v : Value} {j : Nat} {L : List (List Value)} (hcap : ∃ a n c, v = .slice a n c ∧ n ≤ c ∧ c ≤ maxLen) (h : Row w v (RT j).length L)
    (hL : ∀ c ∈ L, ∀ (i : Nat) (ct : CT), (RT j)[i]? = some ct → ∃ u, c[i]? = some u ∧ BC (zAll w) ct u) : BS (zAll w) j L.length v := by
  obtain ⟨hm, h⟩ := h
  rcases h with ⟨rfl, a, c, rfl⟩ | ⟨b, off, cap, rfl, h0, hl, hmx, hb, hc⟩
  · obtain ⟨a', n', c', e, h1, h2⟩ := hcap
    cases e
    exact .mk (fun _ _ => undef) (Nat.zero_le _) h2 (fun h => absurd h (Nat.lt_irrefl _)) (fun q i ct hq => absurd hq (Nat.not_lt_zero _))
  · have row : ∀ q, q < L.length → L[q]? = some (L.getD q []) := fun q hq => by rw [List.getD_eq_getElem?_getD, List.getElem?_eq_getElem hq]; rfl
    have val : ∀ q i ct, q < L.length → (RT j)[i]? = some ct → (L.getD q [])[i]? = some ((L.getD q []).getD i undef) ∧ BC (zAll w) ct ((L.getD q []).getD i undef) := fun q i ct hq hi => by
      obtain ⟨u, hu, hbc⟩ := hL _ (List.mem_of_getElem? (row q hq)) i ct hi
      rw [List.getD_eq_getElem?_getD (l := L.getD q []), hu]
      exact ⟨rfl, hbc⟩
    refine .mk (fun q i => (L.getD q []).getD i undef) hl hmx (fun _ => ⟨b, off, rfl, fun q i hq hi => ?_⟩) fun q i ct hq hi => (val q i ct hq hi).2
    exact cell_zc (hc q _ i _ (row q hq) (val q i _ hq (List.getElem?_eq_getElem hi)).1)
theorem wrap_of_wf {n : Int} (h : (Lit.int .i64 n).wf = true) : IntKind.i64.wrap n = n := by
  simp [Lit.wf, IntKind.min, IntKind.max, IntKind.signed, IntKind.bits] at h
  simp only [IntKind.wrap, IntKind.bits, IntKind.signed]
  simp
  omega
section
variable {H : Type} {enc : TypeId × Value → H} {w : World} {base : Nat} {held : Bool}
theorem step_leaves : leaves Tryz.prog 3 141 = some ([4] ++ List.replicate 8 3 ++ [4]) := by kernel_rfl
set_option maxRecDepth 100000 in
theorem steps_arg {v : Value} {d : DataW H} {p : List MemPlace} {r : Reach} {b0 : Nat} (hok : Value.okWide Tryz.prog w r b0 25 v)
    (h : DataW.Trod enc Tryz.prog w base (fun _ => true) held 25 v d p) (hs : ∀ n ∈ d.weights Tryz.prog 25, n ≤ reachBytes) : ∃ n, n ≤ maxLen ∧ BS (zAll w) 4 n v := by
  obtain ⟨L, hr, hc, _⟩ := open_row Tryz.underlying25 (by decide +kernel) hok h hs
  have h3 : Tryz.prog.cellsOf 141 = 10 := by kernel_rfl
  rw [h3] at hr
  refine ⟨L.length, hr.1, row_BS (j := 4) (okWide_cap Tryz.underlying25 hok) hr fun c hcm i ct hi => ?_⟩
  obtain ⟨hl, g⟩ := leaves_open 3 141 _ c step_leaves (hc c hcm)
  have bool : ∀ q : Nat, ([4] ++ List.replicate 8 3 ++ [4])[q]? = some 4 → ∃ u, c[q]? = some u ∧ BC (zAll w) .bool u := fun q hq => by
    obtain ⟨v0, h0, hL0⟩ := g q 4 hq
    obtain ⟨b, rfl⟩ := hL0.bool Tryz.underlying4
    exact ⟨_, h0, .bool b⟩
  have int : ∀ q : Nat, ([4] ++ List.replicate 8 3 ++ [4])[q]? = some 3 → ∃ u, c[q]? = some u ∧ BC (zAll w) (.int .i64) u := fun q hq => by
    obtain ⟨v0, h0, hL0⟩ := g q 3 hq
    obtain ⟨n0, rfl, hw⟩ := hL0.int Tryz.underlying3
    exact ⟨_, h0, .int (wrap_of_wf hw)⟩
  match i, hi with
  | 0, hi => cases hi; exact bool 0 rfl
  | 1, hi => cases hi; exact int 1 rfl
  | 2, hi => cases hi; exact int 2 rfl
  | 3, hi => cases hi; exact int 3 rfl
  | 4, hi => cases hi; exact int 4 rfl
  | 5, hi => cases hi; exact int 5 rfl
  | 6, hi => cases hi; exact int 6 rfl
  | 7, hi => cases hi; exact int 7 rfl
  | 8, hi => cases hi; exact int 8 rfl
  | 9, hi => cases hi; exact bool 9 rfl
  | i + 10, hi => cases hi
set_option maxRecDepth 100000 in
theorem raws_arg {v : Value} {d : DataW H} {p : List MemPlace} {r : Reach} {b0 : Nat} (hok : Value.okWide Tryz.prog w r b0 24 v)
    (h : DataW.Trod enc Tryz.prog w base (fun _ => true) held 24 v d p) (hs : ∀ n ∈ d.weights Tryz.prog 24, n ≤ reachBytes) : ∃ a n c, v = .slice a n c ∧ n ≤ maxLen ∧ BS (zAll w) 7 n v := by
  obtain ⟨L, hr, hc, _⟩ := open_row Tryz.underlying24 (by decide +kernel) hok h hs
  have h3 : Tryz.prog.cellsOf 3 = 1 := by kernel_rfl
  rw [h3] at hr
  have hcap := okWide_cap Tryz.underlying24 hok
  have hb : BS (zAll w) 7 L.length v := row_BS (j := 7) hcap hr fun c hcm i ct hi => by
    obtain ⟨hl, g⟩ := leaves_open 3 3 [3] c (by kernel_rfl) (hc c hcm)
    obtain ⟨v0, h0, hL0⟩ := g 0 3 rfl
    obtain ⟨n0, rfl, hw⟩ := hL0.int Tryz.underlying3
    match i, hi with
    | 0, hi => cases hi; exact ⟨_, h0, .int (wrap_of_wf hw)⟩
    | i + 1, hi => cases hi
  obtain ⟨a, c, rfl, _⟩ := hb.row
  exact ⟨a, _, c, rfl, hr.1, hb⟩
end
end
section
open Go Go.RowKit Go.BigFrame
set_option maxRecDepth 100000 in
theorem frozen_long {kind : Int} {wv vv u : Value} {a : Option Addr} {n c : Nat} (W : World) (hm : n ≤ maxLen) (h60 : ¬ n ≤ 60) :
    Calls Tryz.prog 3 #[wv, vv, .int .i64 kind, .slice a n c, u] W fun e w' => e = .returned (.bool true) ∧ Below W.heap.size W w' := by
  unfold maxLen at hm
  have KN := Kn.start W
  go_enter Tryz.func3, Tryz.ntmps3
  go_wp2_with (first | (refine wpList_kn_box KN (by rfl) 23 _ rfl 5 rfl wv rfl wv.cells rfl ?_; clear KN; intro g5 wx hg5 KN) | (refine wpList_kn_box KN (by rfl) 23 _ rfl 6 rfl vv rfl vv.cells rfl ?_; clear KN; intro g6 wx hg6 KN) | (go_at_call 7; refine (awake27 _).mono ?_; rintro e wx ⟨rfl, hbl⟩; replace KN := KN.below hbl))
  go_ret
  exact ⟨rfl, KN.toBelow⟩
end
end Go.Proofs.YtbgdjcoliiinjaaGreat
