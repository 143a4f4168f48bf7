/- Merged: JAwake, JFrame, JFrame2. -/
import Derived.Test.YtgeikngjemlknaaGreatPkEngH
import Derived.Test.YtgeikngjemlknaaGreatProg
import Derived.Test.YtgeikngjemlknaaGreatPkJoinA
set_option linter.unusedVariables false
set_option linter.unusedSimpArgs false
set_option linter.unusedSectionVars false
namespace Go.Proofs.YtgeikngjemlknaaGreat
section
open Go Go.RowKit Go.BigFrame
set_option maxRecDepth 100000
theorem hN : NoNum Tryz.prog := noNum_of (by kernel_rfl)
theorem hmix : Tryz.prog.follows .mixedOrders = true := by kernel_rfl
noncomputable def runA : Fns := runF Tryz.prog hN 0 3000 (fun _ => none) 60
theorem awake_run : runA 17 [] st0 isTrue = true := by kernel_rfl
theorem awake26 (w : World) : Calls Tryz.prog 17 #[] w fun e w' => e = .returned (.bool true) ∧ Below w.heap.size w w' :=
  calls_true (runF_ok hN hmix (fun _ _ h => by cases h) 60) awake_run w
end
section
open Go Go.RowKit Go.BigFrame
noncomputable def hookU : FuncId → Option FnC := fun f => cond (Nat.beq f 166) (some (collectC 168 3)) none
theorem hookU_ok : ∀ f h, hookU f = some h → FnOk Tryz.prog 0 f h := by
  intro f h hh
  unfold hookU at hh
  cases hb : Nat.beq f 166 with
  | false => rw [hb] at hh; cases hh
  | true =>
    rw [hb] at hh
    cases hh
    rw [Nat.eq_of_beq_eq_true hb]
    exact collectC_ok
noncomputable def runU : Fns := runF Tryz.prog hN 0 3000 hookU 60
theorem runU_ok : FnsOk Tryz.prog 0 runU := runF_ok hN hmix hookU_ok 60
noncomputable def placeM : FnP := placeP (fnP Tryz.prog 0 3000 (fun D => fastCls Tryz.prog hN 0 D) (fun N D c ops => drawC N D c ops) 5).f
theorem placeM_ok : FnOkP Tryz.prog 0 5 placeM := placeP_ok (fnP_ok hN _ (fun _ _ hND c ops => drawC_ok hmix hND c ops) _)
noncomputable def hookP : FuncId → Option FnP := fun f =>
  cond (Nat.beq f 5) (some placeM)
  (cond (Nat.beq f 17) (some (fun F _ args st k => trueC F args st k))
  (cond (Nat.beq f 166) (some (fun F _ args st k => collectC 168 3 F args st k)) none))
theorem hookP_ok : ∀ f h, hookP f = some h → FnOkP Tryz.prog 0 f h := by
  intro f h hh
  unfold hookP at hh
  cases h1 : Nat.beq f 5 with
  | true =>
    rw [h1] at hh
    cases hh
    rw [Nat.eq_of_beq_eq_true h1]
    exact placeM_ok
  | false =>
    rw [h1, cond_false] at hh
    cases h2 : Nat.beq f 17 with
    | true =>
      rw [h2] at hh
      cases hh
      rw [Nat.eq_of_beq_eq_true h2]
      exact (trueC_ok awake26).p
    | false =>
      rw [h2, cond_false] at hh
      cases h3 : Nat.beq f 166 with
      | true =>
        rw [h3] at hh
        cases hh
        rw [Nat.eq_of_beq_eq_true h3]
        exact collectC_ok.p
      | false => rw [h3] at hh; cases hh
noncomputable def runJ : Fns := runP Tryz.prog hN 0 3000 runU hookP 60
theorem runJ_ok : FnsOkP Tryz.prog 0 runJ := runP_ok hN hmix runU_ok hookP_ok 60
end
section
open Go Go.RowKit Go.BigFrame
noncomputable def joinArgs4 (n k j r : Nat) : List X := [modX 4 (n - 1), modX n k, modX (n + 1) j, modX 2 r]
/-- The law at cores that come to n, a sponsor that comes to k, a mover that comes to j, a region that comes to q. -/
theorem joins_of4 {n k j q : Nat} (h : runJ 4 (joinArgs4 n k j q) st0 isTrue = true) (c s m r : Int) (hc : IntKind.i64.wrap c = c) (hs : IntKind.i64.wrap s = s) (hm : IntKind.i64.wrap m = m) (hr : IntKind.i64.wrap r = r)
    (e1 : c % (4 : Nat) = ((n - 1 : Nat) : Int)) (e2 : s % (n : Nat) = (k : Nat)) (e3 : m % ((n + 1 : Nat) : Int) = (j : Nat)) (e4 : r % (2 : Nat) = (q : Nat)) (w : World) :
    Calls Tryz.prog 4 #[.int .i64 c, .int .i64 s, .int .i64 m, .int .i64 r] w fun e w' => e = .returned (.bool true) ∧ Below w.heap.size w w' := by
  refine Calls.mono (runJ_ok _ _ st0 _ h w (fun _ => False) (noNames w) _ w [] ?_ (fun g hg => absurd hg (Nat.not_lt_zero g)) (sim0 w _)) fun e w' hh => ?_
  · refine ⟨rfl, fun i x y hx hy => ?_⟩
    have a1 : VR (noNames w) (modX 4 (n - 1)).toV (.int .i64 c) := .modI e1 hc
    have a2 : VR (noNames w) (modX n k).toV (.int .i64 s) := .modI e2 hs
    have a3 : VR (noNames w) (modX (n + 1) j).toV (.int .i64 m) := .modI e3 hm
    have a4 : VR (noNames w) (modX 2 q).toV (.int .i64 r) := .modI e4 hr
    match i, hx, hy with
    | 0, hx, hy => cases hx; cases hy; exact a1
    | 1, hx, hy => cases hx; cases hy; exact a2
    | 2, hx, hy => cases hx; cases hy; exact a3
    | 3, hx, hy => cases hx; cases hy; exact a4
    | i + 4, hx, hy => cases hx
  · obtain ⟨x, st', ρ', v', l', hk, rfl, hle, hv, hs⟩ := hh
    have := isTrue_eq hk
    subst this
    rw [bool_real hv]
    exact ⟨rfl, hs.below⟩
end
end Go.Proofs.YtgeikngjemlknaaGreat
