/-
  KernelFrozen: true for every input; no condition.
-/
import Derived.Test.YtbgdjcoliiinjaaGreatRows
import Derived.Test.YtbgdjcoliiinjaaGreatPkKFLaw
import Derived.Test.YtbgdjcoliiinjaaGreatPkPost
import Derived.ProofKit
import Derived.OpenShut
import Derived.ShutString
import Derived.Carry
import Derived.SizedLaws
import Derived.KernelRfl
namespace Go.Proofs.YtbgdjcoliiinjaaGreat.kernelFrozen
open Go.ChangeShapes Go.WideShapes Go.ChangeAt Go.RowKit
open Go.ChangeMaps (open_string shut_string)

theorem own : ownKnob Tryz.prog.godebug = none := by kernel_rfl
theorem laidOut : laidOutB Tryz.prog = true := by kernel_rfl

set_option maxRecDepth 100000 in
theorem lifted (os : Os) (started : os.Started) (H : Type) (enc : TypeId × Value → H) :
    ReturnsInHanded {} Tryz.checked os 3 .any (Rows.kernelFrozenSpec.pre6 enc Tryz.prog Tryz.f3 Rows.kernelFrozenRow.domain false) (Rows.kernelFrozenSpec.post enc Tryz.prog Tryz.f3 false true false false) := by
  refine returnsInHanded_of_change_sized (C := Tryz.checked) own started (by kernel_rfl) Tryz.func3
    (ChangeSpec.witness6 (enc := enc) (C := Tryz.checked) false ⟨#[], #[.agg #[.int .i64 0, .int .i64 0, .int .i64 0, .int .i64 0, .int .i64 0, .int .i64 0, .int .i64 0, .int .i64 0, .int .i64 0], .agg #[.int .i64 0, .int .i64 0, .int .i64 0, .int .i64 0, .int .i64 0, .int .i64 0, .int .i64 0, .int .i64 0, .int .i64 0], .int .i64 0, .slice none 0 0, .slice none 0 0], []⟩ 8 (by kernel_rfl) (by kernel_rfl) (by kernel_rfl) (by kernel_rfl)) ?_
  intro W base args ds gs before hval0 hW hcnd hsz0 _
  have hval : ∀ (j : Nat) t v, Tryz.f3.params[j]? = some t → args[j]? = some v → Value.okWide Tryz.prog W .any base t v := hval0
  have hW' := hW
  obtain ⟨p, q, hA0, hV, rfl, hfz, hnd⟩ := hW
  have hA : DataW.TrodAll enc Tryz.prog W 0 (fun _ => true) true Tryz.f3.params.toList args.toList ds p := hA0
  rw [Tryz.params3] at hA hval
  obtain ⟨v0, vs0, d0, ds0, p0, q0, hargs, rfl, rfl, h0, r0⟩ := trodAll_cons hA
  obtain ⟨v1, vs1, d1, ds1, p1, q1, rfl, rfl, rfl, h1, r1⟩ := trodAll_cons r0
  obtain ⟨v2, vs2, d2, ds2, p2, q2, rfl, rfl, rfl, h2, r2⟩ := trodAll_cons r1
  obtain ⟨v3, vs3, d3, ds3, p3, q3, rfl, rfl, rfl, h3, r3⟩ := trodAll_cons r2
  obtain ⟨v4, vs4, d4, ds4, p4, q4, rfl, rfl, rfl, h4, r4⟩ := trodAll_cons r3
  obtain ⟨rfl, rfl, rfl⟩ := trodAll_nil r4
  obtain rfl : args = #[v0, v1, v2, v3, v4] := by cases args; simp_all
  obtain ⟨rfl, rfl⟩ := trodVars_none hV
  have ok0 : Value.okWide Tryz.prog W .any base 23 v0 := hval 0 23 v0 rfl rfl
  have lt0 : ∀ x ∈ p0, x.block < W.heap.size := by obtain ⟨m, hm⟩ := h0; exact DataW.trod_lt m _ _ _ hm
  have ok1 : Value.okWide Tryz.prog W .any base 23 v1 := hval 1 23 v1 rfl rfl
  have lt1 : ∀ x ∈ p1, x.block < W.heap.size := by obtain ⟨m, hm⟩ := h1; exact DataW.trod_lt m _ _ _ hm
  obtain ⟨a2, rfl, rfl, rfl, w2⟩ := open_int Tryz.underlying3 (hval 2 3 v2 rfl rfl) h2
  have ok3 : Value.okWide Tryz.prog W .any base 24 v3 := hval 3 24 v3 rfl rfl
  have lt3 : ∀ x ∈ p3, x.block < W.heap.size := by obtain ⟨m, hm⟩ := h3; exact DataW.trod_lt m _ _ _ hm
  have ok4 : Value.okWide Tryz.prog W .any base 25 v4 := hval 4 25 v4 rfl rfl
  have lt4 : ∀ x ∈ p4, x.block < W.heap.size := by obtain ⟨m, hm⟩ := h4; exact DataW.trod_lt m _ _ _ hm
  have sz0 : ∀ n ∈ d0.weights Tryz.prog 23, n ≤ reachBytes := fun n hn => by simpa using List.all_eq_true.1 hsz0 n (DataW.weights_mem_each (j := 0) (t := 23) (d := d0) rfl rfl n hn)
  have sz1 : ∀ n ∈ d1.weights Tryz.prog 23, n ≤ reachBytes := fun n hn => by simpa using List.all_eq_true.1 hsz0 n (DataW.weights_mem_each (j := 1) (t := 23) (d := d1) rfl rfl n hn)
  have sz3 : ∀ n ∈ d3.weights Tryz.prog 24, n ≤ reachBytes := fun n hn => by simpa using List.all_eq_true.1 hsz0 n (DataW.weights_mem_each (j := 3) (t := 24) (d := d3) rfl rfl n hn)
  have sz4 : ∀ n ∈ d4.weights Tryz.prog 25, n ≤ reachBytes := fun n hn => by simpa using List.all_eq_true.1 hsz0 n (DataW.weights_mem_each (j := 4) (t := 25) (d := d4) rfl rfl n hn)
  clear hA0 hval0 hsz0
  have call : Calls Tryz.prog 3 #[v0, v1, .int .i64 a2, v3, v4] W fun e w' => e = .returned (.bool true) ∧ Below W.heap.size W w' := by
    exact kernelFrozen_any W (wish_arg ok0 h0 sz0 _) (wish_arg ok1 h1 sz1 _) (wrap_of_wf (by simpa using w2)) (raws_arg ok3 h3 sz3) (steps_arg ok4 h4 sz4)
  refine call.mono fun e W' ⟨he, hg⟩ => ?_
  subst he
  exact ⟨_, rfl, post_below (pv := []) hW' (fun _ _ _ => (trodAll_cons_mk (shut_bool Tryz.underlying4 _) trodAll_mk0)) (fun sp hsp => (trodAll_cons_mk (WideElems.Trod_stays laidOut (by kernel_rfl) (of_decide_eq_true (by kernel_rfl)) h0 (fun x hx => hg.same (lt0 x hx)) (fun x hx => hsp x (by simp [hx]))) (trodAll_cons_mk (WideElems.Trod_stays laidOut (by kernel_rfl) (of_decide_eq_true (by kernel_rfl)) h1 (fun x hx => hg.same (lt1 x hx)) (fun x hx => hsp x (by simp [hx]))) (trodAll_cons_mk (shut_int Tryz.underlying3 w2) (trodAll_cons_mk (WideElems.Trod_stays laidOut (by kernel_rfl) (of_decide_eq_true (by kernel_rfl)) h3 (fun x hx => hg.same (lt3 x hx)) (fun x hx => hsp x (by simp [hx]))) (trodAll_cons_mk (WideElems.Trod_stays laidOut (by kernel_rfl) (of_decide_eq_true (by kernel_rfl)) h4 (fun x hx => hg.same (lt4 x hx)) (fun x hx => hsp x (by simp [hx]))) trodAll_mk0)))))) (fun _ _ => rfl) rfl hg (ok_one (by kernel_rfl) rfl (okWide_bool_mk Tryz.underlying4 _))⟩

set_option maxRecDepth 100000 in
theorem c_wf : Rows.kernelFrozenRow.wf (OpenSpec.ofChange Rows.kernelFrozenSpec) = true := by kernel_rfl
set_option maxRecDepth 100000 in
theorem c_maps : mapsRowed Tryz.prog = true := by kernel_rfl
set_option maxRecDepth 100000 in
theorem c_inPlace : (Rows.kernelFrozenRow.inPlace == Tryz.prog.inPlace 3) = true := by kernel_rfl
set_option maxRecDepth 100000 in
theorem c_unf : (Rows.kernelFrozenRow.unfollowed == Tryz.prog.unfollowed 3) = true := by kernel_rfl
set_option maxRecDepth 100000 in
theorem c_rec : (Rows.kernelFrozenRow.recurses == Tryz.prog.recurses 3) = true := by kernel_rfl
set_option maxRecDepth 100000 in
theorem c_named : (Rows.kernelFrozenRow.named == Tryz.prog.varsNamed 3) = true := by kernel_rfl
set_option maxRecDepth 100000 in
theorem c_heard : Tryz.prog.stopsHeard = true := by kernel_rfl
set_option maxRecDepth 100000 in
theorem c_may : Tryz.prog.mayEnter = true := by kernel_rfl
set_option maxRecDepth 100000 in
theorem c_lift : (Rows.kernelFrozenRow.lifted == Tryz.prog.liftsFinal) = true := by kernel_rfl
set_option maxRecDepth 100000 in
theorem c_plain : (Rows.kernelFrozenRow.plainKeys == Tryz.prog.plainKeys) = true := by kernel_rfl
set_option maxRecDepth 100000 in
theorem closed : joinedFacts Tryz.prog 3 Tryz.f3 Rows.kernelFrozenSpec Rows.kernelFrozenRow = true := by
  unfold joinedFacts
  simp only [Bool.and_eq_true]
  and_intros <;> first | with_reducible exact laidOut | with_reducible exact c_wf | with_reducible exact c_maps | with_reducible exact c_inPlace | with_reducible exact c_unf | with_reducible exact c_rec | with_reducible exact c_named | with_reducible exact c_heard | with_reducible exact c_may | with_reducible exact c_lift | with_reducible exact c_plain | kernel_rfl

theorem over : Rows.kernelFrozenRow.holds Tryz.pinned (OpenSpec.ofChange Rows.kernelFrozenSpec) :=
  OpenClaim.holds_of_wide 3 Tryz.f3 rfl rfl rfl rfl rfl rfl rfl ⟨rfl, rfl, rfl, rfl, rfl⟩ rfl rfl rfl rfl rfl (by kernel_rfl) Tryz.func3 closed
    (of_decide_eq_true (by kernel_rfl)) (by unfold Func.isWrapper; first | (rw [if_pos (by decide +kernel)]; kernel_rfl) | (rw [if_neg (by decide +kernel)]; exact ⟨rfl, rfl⟩))
    (fun os started H enc _ => lifted os started H enc)

theorem proved : Rows.KernelFrozenSaid :=
  over
#print axioms proved
end Go.Proofs.YtbgdjcoliiinjaaGreat.kernelFrozen
