/- slices.Collect at ints (laid by the shelf's tool, in plain words); slices.Sorted of slices.Values of a nil slice. -/
import Derived.Shelf.SlIterI.Collect
import Derived.Ground.GgzProg
import Derived.Test.YtpjejaoobbancaaPkVNext
set_option linter.unusedVariables false
set_option linter.unusedSimpArgs false
set_option linter.unusedSectionVars false
namespace Go.Proofs.Ytpjejaoobbancaa
open Go.RowKit Go.BigFrame Go.Maps Go.Sort Go.Shelf

def collectA_ren : Go.Shelf.Ren := ⟨fun | 8 => 57 | 11 => 72 | n => n, fun | 26 => 3 | 28 => 80 | 24 => 22 | 0 => 0 | 33 => 75 | 4 => 4 | n => n, fun | n => n⟩
theorem collectA : Go.Proofs.SlLaysZI.n8 Try.prog collectA_ren := {
  mixed := by kernel_rfl
  f8 := ⟨Try.f57.name, by decide, Try.func57.trans (congrArg some (by kernel_rfl))⟩
  f11 := ⟨Try.f72.name, by decide, Try.func72.trans (congrArg some (by kernel_rfl))⟩
  t0 := Try.underlying0
  a0 := Try.isAgg0
  z0 := Try.sizeOf0
  v0 := Try.zeroValue0
  t24 := Try.underlying22
  a24 := Try.isAgg22
  z24 := Try.sizeOf22
  v24 := Try.zeroValue22
  t26 := Try.underlying3
  a26 := Try.isAgg3
  z26 := Try.sizeOf3
  v26 := Try.zeroValue3
  t28 := Try.underlying80
  a28 := Try.isAgg80
  z28 := Try.sizeOf80
  v28 := Try.zeroValue80
  i26 := by kernel_rfl }

set_option maxRecDepth 100000 in
theorem values1_nil (n : Nat) (l B : Nat) (J : List Int → World → Prop) (W : World) (hm : W.cell? ⟨B, 0, none⟩ = some (.slice none 0 0)) (h0 : J [] W) :
    CallsIn Fence.wide n Try.prog 59 #[.func (.yield l) #[] #[], .pointer (some ⟨B, 0, none⟩)] W fun e W' => (∃ v, e = .returned v) ∧ ∃ ss : List Int, ss = [] ∧ J ss W' := by
  refine callsIn_of_wp Try.func59 rfl trivial ?_ rfl
  simp only [Try.ntmps59, List.size_toArray, List.length_cons, List.length_nil, Nat.reduceAdd, Nat.reduceSub, Array.replicate_succ, Array.replicate_zero, List.push_toArray, List.append_toArray, List.nil_append, List.cons_append]
  gi_wp2
  refine wpIn_loop_rounds 1 ?_
  rw [roundsIn_succ]
  gi_wp2
  go_end0
  exact ⟨⟨_, rfl⟩, [], rfl, h0⟩
theorem insSort_nil (w : World) : Calls Try.prog 82 #[.slice none 0 0, .int .i64 0, .int .i64 0] w fun e w' => e = .returned (.tuple #[]) ∧ w = w' := by
  go_enter Try.func82, Try.ntmps82
  go_wp2
  go_loop [6] (fun i => i = .int .i64 1) (fun _ => 0)
  case atStart => rfl
  case round =>
    subst hrel
    go_wp2
    first | go_end0 | refine bodyPost_ret (results_none rfl _ _ _) rfl ?_
    exact ⟨rfl, rfl⟩
theorem pdq_nil (n : Nat) (h1 : 1 ≤ n) (w : World) : CallsIn Fence.wide n Try.prog 73 #[.slice none 0 0, .int .i64 0, .int .i64 0, .int .i64 0] w fun e w' => e = .returned (.tuple #[]) ∧ w = w' := by
  refine callsIn_of_wp Try.func73 rfl trivial ?_ rfl
  simp only [Try.ntmps73, List.size_toArray, List.length_cons, List.length_nil, Nat.reduceAdd, Nat.reduceSub, Array.replicate_succ, Array.replicate_zero, List.push_toArray, List.append_toArray, List.nil_append, List.cons_append]
  gi_wp2
  refine wpIn_loop_rounds 1 ?_
  rw [roundsIn_succ]
  have hfw : Fence.wide.fn 82 := trivial
  gi_wp2_with (gi_at_call 82; refine (callsIn_wide.2 (insSort_nil _)).mono ?_; rintro e wx ⟨rfl, rfl⟩)
  refine bodyPost_ret (results_none rfl _ _ _) rfl ?_
  exact ⟨rfl, rfl⟩
set_option maxRecDepth 100000 in
theorem len64_zero (w : World) : Calls Try.prog 91 #[.int .u64 0] w fun e w' => e = .returned (.int .i64 0) ∧ w = w' := by
  go_enter Try.func91, Try.ntmps91
  go_wp2
  go_ret
  refine ⟨?_, ?_⟩

  all_goals kernel_rfl
theorem len_zero (w : World) : Calls Try.prog 74 #[.int .u64 0] w fun e w' => e = .returned (.int .i64 0) ∧ w = w' := by
  go_enter Try.func74, Try.ntmps74
  go_wp2_with (go_at_call 91; refine (len64_zero _).mono ?_; rintro e wx ⟨rfl, rfl⟩)
  go_ret
  exact ⟨rfl, rfl⟩
theorem sort_nil (w : World) : Calls Try.prog 58 #[.slice none 0 0] w fun e w' => e = .returned (.tuple #[]) ∧ w = w' := by
  go_enter Try.func58, Try.ntmps58
  go_wp2_with (first | (go_at_call 74; refine (len_zero _).mono ?_; rintro e wx ⟨rfl, rfl⟩) | (go_at_call 73; refine ((callsIn_wide (n := 1)).1 (pdq_nil 1 (Nat.le_refl _) _)).mono ?_; rintro e wx ⟨rfl, rfl⟩))
  first | go_end0 | refine bodyPost_ret (results_none rfl _ _ _) rfl ?_
  exact ⟨rfl, rfl⟩
theorem sortsTo_nil (w : World) : SortsTo w (.slice none 0 0) [] := by
  intro w1 _
  have hnew : (w1.alloc (.cells #[.slice none 0 0] 22)).cell? ⟨w1.heap.size, 0, none⟩ = some (.slice none 0 0) := (cell_of_box_a (World.alloc_heap_new w1 _)).1
  go_enter Try.func33, Try.ntmps33
  go_wp2
  go_ret
  refine ⟨.func (.func 59) #[] #[.pointer (some ⟨w1.heap.size, 0, none⟩)], rfl, (RowKit.Below.refl _ w1).alloc (Nat.le_refl _) _, ?_⟩
  obtain ⟨W, hW⟩ : ∃ W, W = w1.alloc (.cells #[.slice none 0 0] 22) := ⟨_, rfl⟩
  rw [← hW] at hnew ⊢
  have hlt : w1.heap.size < W.heap.size := by rw [hW]; simp
  have hseq : SeqGives Fence.wide (5 - 1 - 1) Try.prog 59 #[.pointer (some ⟨w1.heap.size, 0, none⟩)] encZ (fun ss : List Int => ss = []) 0 W :=
    fun l J W' hW' _ _ h0 => values1_nil _ l w1.heap.size J W' ((hW'.cell (p := ⟨w1.heap.size, 0, none⟩) hlt).trans hnew) h0
  have cC := callsIn_wide.1 (AnyZI.collect_in collectA Fence.wide 5 trivial trivial rfl (by omega) 59 #[.pointer (some ⟨w1.heap.size, 0, none⟩)] trivial (enters_of Try.func59 (by kernel_rfl) rfl) _ 0 (Nat.zero_le _) (by omega) W hseq)
  change Calls _ 57 _ _ _ at cC
  clear hseq hnew hlt hW
  go_enter Try.func32, Try.ntmps32
  go_wp2_with (first | (go_at_call 57; refine cC.mono ?_; rintro e wx ⟨v, ss, rfl, hss, _, hnil, hb⟩; subst hss; obtain rfl := hnil.2 rfl) | (go_at_call 58; refine (sort_nil _).mono ?_; rintro e wx ⟨rfl, rfl⟩))
  go_ret
  exact ⟨_, rfl, ⟨by simp, .inl ⟨rfl, _, _, rfl⟩⟩, hb⟩
end Go.Proofs.Ytpjejaoobbancaa
