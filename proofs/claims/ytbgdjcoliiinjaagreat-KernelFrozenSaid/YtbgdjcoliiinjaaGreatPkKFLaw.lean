/- KernelFrozen: its arguments; the law. -/
import Derived.Test.YtbgdjcoliiinjaaGreatPkKF6a0
import Derived.Test.YtbgdjcoliiinjaaGreatPkKF6a1
import Derived.Test.YtbgdjcoliiinjaaGreatPkKF6a2
import Derived.Test.YtbgdjcoliiinjaaGreatPkKF6a3
import Derived.Test.YtbgdjcoliiinjaaGreatPkKF6a4
import Derived.Test.YtbgdjcoliiinjaaGreatPkKF6a5
import Derived.Test.YtbgdjcoliiinjaaGreatPkKF6a6
import Derived.Test.YtbgdjcoliiinjaaGreatPkKF6a7
import Derived.Test.YtbgdjcoliiinjaaGreatPkKF6b2
import Derived.Test.YtbgdjcoliiinjaaGreatPkKF6b3
import Derived.Test.YtbgdjcoliiinjaaGreatPkKF6b4
import Derived.Test.YtbgdjcoliiinjaaGreatPkKF6b5
import Derived.Test.YtbgdjcoliiinjaaGreatPkKF6b6
import Derived.Test.YtbgdjcoliiinjaaGreatPkKF6b7
import Derived.Test.YtbgdjcoliiinjaaGreatPkKF6b8
import Derived.Test.YtbgdjcoliiinjaaGreatPkKF6b9
import Derived.Test.YtbgdjcoliiinjaaGreatPkKF6c0
import Derived.Test.YtbgdjcoliiinjaaGreatPkKF6c1
import Derived.Test.YtbgdjcoliiinjaaGreatPkKF6c2
import Derived.Test.YtbgdjcoliiinjaaGreatPkKfU
set_option linter.unusedVariables false
set_option linter.unusedSimpArgs false
set_option linter.unusedSectionVars false
namespace Go.Proofs.YtbgdjcoliiinjaaGreat
open Go Go.RowKit Go.BigFrame Go.ChangeShapes Go.WideShapes
section
variable {H : Type} {enc : TypeId × Value → H} {w : World} {base : Nat} {held : Bool}
theorem wish_leaves : leaves Tryz.prog 3 23 = some (List.replicate 9 3) := by kernel_rfl
set_option maxRecDepth 100000 in
theorem wish_arg {v : Value} {d : DataW H} {p : List MemPlace} {r : Reach} {b0 : Nat} (hok : Value.okWide Tryz.prog w r b0 23 v)
    (h : DataW.Trod enc Tryz.prog w base (fun _ => true) held 23 v d p) (hs : ∀ n ∈ d.weights Tryz.prog 23, n ≤ reachBytes) (z : Nat → Option Obj) : DR z xWish v := by
  obtain ⟨cs, rfl, hsz⟩ := okWide_struct Tryz.underlying23 hok
  obtain ⟨hl, g⟩ := leaves_open 3 23 (List.replicate 9 3) cs.toList wish_leaves (Rd.of h hs)
  have hl : cs.toList.length = 9 := by simpa using hl
  refine VR.agg (by simp [ints]; simpa using hl.symm) fun i x y hx hy => ?_
  have hi : i < 9 := by have := (Array.getElem?_eq_some_iff.1 hy).1; simpa using (by simpa using hl ▸ this : i < 9)
  have hx2 : x = aI.toV := by
    rw [List.getElem?_toArray, List.getElem?_map, show (ints 9)[i]? = some aI from by unfold ints; rw [List.getElem?_replicate, if_pos hi]] at hx
    exact (Option.some.inj hx).symm
  obtain ⟨v0, h0, hL0⟩ := g i 3 (by rw [List.getElem?_replicate, if_pos (by omega)])
  obtain ⟨n0, rfl, hw⟩ := hL0.int Tryz.underlying3
  rw [Array.getElem?_toList, hy] at h0
  cases h0
  rw [hx2]
  exact aI_DR (z := z) (wrap_of_wf hw)
end
theorem dcA (d : Nat) (h : d < 8) : DC Tryz.prog 3 [wA d, xWish, xI, xArgs, xSteps maxLen] [.sc (.bool true)] := by
  rcases lt8 h with rfl | rfl | rfl | rfl | rfl | rfl | rfl | rfl
  · exact dcFrozen fA0
  · exact dcFrozen fA1
  · exact dcFrozen fA2
  · exact dcFrozen fA3
  · exact dcFrozen fA4
  · exact dcFrozen fA5
  · exact dcFrozen fA6
  · exact dcFrozen fA7
theorem dcB (j : Nat) (h0 : 1 < j) (h : j < 10) : DC Tryz.prog 3 [wB j, xWish, xI, xArgs, xSteps maxLen] [.sc (.bool true)] := by
  have : j = 2 ∨ j = 3 ∨ j = 4 ∨ j = 5 ∨ j = 6 ∨ j = 7 ∨ j = 8 ∨ j = 9 := by omega
  rcases this with rfl | rfl | rfl | rfl | rfl | rfl | rfl | rfl
  · exact dcFrozen fB2
  · exact dcFrozen fB3
  · exact dcFrozen fB4
  · exact dcFrozen fB5
  · exact dcFrozen fB6
  · exact dcFrozen fB7
  · exact dcFrozen fB8
  · exact dcFrozen fB9
theorem dcC (c : Nat) (h : c < 3) : DC Tryz.prog 3 [wC c, xWish, xI, xArgs, xSteps maxLen] [.sc (.bool true)] := by
  have : c = 0 ∨ c = 1 ∨ c = 2 := by omega
  rcases this with rfl | rfl | rfl
  · exact dcFrozen fC0
  · exact dcFrozen fC1
  · exact dcFrozen fC2
set_option maxRecDepth 100000 in
theorem kernelFrozen_any {kind : Int} {wv vv v u : Value} (W : World) (hwv : DR (zAll W) xWish wv) (hvv : DR (zAll W) xWish vv) (h2 : IntKind.i64.wrap kind = kind)
    (hv : ∃ a n c, v = .slice a n c ∧ n ≤ maxLen ∧ BS (zAll W) 7 n v) (hu : ∃ n, n ≤ maxLen ∧ BS (zAll W) 4 n u) :
    Calls Tryz.prog 3 #[wv, vv, .int .i64 kind, v, u] W fun e w' => e = .returned (.bool true) ∧ Below W.heap.size W w' := by
  obtain ⟨a, n, c, rfl, hm, hb⟩ := hv
  obtain ⟨m, hm2, hb2⟩ := hu
  by_cases h60 : n ≤ 60
  · have main : ∀ wx : X, DC Tryz.prog 3 [wx, xWish, xI, xArgs, xSteps maxLen] [.sc (.bool true)] → DR (zAll W) wx wv → Calls Tryz.prog 3 #[wv, vv, .int .i64 kind, .slice a n c, u] W fun e w' => e = .returned (.bool true) ∧ Below W.heap.size W w' := fun wx hd hw => by
      refine (hd (zAll W) W _ (zAll_ok W) ⟨rfl, fun i x y hx hy => ?_⟩).mono fun e w' ⟨v', y, hy, he, hr, hbl⟩ => ?_
      · match i, hx, hy with
        | 0, hx, hy => cases hx; cases hy; exact hw
        | 1, hx, hy => cases hx; cases hy; exact hvv
        | 2, hx, hy => cases hx; cases hy; exact aI_DR h2
        | 3, hx, hy => cases hx; cases hy; exact .bslU (j := 7) hb h60
        | 4, hx, hy => cases hx; cases hy; exact .bslU (j := 4) hb2 hm2
        | i + 5, hx, hy => cases hx
      · cases List.mem_singleton.1 hy
        have hr : VR (dn _) (.bool true) v' := hr
        rw [hr.plain_eq rfl] at he
        exact ⟨he, hbl⟩
    rcases wish_ways hwv with ⟨d, hd, hr⟩ | ⟨j, h0, hj, hr⟩ | ⟨q, hq, hr⟩
    · exact main _ (dcA d hd) hr
    · exact main _ (dcB j h0 hj) hr
    · exact main _ (dcC q hq) hr
  · exact frozen_long W hm h60
end Go.Proofs.YtbgdjcoliiinjaaGreat
