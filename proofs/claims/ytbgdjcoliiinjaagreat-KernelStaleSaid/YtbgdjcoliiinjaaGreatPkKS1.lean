/- KernelStale, computed. -/
import Derived.Test.YtbgdjcoliiinjaaGreatPkKdD
import Derived.Test.YtbgdjcoliiinjaaGreatPkKdE
import Derived.Test.YtbgdjcoliiinjaaGreatPkKAw
set_option linter.unusedVariables false
set_option linter.unusedSimpArgs false
set_option linter.unusedSectionVars false
namespace Go.Proofs.YtbgdjcoliiinjaaGreat
open Go Go.RowKit Go.BigFrame
set_option maxRecDepth 100000
theorem dcForest8 : DC Tryz.prog 16 [xSteps maxLen] [xF8] := fun z w args hz hd => by
  refine (dcForest maxLen z w args hz hd).mono fun e w' ⟨v', y, hy, he, hr, hb⟩ => ?_
  cases List.mem_singleton.1 hy
  obtain ⟨n, hn, h⟩ := DR_bslU (j := 3) hr
  exact ⟨v', xF8, List.mem_singleton.2 rfl, he, .bslU (j := 8) h.as8 hn, hb⟩
noncomputable def hkL : Hooks := ((((noHooks.addU 15 (placeU (fnK 15)) (placeU_ok (fnK_ok _))).addD 16 [xSteps maxLen] xF8 dcForest8 rfl).addD 14 [xNat 0 10, xArgs, xF8] xMsg dcMsg rfl).addF 54 [xMsg] xB dcValid rfl rfl).addU 7 trueC (trueC_ok awake27)
noncomputable def Hooks.addK (h : Hooks) (f : FuncId) : Hooks := h.addP f (liftP (fnK f)) (liftP_ok (fnK_ok f))
noncomputable def hkL2 : Hooks := List.foldl Hooks.addK hkL [31, 32, 24, 10, 19, 27, 18, 56, 55, 38, 60, 59, 43]
theorem stale_run : runD hkL2 5 [xI, xI, xArgs, xSteps maxLen, xI] st0 (outD [.sc (.bool true)]) = true := by kernel_rfl
theorem dcStale : DC Tryz.prog 5 [xI, xI, xArgs, xSteps maxLen, xI] [.sc (.bool true)] := dc_run0 hkL2 stale_run rfl
end Go.Proofs.YtbgdjcoliiinjaaGreat
