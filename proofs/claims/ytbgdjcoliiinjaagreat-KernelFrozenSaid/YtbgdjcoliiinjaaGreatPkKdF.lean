/- Merged: KD6, KD7a. -/
import Derived.Test.YtbgdjcoliiinjaaGreatPkKD3
import Derived.Test.YtbgdjcoliiinjaaGreatPkKdB
import Derived.Test.YtbgdjcoliiinjaaGreatPkKD5
set_option linter.unusedVariables false
set_option linter.unusedSimpArgs false
set_option linter.unusedSectionVars false
namespace Go.Proofs.YtbgdjcoliiinjaaGreat
section
open Go Go.RowKit Go.BigFrame
set_option maxRecDepth 100000
noncomputable def hk6 : Hooks := hk3.addPF 153 (famL 3 (fun L => [xL L, xEnt]) yIns 26) (famL_ok fun L h => ⟨dcIns L h, rfl⟩)
theorem rAdd : allUp 26 (fun L => runD hk6 111 [xL L, xI, xI, xNode] st0 (outD [xL (L + 1), xL L])) = true := by kernel_rfl
theorem dcAdd (L : Nat) (h : L < 26) : DC Tryz.prog 111 [xL L, xI, xI, xNode] [xL (L + 1), xL L] := dc_run0 hk6 (allUp_get rAdd L h) rfl
def xStep : X := .agg [aB, aI, aI, aI, aI, aI, aI, aI, aI, aB]
noncomputable def hk7 : Hooks := (((((hk3.addD 114 [xNode, xId, xCap] (.cons xNode (.cons xI .nil)) dcChild rfl).addPF 111 (famL 3 (fun L => [xL L, xI, xI, xNode]) (fun L => [xL (L + 1), xL L]) 26) (famL_ok fun L h => ⟨dcAdd L h, rfl⟩)).addPF 110 (famL 3 (fun L => [xL L, xId, xCaps]) (fun _ => [xB]) 24) (famL_ok fun L h => ⟨dcConf L h, rfl⟩)).addF 112 [xCap, xNat 0 7] xCap dcAtt rfl rfl).addF 109 [xI, xI] xCap dcUnt rfl rfl).addD 113 [xCap, xNat 1 6, xNat 6 16, xNat 0 1, .sc (.int .i64 32), xI, xNat 1 3] xRt dcRetU rfl
def yGrow (L : Nat) : List X := [xL L, xL (L + 1), xL (L + 2), xL (L + 3)]
end
section
open Go Go.RowKit Go.BigFrame
set_option maxRecDepth 100000
noncomputable def growB (L : Nat) : Bool := runD hk7 53 [xL L, xStep, xI] st0 (outD (yGrow L))
theorem growB_dc {L : Nat} (h : growB L = true) : DC Tryz.prog 53 [xL L, xStep, xI] (yGrow L) := dc_run0 hk7 h rfl
end
end Go.Proofs.YtbgdjcoliiinjaaGreat
