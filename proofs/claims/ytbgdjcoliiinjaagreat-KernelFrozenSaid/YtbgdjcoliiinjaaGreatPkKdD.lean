/- Merged: KD15, KD16. -/
import Derived.Test.YtbgdjcoliiinjaaGreatPkKD14
set_option linter.unusedVariables false
set_option linter.unusedSimpArgs false
set_option linter.unusedSectionVars false
namespace Go.Proofs.YtbgdjcoliiinjaaGreat
section
open Go Go.RowKit Go.BigFrame
set_option maxRecDepth 100000
theorem dcPRng : DC Tryz.prog 140 [xR] [xB] := fun z w args _ hd => by
  obtain ⟨v, rfl, hv⟩ := args1 hd
  obtain ⟨b, k, rfl, hb, hk⟩ := DR_xR hv
  exact (PValid_any b k hb hk w).mono fun e w' ⟨he, hbl⟩ => ⟨_, xB, List.mem_singleton.2 rfl, he, .anyB _, hbl⟩
noncomputable def hk15 : Hooks := noHooks.addF 140 [xR] xB dcPRng rfl rfl
theorem rPId : runD hk15 199 [xId] st0 (outD [xB]) = true := by kernel_rfl
theorem dcPId : DC Tryz.prog 199 [xId] [xB] := dc_run0 hk15 rPId rfl
theorem rPCap : runD hk15 283 [xCap] st0 (outD [xB]) = true := by kernel_rfl
theorem dcPCap : DC Tryz.prog 283 [xCap] [xB] := dc_run0 hk15 rPCap rfl
theorem rPCont : splitXs [.sc pathU, xId] (fun xs' => runD hk15 281 xs' st0 (outD [xB])) = true := by kernel_rfl
theorem dcPCont : DC Tryz.prog 281 [.sc pathU, xId] [xB] := dc_run hk15 rPCont rfl
noncomputable def hk15a : Hooks := ((hk15.addF 199 [xId] xB dcPId rfl rfl).addF 283 [xCap] xB dcPCap rfl rfl).addF 281 [.sc pathU, xId] xB dcPCont rfl rfl
theorem rNV : splitXs [xNode] (fun xs' => runD hk15a 196 xs' st0 (outD [xB])) = true := by kernel_rfl
theorem dcNV : DC Tryz.prog 196 [xNode] [xB] := dc_run hk15a rNV rfl
end
section
open Go Go.RowKit Go.BigFrame
set_option maxRecDepth 100000
def xNodeZ : X := .agg [v0, v0, v0, vN, v0, v0, v0, v0, v0, v0, vF]
noncomputable def hk16 : Hooks := hk15a.addF 196 [xNode] xB dcNV rfl rfl
theorem rPOp : runD hk16 192 [xId] st0 (outD [xB]) = true := by kernel_rfl
theorem dcPOp : DC Tryz.prog 192 [xId] [xB] := dc_run0 hk16 rPOp rfl
theorem rPEq : splitXs [xNode, xNodeZ] (fun xs' => runD hk16 289 xs' st0 (outD [xB])) = true := by kernel_rfl
theorem dcPEq : DC Tryz.prog 289 [xNode, xNodeZ] [xB] := dc_run hk16 rPEq rfl
noncomputable def hk16a : Hooks := (hk16.addF 192 [xId] xB dcPOp rfl rfl).addF 289 [xNode, xNodeZ] xB dcPEq rfl rfl
theorem rPReq : runD hk16a 191 [xReq] st0 (outD [xB]) = true := by kernel_rfl
theorem dcPReq : DC Tryz.prog 191 [xReq] [xB] := dc_run0 hk16a rPReq rfl
noncomputable def hk16b : Hooks := hk16a.addF 191 [xReq] xB dcPReq rfl rfl
def xMsgK (i : Nat) : X := .agg (.int .i64 (i + 1) :: msgL.tail)
noncomputable def validB (i : Nat) : Bool := runD hk16b 54 [xMsgK i] st0 (outD [xB])
theorem rValid : allUp 11 validB = true := by kernel_rfl
theorem dcValidK (i : Nat) (h : i < 11) : DC Tryz.prog 54 [xMsgK i] [xB] := dc_run0 hk16b (allUp_get rValid i h) rfl
theorem dcValid : DC Tryz.prog 54 [xMsg] [xB] := fun z w args hz hd => by
  obtain ⟨v, rfl, hv⟩ := args1 hd
  obtain ⟨a, rfl, hl⟩ := DR_agg hv
  obtain ⟨l⟩ := a
  cases l with
  | nil => have := hl.1; simp [msgL] at this
  | cons u us =>
    obtain ⟨n, rfl, h1, h2⟩ := DR_nat (z := z) (lo := 1) (hi := 11) (hl.2 0 _ _ rfl rfl)
    obtain ⟨i, rfl⟩ : ∃ i, n = i + 1 := ⟨n - 1, by omega⟩
    refine dcValidK i (by omega) z w _ hz ⟨rfl, fun q x v hx hv => ?_⟩
    match q, hx, hv with
    | 0, hx, hv =>
      cases hx; cases hv
      have q : LR (dn z) ((V.int .i64 (i + 1) :: msgL.tail).map V.toV) (Value.int .i64 ((i + 1 : Nat) : Int) :: us) := by
        refine ⟨hl.1, fun j x y hx hy => ?_⟩
        cases j with
        | zero => cases hx; cases hy; exact .int .i64 _
        | succ j => exact hl.2 (j + 1) x y hx hy
      have q := q.array
      exact VR.agg q.1 q.2
    | q + 1, hx, hv => cases hx
end
end Go.Proofs.YtbgdjcoliiinjaaGreat
