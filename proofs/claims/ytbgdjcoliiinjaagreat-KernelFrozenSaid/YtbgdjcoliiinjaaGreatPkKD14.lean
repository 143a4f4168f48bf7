/- Contracts of data: make.Msg of the kinds 1 to 11. -/
import Derived.Test.YtbgdjcoliiinjaaGreatPkKdC
set_option linter.unusedVariables false
set_option linter.unusedSimpArgs false
set_option linter.unusedSectionVars false
namespace Go.Proofs.YtbgdjcoliiinjaaGreat
open Go Go.RowKit Go.BigFrame
set_option maxRecDepth 100000
def v0 : V := .int .i64 0
def vN : V := .oth (.slice none 0 0)
def vF : V := .bool false
def viewZ : List V := [v0, vN, vN]
def stateZ : List V := [vN, vN, vN, vN, vN, vN]
/-- A message of a kind from 1 to 11, without what the others hold. -/
def msgL : List V := [nat 1 11, aI, aI, aI, aI, aI, aI] ++ ints 3 ++ [aI, aB] ++ reqL ++ [pathU, .oth (.complex .f32 23 2), vN, vN, v0] ++ viewZ ++ stateZ ++ ([v0] ++ viewZ ++ stateZ ++ [vF] ++ viewZ ++ stateZ)
def xMsg : X := .agg msgL
noncomputable def hk14 : Hooks := hk13.addD 46 [xArgs, xNode] xReq dcMReq rfl
noncomputable def msgB (i n : Nat) : Bool := runD hk14 14 [.sc (.int .i64 i), xArgs, bslX 3 n] st0 (outD [xMsg])
theorem rMsgA : allUp 11 (fun i => allUp 9 fun n => msgB i n) = true := by kernel_rfl
theorem rMsgB : allUp 11 (fun i => allUp 9 fun n => msgB i (n + 9)) = true := by kernel_rfl
theorem rMsgC : allUp 11 (fun i => allUp 9 fun n => msgB i (n + 18)) = true := by kernel_rfl
theorem rMsg (i n : Nat) (hi : i < 11) (hn : n < 27) : msgB i n = true := by
  by_cases h1 : n < 9
  · exact allUp_get (allUp_get rMsgA i hi) n h1
  · by_cases h2 : n < 18
    · have := allUp_get (allUp_get rMsgB i hi) (n - 9) (by omega)
      rwa [show n - 9 + 9 = n by omega] at this
    · have := allUp_get (allUp_get rMsgC i hi) (n - 18) (by omega)
      rwa [show n - 18 + 18 = n by omega] at this
theorem dcMsgI (i n : Nat) (hi : i < 11) (hn : n < 27) : DC Tryz.prog 14 [.sc (.int .i64 i), xArgs, bslX 3 n] [xMsg] := dc_run0 hk14 (rMsg i n hi hn) rfl
/-- A forest that is not parted. -/
def xF8 : X := .sc (.oth (.complex .f32 71 26))
theorem BS.as3 {z : Nat → Option Obj} {n : Nat} {v : Value} (h : BS z 8 n v) : BS z 3 n v := by
  generalize hj : (8 : Nat) = j at h
  cases h with
  | mk f hn hm h ht => subst hj; exact .mk f hn hm h ht
theorem BS.as8 {z : Nat → Option Obj} {n : Nat} {v : Value} (h : BS z 3 n v) : BS z 8 n v := by
  generalize hj : (3 : Nat) = j at h
  cases h with
  | mk f hn hm h ht => subst hj; exact .mk f hn hm h ht
theorem DR_nat {z : Nat → Option Obj} {lo hi : Nat} {v : Value} (h : DR z (xNat lo hi) v) : ∃ n : Nat, v = .int .i64 (n : Int) ∧ lo ≤ n ∧ n ≤ hi := by
  have h : VR (dn z) (.complex .f64 (lo * 8 + 3) hi) v := h
  generalize hq : lo * 8 + 3 = t at h
  cases h with
  | @rng k a b n h1 h2 hw =>
    have := kidx_lt k
    have hk : kidx k = kidx .i64 := by show kidx k = 3; omega
    have := kidx_inj hk
    subst this
    exact ⟨n, rfl, by omega, h2⟩
theorem dcMsg : DC Tryz.prog 14 [xNat 0 10, xArgs, xF8] [xMsg] := fun z w args hz hd => by
  obtain ⟨l⟩ := args
  match l, hd with
  | [a, b, c], hd =>
    obtain ⟨i, rfl, _, hi⟩ := DR_nat (hd.2 0 _ _ rfl rfl)
    obtain ⟨n, hn, hb⟩ := DR_bslU (j := 8) (hd.2 2 _ _ rfl rfl)
    refine dcMsgI i n (by omega) (by omega) z w _ hz ⟨rfl, fun q x v hx hv => ?_⟩
    match q, hx, hv with
    | 0, hx, hv => cases hx; cases hv; exact .int .i64 _
    | 1, hx, hv => cases hx; cases hv; exact hd.2 1 _ _ rfl rfl
    | 2, hx, hv => cases hx; cases hv; exact .bsl hb.as3
    | q + 3, hx, hv => cases hx
  | [], hd => have := hd.1; simp at this
  | [_], hd => have := hd.1; simp at this
  | [_, _], hd => have := hd.1; simp at this
  | _ :: _ :: _ :: _ :: _, hd => have := hd.1; simp at this
end Go.Proofs.YtbgdjcoliiinjaaGreat
