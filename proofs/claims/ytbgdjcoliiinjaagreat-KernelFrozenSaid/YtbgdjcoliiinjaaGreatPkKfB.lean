/- Merged: KF5, KF2. -/
import Derived.Test.YtbgdjcoliiinjaaGreatPkKfP
import Derived.Test.YtbgdjcoliiinjaaGreatPkKfQ
import Derived.Test.YtbgdjcoliiinjaaGreatPkKfT
import Derived.Test.YtbgdjcoliiinjaaGreatPkKfR
import Derived.Test.YtbgdjcoliiinjaaGreatPkKfS
import Derived.Test.YtbgdjcoliiinjaaGreatPkKdE
import Derived.Test.YtbgdjcoliiinjaaGreatPkKAw
set_option linter.unusedVariables false
set_option linter.unusedSimpArgs false
set_option linter.unusedSectionVars false
namespace Go.Proofs.YtbgdjcoliiinjaaGreat
section
open Go Go.RowKit Go.BigFrame
def xWish : X := .agg (ints 9)
noncomputable def known0 (wx : X) (cs : List Nat) : FnP := fun _ _ args st k => match args with
  | [a] => cond (leX a wx && (Nat.ble st.n 2 && keptIn st.H [boxV])) (cs.all fun c => k prepX ⟨buildH (memOf c), 4000⟩) false
  | _ => false
/-- Every wish is of one of these kinds. -/
theorem wish_ways {ρ : Names} {v : Value} (h : VR ρ xWish.toV v) : (∃ d, d < 8 ∧ VR ρ (wA d).toV v) ∨ (∃ j, 1 < j ∧ j < 10 ∧ VR ρ (wB j).toV v) ∨ ∃ c, c < 3 ∧ VR ρ (wC c).toV v := by
  have h : VR ρ (.agg ((ints 9).map V.toV).toArray) v := h
  cases h with
  | @agg _ cs q1 q2 =>
    have q1 : 9 = cs.size := by simpa [ints] using q1
    have cell : ∀ i, (hi : i < 9) → ∃ n : Int, cs[i]'(by omega) = .int .i64 n ∧ IntKind.i64.wrap n = n := fun i hi => by
      have := q2 i aI.toV _ (by rw [List.getElem?_toArray, List.getElem?_map, show (ints 9)[i]? = some aI from by unfold ints; rw [List.getElem?_replicate, if_pos hi]]; rfl) (Array.getElem?_eq_getElem (by omega))
      exact any_real this
    obtain ⟨n, hn, hw⟩ := cell 0 (by omega)
    obtain ⟨m, hm, hw2⟩ := cell 2 (by omega)
    obtain ⟨p, hp, hw3⟩ := cell 8 (by omega)
    have g4 : 0 ≤ p % 3 := Int.emod_nonneg _ (by omega)
    have g5 : p % 3 < 3 := Int.emod_lt_of_pos _ (by omega)
    have g0 : 0 ≤ n % 10 := Int.emod_nonneg _ (by omega)
    have g1 : n % 10 < 10 := Int.emod_lt_of_pos _ (by omega)
    have g2 : 0 ≤ m % 8 := Int.emod_nonneg _ (by omega)
    have g3 : m % 8 < 8 := Int.emod_lt_of_pos _ (by omega)
    have old : ∀ (i : Nat) (y : Value), cs[i]? = some y → VR ρ aI.toV y := fun i y hy => by
      have hi : i < 9 := by have := (Array.getElem?_eq_some_iff.1 hy).1; omega
      exact q2 i _ y (by rw [List.getElem?_toArray, List.getElem?_map, show (ints 9)[i]? = some aI from by unfold ints; rw [List.getElem?_replicate, if_pos hi]]; rfl) hy
    have hn0 : cs[0]? = some (.int .i64 n) := by rw [Array.getElem?_eq_getElem (by omega), hn]
    have hp0 : cs[8]? = some (.int .i64 p) := by rw [Array.getElem?_eq_getElem (by omega), hp]
    have hm0 : cs[2]? = some (.int .i64 m) := by rw [Array.getElem?_eq_getElem (by omega), hm]
    by_cases hr : n % 10 = 0
    · refine .inl ⟨(m % 8).toNat, by omega, VR.agg (by simpa using q1) fun i x y hx hy => ?_⟩
      match i, hx with
      | 0, hx => cases hx; rw [hn0] at hy; cases hy; exact .modI (m := 10) (r := 0) (by simpa using hr) hw
      | 1, hx => cases hx; exact old _ _ hy
      | 2, hx => cases hx; rw [hm0] at hy; cases hy; exact .modI (m := 8) (r := (m % 8).toNat) (by rw [Int.toNat_of_nonneg g2]; rfl) hw2
      | 3, hx => cases hx; exact old _ _ hy
      | 4, hx => cases hx; exact old _ _ hy
      | 5, hx => cases hx; exact old _ _ hy
      | 6, hx => cases hx; exact old _ _ hy
      | 7, hx => cases hx; exact old _ _ hy
      | 8, hx => cases hx; exact old _ _ hy
      | i + 9, hx => cases hx
    · by_cases hr1 : n % 10 = 1
      · refine .inr (.inr ⟨(p % 3).toNat, by omega, VR.agg (by simpa using q1) fun i x y hx hy => ?_⟩)
        match i, hx with
        | 0, hx => cases hx; rw [hn0] at hy; cases hy; exact .modI (m := 10) (r := 1) (by simpa using hr1) hw
        | 1, hx => cases hx; exact old _ _ hy
        | 2, hx => cases hx; exact old _ _ hy
        | 3, hx => cases hx; exact old _ _ hy
        | 4, hx => cases hx; exact old _ _ hy
        | 5, hx => cases hx; exact old _ _ hy
        | 6, hx => cases hx; exact old _ _ hy
        | 7, hx => cases hx; exact old _ _ hy
        | 8, hx => cases hx; rw [hp0] at hy; cases hy; exact .modI (m := 3) (r := (p % 3).toNat) (by rw [Int.toNat_of_nonneg g4]; rfl) hw3
        | i + 9, hx => cases hx
      · refine .inr (.inl ⟨(n % 10).toNat, by omega, by omega, VR.agg (by simpa using q1) fun i x y hx hy => ?_⟩)
        match i, hx with
        | 0, hx => cases hx; rw [hn0] at hy; cases hy; exact .modI (m := 10) (r := (n % 10).toNat) (by rw [Int.toNat_of_nonneg g0]; rfl) hw
        | 1, hx => cases hx; exact old _ _ hy
        | 2, hx => cases hx; exact old _ _ hy
        | 3, hx => cases hx; exact old _ _ hy
        | 4, hx => cases hx; exact old _ _ hy
        | 5, hx => cases hx; exact old _ _ hy
        | 6, hx => cases hx; exact old _ _ hy
        | 7, hx => cases hx; exact old _ _ hy
        | 8, hx => cases hx; exact old _ _ hy
        | i + 9, hx => cases hx
theorem known0_ok {wx : X} {cs : List Nat} (hp : prepB wx cs = true) : FnOkP Tryz.prog 0 8 (known0 wx cs) := by
  intro F Fp args st k hF hFp h W R ρ args' w l hl hG hs
  unfold known0 at h
  split at h
  case h_2 => cases h
  rename_i a
  cases hc : (leX a wx && (Nat.ble st.n 2 && keptIn st.H [boxV])) with
  | false => rw [hc] at h; cases h
  | true =>
    rw [hc, cond_true] at h
    simp only [Bool.and_eq_true] at hc
    have hs2 : Sim W R w ρ stL l := hs.less (Nat.le_of_ble_eq_true hc.2.1) hc.2.2
    obtain ⟨vs⟩ := args'
    match vs, hl with
    | [v], hl =>
      have hv := (leX_rel a wx hc.1).1 v (hl.2 0 _ _ rfl rfl)
      refine Calls.mono (runD_ok hkP _ _ _ _ hp W R ρ _ w l ⟨rfl, fun i x y hx hy => ?_⟩ hG hs2) fun e w' ⟨x, st', ρ', v', l', hk, he, hle, hv', hs'⟩ => ?_
      · match i, hx, hy with
        | 0, hx, hy => cases hx; cases hy; exact hv
        | i + 1, hx, hy => cases hx
      · unfold isOut at hk
        simp only [Bool.and_eq_true] at hk
        obtain ⟨h1, h2, h3⟩ := hk
        obtain ⟨c, hcm, hkept⟩ := List.any_eq_true.1 h3
        exact ⟨prepX, _, ρ', v', l', List.all_eq_true.1 h c hcm, he, hle, (leX_rel x prepX h1).1 v' hv', hs'.less (Nat.le_of_ble_eq_true h2) hkept⟩
    | [], hl => have := hl.1; simp at this
    | _ :: _ :: _, hl => have := hl.1; simp at this
/-- What of the claim is unknown gets names. -/
noncomputable def known (wx : X) (cs : List Nat) : FnP := symP 59 (known0 wx cs)
theorem known_ok {wx : X} {cs : List Nat} (hp : prepB wx cs = true) : FnOkP Tryz.prog 0 8 (known wx cs) := symP_ok (known0_ok hp)
end
section
open Go Go.RowKit Go.BigFrame
set_option maxRecDepth 100000
theorem dcForest8 : DC Tryz.prog 16 [xSteps maxLen] [xF8] := fun z w args hz hd => by
  refine (dcForest maxLen z w args hz hd).mono fun e w' ⟨v', y, hy, he, hr, hb⟩ => ?_
  cases List.mem_singleton.1 hy
  obtain ⟨n, hn, h⟩ := DR_bslU (j := 3) hr
  exact ⟨v', xF8, List.mem_singleton.2 rfl, he, .bslU (j := 8) h.as8 hn, hb⟩
/-- A message whose kind is known: by the uniform engine. -/
noncomputable def litKind (args : List X) : Bool := match cellsC args with
  | .int .i64 _ :: _ => true
  | _ => false
def vNil : V := .oth (.slice none 0 0)
/-- An unknown one: nothing comes of it. -/
noncomputable def guessR : Guess := fun _ st => some (.agg [vNil, vNil, vNil, vNil], allNm st.H st.n, Nat.add st.n 3000)
noncomputable def recvH : FnP := altP (fun args _ => litKind args) (liftP (fnK 17)) (mergeP guessR (fnKP 17))
theorem recvH_ok : FnOkP Tryz.prog 0 17 recvH := altP_ok (liftP_ok (fnK_ok _)) (mergeP_ok (fnKP_ok _) _)
noncomputable def hkG0 : Hooks := ((((((hkF0.addP 12 makeV makeV_ok).addU 7 trueC (trueC_ok awake27)).addP 17 recvH recvH_ok).addP 54 (dcP [xMsg] [xB]) (dcP_ok dcValid rfl)).addP 16 (dcP [xSteps maxLen] [xF8]) (dcP_ok dcForest8 rfl))).addP 14 (dcP [xNat 0 10, xArgs, xF8] [xMsg]) (dcP_ok dcMsg rfl)
noncomputable def lawK : List FuncId := [9, 10, 11, 18, 19, 20, 56, 55, 38, 60, 59, 58, 43]
noncomputable def hkG (wx : X) (cs : List Nat) (hp : prepB wx cs = true) : Hooks := List.foldl Hooks.addK (hkG0.addP 8 (known wx cs) (known_ok hp)) lawK
noncomputable def frozenB (wx : X) (cs : List Nat) (hp : prepB wx cs = true) : Bool := runD (hkG wx cs hp) 3 [wx, xWish, xI, xArgs, xSteps maxLen] st0 (outD [.sc (.bool true)])
theorem dcFrozen {wx : X} {cs : List Nat} {hp : prepB wx cs = true} (h : frozenB wx cs hp = true) : DC Tryz.prog 3 [wx, xWish, xI, xArgs, xSteps maxLen] [.sc (.bool true)] := dc_run0 (hkG wx cs hp) h rfl
end
end Go.Proofs.YtbgdjcoliiinjaaGreat
