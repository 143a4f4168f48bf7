/- Merged: KD3a, KD4. -/
import Derived.Test.YtbgdjcoliiinjaaGreatPkKdA
set_option linter.unusedVariables false
set_option linter.unusedSimpArgs false
set_option linter.unusedSectionVars false
namespace Go.Proofs.YtbgdjcoliiinjaaGreat
section
open Go Go.RowKit Go.BigFrame
set_option maxRecDepth 100000
def famL (j : Nat) (f : Nat → List X) (ys : Nat → List X) (mx : Nat) (args : List X) : Option (List X × List X) := match args with
  | x :: _ => match rowsOf j x with
    | some L => cond (Nat.blt L mx) (some (f L, ys L)) none
    | none => none
  | [] => none
theorem famL_ok {P : Program} {fn : FuncId} {j mx : Nat} {f ys : Nat → List X} (h : ∀ L, L < mx → DC P fn (f L) (ys L) ∧ (f L).all datX = true) : ∀ args xs ys', famL j f ys mx args = some (xs, ys') → DC P fn xs ys' ∧ xs.all datX = true := fun args xs ys' hq => by
  unfold famL at hq
  split at hq
  · split at hq
    · rename_i L _
      cases hb : Nat.blt L mx with
      | false => rw [hb] at hq; cases hq
      | true =>
        rw [hb] at hq
        cases hq
        exact h L (Nat.le_of_ble_eq_true hb)
    · cases hq
  · cases hq
noncomputable def hk3 : Hooks := ((hk2.addPF 184 (famL 3 (fun L => [xL L, xId]) (fun L => [m1, xNat 0 (L - 1)]) 28) (famL_ok fun L h => ⟨dcFind L h, rfl⟩)).addPF 249 (famL 3 (fun L => [xL L, xI, xI]) (fun L => [m1, xNat 0 (L - 1)]) 28) (famL_ok fun L h => ⟨dcAt L h, rfl⟩)).addF 29 [xCap] xR dcRange rfl rfl
def xCaps : X := .sc (.oth (.complex .f32 47 3))
end
section
open Go Go.RowKit Go.BigFrame
set_option maxRecDepth 100000
theorem rRet : allUp 11 (fun b => splitXs [xCap, xNat 1 6, .sc (.int .i64 (6 + b)), xNat 0 1, .sc (.int .i64 32), xI, xNat 1 3] (fun xs' => runD hk2 113 xs' st0 (outD [xRt]))) = true := by kernel_rfl
theorem dcRet (b : Nat) (h : b < 11) : DC Tryz.prog 113 [xCap, xNat 1 6, .sc (.int .i64 (6 + b)), xNat 0 1, .sc (.int .i64 32), xI, xNat 1 3] [xRt] := dc_run hk2 (allUp_get rRet b h) rfl
theorem dc_rng {P : Program} {f : FuncId} {pre post ys : List X} {lo hi : Nat} (h : ∀ n, lo ≤ n → n ≤ hi → DC P f (pre ++ .sc (.int .i64 n) :: post) ys) : DC P f (pre ++ xNat lo hi :: post) ys := by
  intro z w args hz hdl
  have hlen := hdl.1
  rw [List.length_append, List.length_cons] at hlen
  have hlt : pre.length < args.toList.length := by omega
  have hv := hdl.2 pre.length (xNat lo hi) _ (by simp) (List.getElem?_eq_getElem hlt)
  have key : ∃ n, lo ≤ n ∧ n ≤ hi ∧ args.toList[pre.length] = .int .i64 (n : Int) := by
    have hv : VR (dn z) (.complex .f64 (lo * 8 + 3) hi) (args.toList[pre.length]) := hv
    generalize args.toList[pre.length] = v at hv
    generalize ha : lo * 8 + 3 = t at hv
    cases hv with
    | @rng k a b n h1 h2 hw =>
      have hk := kidx_lt k
      have : k = .i64 := kidx_inj (by show kidx k = 3; omega)
      subst this
      have : a = lo := by have : lo * 8 + 3 = a * 8 + 3 := ha; omega
      subst this
      exact ⟨n, h1, h2, rfl⟩
  obtain ⟨n, h1, h2, e⟩ := key
  refine h n h1 h2 z w args hz ⟨by rw [List.length_append, List.length_cons]; exact hlen, fun i x u hx hu => ?_⟩
  by_cases hi2 : i = pre.length
  · subst hi2
    rw [List.getElem?_append_right (Nat.le_refl _), Nat.sub_self] at hx
    cases hx
    rw [List.getElem?_eq_getElem hlt, e] at hu
    cases hu
    exact .int .i64 n
  · refine hdl.2 i x u ?_ hu
    by_cases hl : i < pre.length
    · rw [List.getElem?_append_left hl] at hx ⊢
      exact hx
    · rw [List.getElem?_append_right (by omega)] at hx ⊢
      obtain ⟨q, hq⟩ : ∃ q, i - pre.length = q + 1 := ⟨i - pre.length - 1, by omega⟩
      rw [hq] at hx ⊢
      exact hx
theorem dcRetU : DC Tryz.prog 113 [xCap, xNat 1 6, xNat 6 16, xNat 0 1, .sc (.int .i64 32), xI, xNat 1 3] [xRt] :=
  dc_rng (pre := [xCap, xNat 1 6]) fun n h1 h2 => by
    have := dcRet (n - 6) (by omega)
    rw [show 6 + (n - 6) = n by omega] at this
    exact this
end
end Go.Proofs.YtbgdjcoliiinjaaGreat
