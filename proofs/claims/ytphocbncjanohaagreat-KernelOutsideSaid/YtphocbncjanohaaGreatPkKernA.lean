/- Merged: Plc, PlcU, KHook, KF0. -/
import Derived.Test.YtphocbncjanohaaGreatPkGenJ
import Derived.Test.YtphocbncjanohaaGreatPkEngH
import Derived.Test.YtphocbncjanohaaGreatProg
set_option linter.unusedVariables false
set_option linter.unusedSimpArgs false
set_option linter.unusedSectionVars false
namespace Go.Proofs.YtphocbncjanohaaGreat
section
open Go Go.RowKit Go.BigFrame
def modOf (x : X) : Option (Nat × Nat) := match x with
  | .sc (.oth (.complex .f32 a r)) => cond (Nat.beq (a % 8) 4) (some (a / 8, r)) none
  | _ => none
theorem modOf_real {ρ : Names} {x : X} {v : Value} {m r : Nat} (h : modOf x = some (m, r)) (hr : VR ρ x.toV v) : ∃ n : Int, v = .int .i64 n ∧ n % (m : Int) = (r : Int) ∧ IntKind.i64.wrap n = n := by
  unfold modOf at h
  split at h
  · rename_i a b
    cases hb : Nat.beq (a % 8) 4 with
    | false => rw [hb] at h; cases h
    | true =>
      rw [hb] at h
      have hm := Nat.eq_of_beq_eq_true hb
      have hr : VR ρ (.complex .f32 a b) v := hr
      cases hr with
      | any hs => simp at hm
      | symS h1 h2 h3 h4 h5 => omega
      | symLen h1 h2 h3 => omega
      | ptrI h1 => omega
      | @modI m' r' n h1 h2 =>
        rw [cond_true, show (m' * 8 + 4) / 8 = m' by omega] at h
        cases h
        exact ⟨n, rfl, h1, h2⟩
  · cases h
def anyOf (x : X) : Bool := match x with
  | .sc (.oth (.float .f64 3)) => true
  | _ => false
theorem anyOf_real {ρ : Names} {x : X} {v : Value} (h : anyOf x = true) (hr : VR ρ x.toV v) : ∃ n : Int, v = .int .i64 n ∧ IntKind.i64.wrap n = n := by
  unfold anyOf at h
  split at h
  · have hr : VR ρ (.float .f64 3) v := hr
    generalize hq : (3 : Nat) = t at hr
    cases hr with
    | @anyI k n hw =>
      have : k = .i64 := kidx_inj (by rw [← hq]; rfl)
      subst this
      exact ⟨n, rfl, hw⟩
  · cases h
noncomputable def placeP (main : FnP) : FnP := fun F Fp args st k => match args with
  | [x, y] => match litI64 y with
    | some m => match modOf x with
      | some (m', r) => cond (Nat.beq m m' && (Nat.blt 0 m && Nat.ble m 1000000)) (k (.sc (.int .i64 r)) st) false
      | none => cond (anyOf x) (cond (Nat.blt 0 m && Nat.ble m 1000000) (allB m fun r => k (.sc (.int .i64 r)) st) false) (main F Fp args st k)
    | none => main F Fp args st k
  | _ => main F Fp args st k
theorem wrap64_range {n : Int} (h : IntKind.i64.wrap n = n) : -9223372036854775808 ≤ n ∧ n ≤ 9223372036854775807 := by
  rw [← h]
  simp only [IntKind.wrap, IntKind.bits, IntKind.signed]
  simp
  omega
theorem placeP_ok {G : Nat} {main : FnP} (hm : FnOkP Tryz.prog G 14 main) : FnOkP Tryz.prog G 14 (placeP main) := by
  intro F Fp args st k hF hFp h
  unfold placeP at h
  split at h
  case h_2 => exact hm F Fp _ st k hF hFp h
  rename_i x y
  split at h
  case h_2 => exact hm F Fp _ st k hF hFp h
  rename_i m hy
  have hy := litI64_eq hy
  have two : ∀ {ρ : Names} {args' : Array Value}, LR ρ (List.map X.toV [x, y]) args'.toList → ∃ v, args' = #[v, .int .i64 (m : Int)] ∧ VR ρ x.toV v := by
    intro ρ args' hl
    have hsz : args'.size = 2 := by have := hl.1; simpa using this.symm
    have h1 : VR ρ x.toV args'[0] := hl.2 0 _ _ rfl (by rw [Array.getElem?_toList, Array.getElem?_eq_getElem (by omega)])
    have h2 : VR ρ y.toV args'[1] := hl.2 1 _ _ rfl (by rw [Array.getElem?_toList, Array.getElem?_eq_getElem (by omega)])
    rw [hy] at h2
    have h2 : VR ρ (.int .i64 (m : Int)) args'[1] := h2
    refine ⟨args'[0], ?_, h1⟩
    have e := h2.plain_eq rfl
    apply Array.ext
    · simpa using hsz
    · intro i h1 h2
      have : i = 0 ∨ i = 1 := by omega
      rcases this with rfl | rfl
      · rfl
      · exact e
  split at h
  · rename_i m' r hx
    cases hb : (Nat.beq m m' && (Nat.blt 0 m && Nat.ble m 1000000)) with
    | false => rw [hb] at h; cases h
    | true =>
      rw [hb, cond_true] at h
      rw [Bool.and_eq_true, Bool.and_eq_true] at hb
      have e := Nat.eq_of_beq_eq_true hb.1
      have b1 : 0 < m := Nat.le_of_ble_eq_true hb.2.1
      have b2 := Nat.le_of_ble_eq_true hb.2.2
      subst e
      intro W R ρ args' w l hl hG hs
      obtain ⟨v, rfl, hv⟩ := two hl
      obtain ⟨n, rfl, hn, hw⟩ := modOf_real hx hv
      obtain ⟨w1, w2⟩ := wrap64_range hw
      refine Calls.mono (MPlace_any n m w w1 w2 (by omega) (by omega)) fun e w' hh => ?_
      obtain ⟨rfl, rfl⟩ := hh
      exact ⟨_, st, ρ, _, l, h, rfl, .refl _, by rw [hn]; exact .int .i64 (r : Int), hs⟩
  · cases ha : anyOf x with
    | false => rw [ha] at h; exact hm F Fp _ st k hF hFp h
    | true =>
      rw [ha, cond_true] at h
      cases hb : (Nat.blt 0 m && Nat.ble m 1000000) with
      | false => rw [hb] at h; cases h
      | true =>
        rw [hb, cond_true] at h
        rw [Bool.and_eq_true] at hb
        have b1 : 0 < m := Nat.le_of_ble_eq_true hb.1
        have b2 := Nat.le_of_ble_eq_true hb.2
        intro W R ρ args' w l hl hG hs
        obtain ⟨v, rfl, hv⟩ := two hl
        obtain ⟨n, rfl, hw⟩ := anyOf_real ha hv
        obtain ⟨w1, w2⟩ := wrap64_range hw
        refine Calls.mono (MPlace_any n m w w1 w2 (by omega) (by omega)) fun e w' hh => ?_
        obtain ⟨rfl, rfl⟩ := hh
        have h0 : 0 ≤ n % (m : Int) := Int.emod_nonneg _ (by omega)
        have h1 : n % (m : Int) < m := Int.emod_lt_of_pos _ (by omega)
        have hr := allB_at h (n % (m : Int)).toNat (by omega)
        refine ⟨_, st, ρ, _, l, hr, rfl, .refl _, ?_, hs⟩
        show VR ρ (.int .i64 (((n % (m : Int)).toNat : Nat) : Int)) _
        rw [Int.toNat_of_nonneg h0]
        exact .int _ _
end
section
open Go Go.RowKit Go.BigFrame
theorem sc_rel {ρ : Names} {u : V} {v : Value} (h : VR ρ u.toV v) : VR ρ (X.sc u).toV v := h
noncomputable def unkI64 (x : X) : Bool := cond (symX x) (match ivV x.toV with
  | some (3, _, _) => true
  | _ => false) false
theorem unkI64_real {ρ : Names} {x : X} {v : Value} (h : unkI64 x = true) (hr : VR ρ x.toV v) : ∃ n : Int, v = .int .i64 n ∧ IntKind.i64.wrap n = n := by
  unfold unkI64 at h
  cases hs : symX x with
  | false => rw [hs] at h; cases h
  | true =>
    rw [hs, cond_true] at h
    split at h
    · rename_i lo hi he
      obtain ⟨k, n, rfl, hk, _, _, hw⟩ := ivV_wf hs hr he
      have : k = .i64 := kidx_inj (by rw [hk]; rfl)
      subst this
      exact ⟨n, rfl, hw⟩
    · cases h
noncomputable def placeU (main : FnC) : FnC := fun F args st k => match args with
  | [x, y] => cond (unkI64 x) (match litI64 y with
    | some m => cond (Nat.blt 0 m && Nat.ble m 1000000) (k (.sc (ofIv 3 0 (Int.ofNat (Nat.sub m 1)))) st) false
    | none => false) (main F args st k)
  | _ => main F args st k
theorem placeU_ok {G : Nat} {main : FnC} (hm : FnOk Tryz.prog G 14 main) : FnOk Tryz.prog G 14 (placeU main) := by
  intro F args st k hF h
  unfold placeU at h
  split at h
  case h_2 => exact hm F _ st k hF h
  rename_i x y
  cases ha : unkI64 x with
  | false => rw [ha] at h; exact hm F _ st k hF h
  | true =>
    rw [ha, cond_true] at h
    split at h
    case h_2 => cases h
    rename_i m hy
    have hy := litI64_eq hy
    cases hb : (Nat.blt 0 m && Nat.ble m 1000000) with
    | false => rw [hb] at h; cases h
    | true =>
      rw [hb, cond_true] at h
      rw [Bool.and_eq_true] at hb
      have b1 : 0 < m := Nat.le_of_ble_eq_true hb.1
      have b2 := Nat.le_of_ble_eq_true hb.2
      refine ⟨_, st, h, fun W R ρ args' w l hl hG hs => ?_⟩
      have hsz : args'.size = 2 := by have := hl.1; simpa using this.symm
      have h1 : VR ρ x.toV args'[0] := hl.2 0 _ _ rfl (by rw [Array.getElem?_toList, Array.getElem?_eq_getElem (by omega)])
      have h2 : VR ρ y.toV args'[1] := hl.2 1 _ _ rfl (by rw [Array.getElem?_toList, Array.getElem?_eq_getElem (by omega)])
      rw [hy] at h2
      have h2 : VR ρ (.int .i64 (m : Int)) args'[1] := h2
      obtain ⟨n, hn, hw⟩ := unkI64_real ha h1
      have e : args' = #[.int .i64 n, .int .i64 (m : Int)] := by
        apply Array.ext
        · simpa using hsz
        · intro i h3 h4
          have : i = 0 ∨ i = 1 := by omega
          rcases this with rfl | rfl
          · exact hn
          · exact h2.plain_eq rfl
      subst e
      obtain ⟨w1, w2⟩ := wrap64_range hw
      refine Calls.mono (MPlace_any n m w w1 w2 (by omega) (by omega)) fun e w' hh => ?_
      obtain ⟨rfl, rfl⟩ := hh
      have g0 : 0 ≤ n % (m : Int) := Int.emod_nonneg _ (by omega)
      have g1 : n % (m : Int) < m := Int.emod_lt_of_pos _ (by omega)
      have hw2 : IntKind.i64.wrap (n % (m : Int)) = n % (m : Int) := by
        simp only [IntKind.wrap, IntKind.bits, IntKind.signed]
        simp
        omega
      have key : VR ρ (ofIv (kidx .i64) 0 (Int.ofNat (Nat.sub m 1))).toV (.int .i64 (n % (m : Int))) := ofIv_rel g0 (by
        show n % (m : Int) ≤ ((m - 1 : Nat) : Int)
        omega) (.inr ⟨rfl, hw2⟩)
      rw [show kidx .i64 = 3 from rfl] at key
      exact ⟨ρ, _, l, rfl, .refl _, sc_rel key, hs⟩
end
section
open Go
noncomputable def look {α : Type} (l : List (FuncId × α)) : FuncId → Option α := List.rec (motive := fun _ => FuncId → Option α) (fun _ => none) (fun q _ ih f => cond (Nat.beq f q.1) (some q.2) (ih f)) l
theorem look_ok {α : Type} {Q : FuncId → α → Prop} : ∀ {l : List (FuncId × α)}, (∀ q ∈ l, Q q.1 q.2) → ∀ f h, look l f = some h → Q f h
  | [], _, f, h, hh => by cases hh
  | q :: l, hl, f, h, hh => by
    have hh : cond (Nat.beq f q.1) (some q.2) (look l f) = some h := hh
    cases hb : Nat.beq f q.1 with
    | true =>
      rw [hb, cond_true] at hh
      cases hh
      rw [Nat.eq_of_beq_eq_true hb]
      exact hl q (by simp)
    | false =>
      rw [hb, cond_false] at hh
      exact look_ok (fun q hq => hl q (by simp [hq])) f h hh
/-- The same functions where both ways of a test are taken. -/
def liftP (h : FnC) : FnP := fun F _ args st k => h F args st k
theorem liftP_ok {P : Program} {G : Nat} {f : FuncId} {h : FnC} (hh : FnOk P G f h) : FnOkP P G f (liftP h) := hh.p
/-- These blocks go on as they are. -/
noncomputable def keepL (names : List Nat) (H : Heap) : List (Nat × O2) := List.rec (motive := fun _ => List (Nat × O2)) [] (fun i _ ih => (i, get H i) :: ih) names
noncomputable def anyI64 : V := .oth (.float .f64 3)
end
section
open Go Go.RowKit Go.BigFrame
noncomputable def clsK (hN : NoNum Tryz.prog) (D : Nat) : Cls Tryz.prog 0 D := fastCls Tryz.prog hN 0 D
noncomputable def drK (N D : Nat) (c : Cls Tryz.prog 0 D) (ops : Array Oper) : Box (ListC D) := drawC N D c ops
noncomputable def fnK (hN : NoNum Tryz.prog) (f : FuncId) : FnC := (fnC Tryz.prog 0 200 (clsK hN) drK f).f
noncomputable def fnKP (hN : NoNum Tryz.prog) (f : FuncId) : FnP := (fnP Tryz.prog 0 200 (clsK hN) drK f).f
noncomputable def hook0 (hN : NoNum Tryz.prog) : List (FuncId × FnC) := [(14, placeU (fnK hN 14))]
noncomputable def run0 (hN : NoNum Tryz.prog) : Fns := runF Tryz.prog hN 0 200 (look (hook0 hN)) 40
/-- Place: all ways where the size is six; else a natural below the size. -/
noncomputable def place6 (hN : NoNum Tryz.prog) : FnP := fun F Fp args st k => match args with
  | [x, .sc (.int .i64 6)] => placeP (liftP (placeU (fnK hN 14))) F Fp [x, .sc (.int .i64 6)] st k
  | args => liftP (placeU (fnK hN 14)) F Fp args st k
noncomputable def run0P (hN : NoNum Tryz.prog) : Fns := runP Tryz.prog hN 0 200 (run0 hN) (look [(14, place6 hN)]) 40
/-- A call of which nothing is known but that it is made of ints; keep: the blocks that go on, beside the newest. -/
noncomputable def guessCall (n : Nat) (keep : List Nat) : Guess := fun _ st => some (.agg (List.replicate n anyI64), keepL (Nat.sub st.n 1 :: keep) st.H, Nat.add st.n 60)
noncomputable def callK (hN : NoNum Tryz.prog) (n : Nat) (keep : List Nat) : FnC := mergeU (guessCall n keep) (run0P hN) (fnKP hN 7)
section
variable (hN : NoNum Tryz.prog) (hmix : Tryz.prog.follows .mixedOrders = true)
include hmix
theorem fnK_ok (f : FuncId) : FnOk Tryz.prog 0 f (fnK hN f) := fnC_ok (clsK hN) (fun _ _ hND c ops => drawC_ok hmix hND c ops) f
theorem fnKP_ok (f : FuncId) : FnOkP Tryz.prog 0 f (fnKP hN f) := fnP_ok hN (clsK hN) (fun _ _ hND c ops => drawC_ok hmix hND c ops) f
theorem hook0_ok : ∀ q ∈ hook0 hN, FnOk Tryz.prog 0 q.1 q.2 := by
  intro q hq
  unfold hook0 at hq
  rw [List.mem_singleton] at hq
  subst hq
  exact placeU_ok (fnK_ok hN hmix _)
theorem run0_ok : FnsOk Tryz.prog 0 (run0 hN) := runF_ok hN hmix (look_ok (hook0_ok hN hmix)) 40
theorem place6_ok : FnOkP Tryz.prog 0 14 (place6 hN) := by
  have h1 := liftP_ok (placeU_ok (fnK_ok hN hmix 14))
  intro F Fp args st k hF hFp h
  unfold place6 at h
  split at h
  · exact placeP_ok h1 F Fp _ st k hF hFp h
  · exact h1 F Fp _ st k hF hFp h
theorem run0P_ok : FnsOkP Tryz.prog 0 (run0P hN) := runP_ok hN hmix (run0_ok hN hmix) (look_ok (fun q hq => by
  rw [List.mem_singleton] at hq
  subst hq
  exact place6_ok hN hmix)) 40
theorem callK_ok (n : Nat) (keep : List Nat) : FnOk Tryz.prog 0 7 (callK hN n keep) := mergeU_ok (fnKP_ok hN hmix _) (run0P_ok hN hmix) _
end
end
end Go.Proofs.YtphocbncjanohaaGreat
