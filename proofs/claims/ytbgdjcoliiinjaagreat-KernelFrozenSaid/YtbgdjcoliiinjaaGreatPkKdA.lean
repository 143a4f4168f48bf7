/- Merged: KD0, KD1, KD2, KD8a. -/
import Derived.Test.YtbgdjcoliiinjaaGreatPkEngJ
import Derived.Test.YtbgdjcoliiinjaaGreatProg
import Derived.Test.YtbgdjcoliiinjaaGreatPkClusG
set_option linter.unusedVariables false
set_option linter.unusedSimpArgs false
set_option linter.unusedSectionVars false
namespace Go.Proofs.YtbgdjcoliiinjaaGreat
section
open Go Go.RowKit Go.BigFrame
set_option maxRecDepth 100000
theorem hN : NoNum Tryz.prog := noNum_of (by kernel_rfl)
theorem hmix : Tryz.prog.follows .mixedOrders = true := by kernel_rfl
noncomputable def clsK (D : Nat) : Cls Tryz.prog 0 D := fastCls Tryz.prog hN 0 D
noncomputable def drK (N D : Nat) (c : Cls Tryz.prog 0 D) (ops : Array Oper) : Box (ListC D) := drawC N D c ops
noncomputable def fnK (f : FuncId) : FnC := (fnC Tryz.prog 0 200 clsK drK f).f
noncomputable def fnKP (f : FuncId) : FnP := (fnP Tryz.prog 0 200 clsK drK f).f
theorem fnK_ok (f : FuncId) : FnOk Tryz.prog 0 f (fnK f) := fnC_ok clsK (fun _ _ hND c ops => drawC_ok hmix hND c ops) f
theorem fnKP_ok (f : FuncId) : FnOkP Tryz.prog 0 f (fnKP f) := fnP_ok hN hmix clsK (fun _ _ hND c ops => drawC_ok hmix hND c ops) f
def QOne (r : FuncId × (List X → Option (List X × List X))) : Prop := ∀ args xs ys, r.2 args = some (xs, ys) → DC Tryz.prog r.1 xs ys ∧ xs.all datX = true ∧ ys.all (fun y => flatX y && noCons y) = true
/-- What stands in: in drawn regions; where ways part; in drawn regions with guards. -/
structure Hooks where
  u : List (FuncId × FnC)
  p : List (FuncId × FnP)
  q : List (FuncId × (List X → Option (List X × List X)))
  hu : ∀ r ∈ u, FnOk Tryz.prog 0 r.1 r.2
  hp : ∀ r ∈ p, FnOkP Tryz.prog 0 r.1 r.2
  hq : ∀ r ∈ q, QOne r
noncomputable def runU (h : Hooks) : Fns := runF Tryz.prog hN 0 200 (look h.u) 40
theorem Hooks.qf_ok (h : Hooks) : QFOk Tryz.prog (look h.q) := fun f g hg => look_ok (Q := fun f (g : List X → Option (List X × List X)) => QOne (f, g)) h.hq f g hg
noncomputable def runD (h : Hooks) : Fns := runPQ Tryz.prog hN (look h.q) 0 200 (runU h) (look h.p) 40
theorem runD_ok (h : Hooks) : FnsOkP Tryz.prog 0 (runD h) := runPQ_ok hN hmix h.qf_ok (runF_ok hN hmix (look_ok h.hu) 40) (look_ok h.hp) 40
theorem cons_ok {α : Type} {Q : α → Prop} {a : α} {l : List α} (ha : Q a) (hl : ∀ q ∈ l, Q q) : ∀ q ∈ a :: l, Q q := fun q hq => by
  rcases List.mem_cons.1 hq with rfl | hq
  · exact ha
  · exact hl q hq
noncomputable def Hooks.addU (h : Hooks) (f : FuncId) (c : FnC) (hc : FnOk Tryz.prog 0 f c) : Hooks := ⟨(f, c) :: h.u, (f, liftP c) :: h.p, h.q, cons_ok hc h.hu, cons_ok (liftP_ok hc) h.hp, h.hq⟩
noncomputable def Hooks.addP (h : Hooks) (f : FuncId) (c : FnP) (hc : FnOkP Tryz.prog 0 f c) : Hooks := ⟨h.u, (f, c) :: h.p, h.q, h.hu, cons_ok hc h.hp, h.hq⟩
/-- A function that makes one kind of data. -/
noncomputable def Hooks.addD (h : Hooks) (f : FuncId) (xs : List X) (y : X) (hc : DC Tryz.prog f xs [y]) (hd : xs.all datX = true) : Hooks := h.addU f (dcU xs y) (dcU_ok hc hd)
/-- .. that is flat: in drawn regions with guards too. -/
noncomputable def Hooks.addF (h : Hooks) (f : FuncId) (xs : List X) (y : X) (hc : DC Tryz.prog f xs [y]) (hd : xs.all datX = true) (hy : (flatX y && noCons y) = true) : Hooks :=
  ⟨(f, dcU xs y) :: h.u, (f, liftP (dcU xs y)) :: h.p, (f, fun _ => some (xs, [y])) :: h.q, cons_ok (dcU_ok hc hd) h.hu, cons_ok (liftP_ok (dcU_ok hc hd)) h.hp, cons_ok (Q := QOne) (fun args xs' ys' h' => by
    cases h'
    exact ⟨hc, hd, by rw [List.all_cons, hy]; rfl⟩) h.hq⟩
/-- .. of many lengths. -/
noncomputable def Hooks.addFam (h : Hooks) (f : FuncId) (g : List X → Option (List X × X)) (hc : ∀ args xs y, g args = some (xs, y) → DC Tryz.prog f xs [y] ∧ xs.all datX = true ∧ (flatX y && noCons y) = true) : Hooks :=
  ⟨(f, famU g) :: h.u, (f, liftP (famU g)) :: h.p, (f, fun args => (g args).map fun r => (r.1, [r.2])) :: h.q, cons_ok (famU_ok fun a x y e => ⟨(hc a x y e).1, (hc a x y e).2.1⟩) h.hu, cons_ok (liftP_ok (famU_ok fun a x y e => ⟨(hc a x y e).1, (hc a x y e).2.1⟩)) h.hp, cons_ok (Q := QOne) (fun args xs' ys' h' => by
    simp only [Option.map_eq_some_iff] at h'
    obtain ⟨⟨x, y⟩, hg, e⟩ := h'
    cases e
    have r := hc args x y hg
    exact ⟨r.1, r.2.1, by rw [List.all_cons, r.2.2]; rfl⟩) h.hq⟩
/-- .. at the P-level alone, with alternatives. -/
noncomputable def Hooks.addPF (h : Hooks) (f : FuncId) (g : List X → Option (List X × List X)) (hc : ∀ args xs ys, g args = some (xs, ys) → DC Tryz.prog f xs ys ∧ xs.all datX = true) : Hooks := h.addP f (famP g) (famP_ok hc)
/-- A natural within bounds: each of them. -/
def rngI (x : X) : Option (Nat × Nat) := match x with
  | .sc (.oth (.complex .f64 a b)) => cond (Nat.beq (a % 8) 3) (some (a / 8, b)) none
  | _ => none
noncomputable def waysX (mx : Nat) (x : X) (k : X → Bool) : Bool := match rngI x with
  | some (lo, hi) => cond (Nat.ble (Nat.sub hi lo) mx) (Nat.rec (motive := fun _ => Bool) true (fun i ih => cond ih (k (.sc (.int .i64 (Nat.add lo i)))) false) (Nat.add (Nat.sub hi lo) 1)) (k x)
  | none => k x
theorem waysX_ok {mx : Nat} {x : X} {k : X → Bool} (h : waysX mx x k = true) {ρ : Names} {v : Value} (hr : VR ρ x.toV v) : ∃ x', k x' = true ∧ VR ρ x'.toV v := by
  unfold waysX at h
  split at h
  · rename_i lo hi hx
    cases hb : Nat.ble (Nat.sub hi lo) mx with
    | false => rw [hb] at h; exact ⟨x, h, hr⟩
    | true =>
      rw [hb, cond_true] at h
      unfold rngI at hx
      split at hx
      · rename_i a b
        cases h3 : Nat.beq (a % 8) 3 with
        | false => rw [h3] at hx; cases hx
        | true =>
          rw [h3, cond_true] at hx
          cases hx
          have h3 := Nat.eq_of_beq_eq_true h3
          have hr : VR ρ (.complex .f64 a hi) v := hr
          cases hr with
          | @rng t a' b' n h1 h2 hw =>
            have ht := kidx_lt t
            have : t = .i64 := kidx_inj (by show kidx t = 3; omega)
            subst this
            have e : (a' * 8 + kidx .i64) / 8 = a' := by show (a' * 8 + 3) / 8 = a'; omega
            rw [e] at h
            have hk := rec_all (f := fun i => k (.sc (.int .i64 (Nat.add a' i)))) h (n - a') (by show n - a' < (hi - a') + 1; omega)
            refine ⟨_, hk, ?_⟩
            have e2 : Nat.add a' (n - a') = n := by show a' + (n - a') = n; omega
            rw [e2]
            exact .int .i64 n
      · cases hx
  · exact ⟨x, h, hr⟩
noncomputable def waysP (mx : Nat) (f : FnP) : FnP := fun F Fp args st k => f F Fp args st fun x st' => waysX mx x fun x' => k x' st'
theorem waysP_ok {P : Program} {G mx : Nat} {f : FuncId} {h : FnP} (hh : FnOkP P G f h) : FnOkP P G f (waysP mx h) := fun F Fp args st k hF hFp hf W R ρ args' w l hl hG hs => by
  refine Calls.mono (hh F Fp args st _ hF hFp hf W R ρ args' w l hl hG hs) fun e w' ⟨x, st', ρ', v', l', hk, he, hle, hv, hs'⟩ => ?_
  obtain ⟨x', hk', hv'⟩ := waysX_ok hk hv
  exact ⟨x', st', ρ', v', l', hk', he, hle, hv', hs'⟩
/-- All numbers below n. -/
noncomputable def allUp (n : Nat) (f : Nat → Bool) : Bool := Nat.rec (motive := fun _ => Bool) true (fun i ih => cond ih (f i) false) n
theorem allUp_get {n : Nat} {f : Nat → Bool} (h : allUp n f = true) (i : Nat) (hi : i < n) : f i = true := rec_all h i hi
/-- How many rows a slice has. -/
def rowsOf (j : Nat) (x : X) : Option Nat := match x with
  | .sc (.oth (.slice none 0 _)) => some 0
  | .sc (.oth (.complex .f32 a n)) => cond (Nat.beq a (j * 8 + 6)) (some n) none
  | _ => none
noncomputable def noHooks : Hooks := ⟨[], [], [], (fun _ h => by cases h), (fun _ h => by cases h), (fun _ h => by cases h)⟩
noncomputable def hk0 : Hooks := noHooks.addU 15 (placeU (fnK 15)) (placeU_ok (fnK_ok _))
/-- What is known of values. -/
def aI : V := .oth (.float .f64 3)
def aB : V := .oth (.complex .f32 5 0)
def nat (lo hi : Nat) : V := .oth (.complex .f64 (lo * 8 + 3) hi)
def xI : X := .sc aI
def xB : X := .sc aB
def xNat (lo hi : Nat) : X := .sc (nat lo hi)
def m1 : X := .sc (.neg .i64 0)
def ints (n : Nat) : List V := List.replicate n aI
def xId : X := .agg (ints 3)
def xCap : X := .agg [aI, aI, aI, aI, aI, aI, aB]
def pathU : V := .oth (.complex .f32 (1 * 8 + 7) 8)
def xNode : X := .agg [aI, aI, aI, pathU, aI, aI, aI, aI, aI, aI, aB]
def xEnt : X := .agg [aI, aI, aI, aI, aI, pathU, aI, aI, aI, aI, aI, aI, aB]
theorem dc_run (h : Hooks) {f : FuncId} {xs ys : List X} (hr : splitXs xs (fun xs' => runD h f xs' st0 (outD ys)) = true) (hd : ys.all datX = true) : DC Tryz.prog f xs ys := dc_of (runD_ok h) hr hd
theorem dc_run0 (h : Hooks) {f : FuncId} {xs ys : List X} (hr : runD h f xs st0 (outD ys) = true) (hd : ys.all datX = true) : DC Tryz.prog f xs ys := dc_of0 (runD_ok h) hr hd
end
section
open Go Go.RowKit Go.BigFrame
set_option maxRecDepth 100000
def xR : X := .agg [aI, aI]
theorem DR_int {z : Nat → Option Obj} {v : Value} (h : VR (dn z) aI.toV v) : ∃ m : Int, v = .int .i64 m ∧ IntKind.i64.wrap m = m := by
  have h : VR (dn z) (.float .f64 3) v := h
  generalize hq : (3 : Nat) = t at h
  cases h with
  | @anyI k n hw =>
    have : k = .i64 := kidx_inj (by rw [← hq]; rfl)
    subst this
    exact ⟨n, rfl, hw⟩
theorem aI_DR {z : Nat → Option Obj} {m : Int} (h : IntKind.i64.wrap m = m) : VR (dn z) aI.toV (.int .i64 m) := .anyI (k := .i64) h
theorem DR_agg {z : Nat → Option Obj} {l : List V} {v : Value} (h : DR z (.agg l) v) : ∃ a : Array Value, v = .agg a ∧ LR (dn z) (l.map V.toV) a.toList := by
  have h : VR (dn z) (.agg (l.map V.toV).toArray) v := h
  cases h with
  | @agg _ a h1 h2 => exact ⟨a, rfl, by simpa using h1, fun i x y hx hy => h2 i x y (by simpa using hx) (by simpa using hy)⟩
theorem DR_xR {z : Nat → Option Obj} {v : Value} (h : DR z xR v) : ∃ b k : Int, v = .agg #[.int .i64 b, .int .i64 k] ∧ I64 b ∧ I64 k := by
  obtain ⟨a, rfl, hl⟩ := DR_agg h
  obtain ⟨l⟩ := a
  match l, hl with
  | [x, y], hl =>
    obtain ⟨b, rfl, hb⟩ := DR_int (hl.2 0 _ _ rfl rfl)
    obtain ⟨k, rfl, hk⟩ := DR_int (hl.2 1 _ _ rfl rfl)
    exact ⟨b, k, rfl, wrap64_range hb, wrap64_range hk⟩
  | [], hl => have := hl.1; simp at this
  | [_], hl => have := hl.1; simp at this
  | _ :: _ :: _ :: _, hl => have := hl.1; simp at this
theorem args1 {z : Nat → Option Obj} {x : X} {args : Array Value} (h : DL z [x] args.toList) : ∃ v, args = #[v] ∧ DR z x v := by
  obtain ⟨l⟩ := args
  match l, h with
  | [v], h => exact ⟨v, rfl, h.2 0 _ _ rfl rfl⟩
  | [], h => have := h.1; simp at this
  | _ :: _ :: _, h => have := h.1; simp at this
theorem args2 {z : Nat → Option Obj} {x y : X} {args : Array Value} (h : DL z [x, y] args.toList) : ∃ v u, args = #[v, u] ∧ DR z x v ∧ DR z y u := by
  obtain ⟨l⟩ := args
  match l, h with
  | [v, u], h => exact ⟨v, u, rfl, h.2 0 _ _ rfl rfl, h.2 1 _ _ rfl rfl⟩
  | [], h => have := h.1; simp at this
  | [_], h => have := h.1; simp at this
  | _ :: _ :: _ :: _, h => have := h.1; simp at this
theorem dcValidRange : DC Tryz.prog 74 [xR] [xB] := fun z w args _ hd => by
  obtain ⟨v, rfl, hv⟩ := args1 hd
  obtain ⟨b, k, rfl, hb, hk⟩ := DR_xR hv
  exact (RValid_any b k hb hk w).mono fun e w' ⟨he, hbl⟩ => ⟨_, xB, List.mem_singleton.2 rfl, he, .anyB _, hbl⟩
theorem dcEnd : DC Tryz.prog 75 [xR] [xI] := fun z w args _ hd => by
  obtain ⟨v, rfl, hv⟩ := args1 hd
  obtain ⟨b, k, rfl, hb, hk⟩ := DR_xR hv
  refine (REnd_any b k hb hk w).mono fun e w' ⟨he, hbl⟩ => ⟨_, xI, List.mem_singleton.2 rfl, he, aI_DR ?_, hbl⟩
  unfold endB
  split
  · rename_i h
    have := okB_lim h
    have := p2_pos k
    simp only [IntKind.wrap, IntKind.bits, IntKind.signed]
    simp
    omega
  · rfl
theorem dcOverlaps : DC Tryz.prog 152 [xR, xR] [xB] := fun z w args _ hd => by
  obtain ⟨v, u, rfl, hv, hu⟩ := args2 hd
  obtain ⟨a, j, rfl, ha, hj⟩ := DR_xR hv
  obtain ⟨b, k, rfl, hb, hk⟩ := DR_xR hu
  exact (ROvl_any a j b k ha hj hb hk w).mono fun e w' ⟨he, hbl⟩ => ⟨_, xB, List.mem_singleton.2 rfl, he, .anyB _, hbl⟩
noncomputable def hk1 : Hooks := ((hk0.addF 74 [xR] xB dcValidRange rfl rfl).addF 75 [xR] xI dcEnd rfl rfl).addF 152 [xR, xR] xB dcOverlaps rfl rfl
theorem rContains : splitXs [xR, xR] (fun xs' => runD hk1 28 xs' st0 (outD [xB])) = true := by kernel_rfl
theorem dcContains : DC Tryz.prog 28 [xR, xR] [xB] := dc_run hk1 rContains rfl
theorem rValidId : splitXs [xId] (fun xs' => runD hk1 189 xs' st0 (outD [xB])) = true := by kernel_rfl
theorem dcValidId : DC Tryz.prog 189 [xId] [xB] := dc_run hk1 rValidId rfl
theorem rLess : splitXs [xId, xId] (fun xs' => runD hk1 69 xs' st0 (outD [xB])) = true := by kernel_rfl
theorem dcLess : DC Tryz.prog 69 [xId, xId] [xB] := dc_run hk1 rLess rfl
theorem rValidCap : splitXs [xCap] (fun xs' => runD hk1 185 xs' st0 (outD [xB])) = true := by kernel_rfl
theorem dcValidCap : DC Tryz.prog 185 [xCap] [xB] := dc_run hk1 rValidCap rfl
theorem rHasId : splitXs [.sc pathU, xId] (fun xs' => runD hk1 107 xs' st0 (outD [xB])) = true := by kernel_rfl
theorem dcHasId : DC Tryz.prog 107 [.sc pathU, xId] [xB] := dc_run hk1 rHasId rfl
theorem rCopyIds : splitXs [.sc pathU] (fun xs' => runD hk1 67 xs' st0 (outD [.sc pathU])) = true := by kernel_rfl
theorem dcCopyIds : DC Tryz.prog 67 [.sc pathU] [.sc pathU] := dc_run hk1 rCopyIds rfl
theorem rCopyNode : splitXs [xNode] (fun xs' => runD (hk1.addD 67 [.sc pathU] (.sc pathU) dcCopyIds rfl) 48 xs' st0 (outD [xNode])) = true := by kernel_rfl
theorem dcCopyNode : DC Tryz.prog 48 [xNode] [xNode] := dc_run (hk1.addD 67 [.sc pathU] (.sc pathU) dcCopyIds rfl) rCopyNode rfl
end
section
open Go Go.RowKit Go.BigFrame
set_option maxRecDepth 100000
noncomputable def hk2 : Hooks := ((((((hk1.addF 28 [xR, xR] xB dcContains rfl rfl).addF 189 [xId] xB dcValidId rfl rfl).addF 69 [xId, xId] xB dcLess rfl rfl).addF 185 [xCap] xB dcValidCap rfl rfl).addF 107 [.sc pathU, xId] xB dcHasId rfl rfl).addD 67 [.sc pathU] (.sc pathU) dcCopyIds rfl).addD 48 [xNode] xNode dcCopyNode rfl
theorem rValidNode : splitXs [xNode] (fun xs' => runD hk2 188 xs' st0 (outD [xB])) = true := by kernel_rfl
theorem dcValidNode : DC Tryz.prog 188 [xNode] [xB] := dc_run hk2 rValidNode rfl
/-! ### Children -/
noncomputable def hk2c : Hooks := (((((hk1.addF 28 [xR, xR] xB dcContains rfl rfl).addF 189 [xId] xB dcValidId rfl rfl).addF 69 [xId, xId] xB dcLess rfl rfl).addF 185 [xCap] xB dcValidCap rfl rfl).addF 107 [.sc pathU, xId] xB dcHasId rfl rfl).addF 188 [xNode] xB dcValidNode rfl rfl
theorem rChild : splitXs [xNode, xId, xCap] (fun xs' => runD hk2c 114 xs' st0 (outD [.cons xNode (.cons xI .nil)])) = true := by kernel_rfl
theorem dcChild : DC Tryz.prog 114 [xNode, xId, xCap] [.cons xNode (.cons xI .nil)] := dc_run hk2c rChild rfl
/-! ### What is found -/
def xL (n : Nat) : X := bslX 3 n
theorem rFind : allUp 28 (fun L => splitXs [xL L, xId] fun xs' => runD hk2 184 xs' st0 (outD [m1, xNat 0 (L - 1)])) = true := by kernel_rfl
theorem dcFind (L : Nat) (h : L < 28) : DC Tryz.prog 184 [xL L, xId] [m1, xNat 0 (L - 1)] := dc_run hk2 (allUp_get rFind L h) rfl
theorem rAt : allUp 28 (fun L => splitXs [xL L, xI, xI] fun xs' => runD hk2 249 xs' st0 (outD [m1, xNat 0 (L - 1)])) = true := by kernel_rfl
theorem dcAt (L : Nat) (h : L < 28) : DC Tryz.prog 249 [xL L, xI, xI] [m1, xNat 0 (L - 1)] := dc_run hk2 (allUp_get rAt L h) rfl
theorem rRange : splitXs [xCap] (fun xs' => runD hk2 29 xs' st0 (outD [xR])) = true := by kernel_rfl
theorem dcRange : DC Tryz.prog 29 [xCap] [xR] := dc_run hk2 rRange rfl
theorem rAtt : splitXs [xCap, xNat 0 7] (fun xs' => runD hk2 112 xs' st0 (outD [xCap])) = true := by kernel_rfl
theorem dcAtt : DC Tryz.prog 112 [xCap, xNat 0 7] [xCap] := dc_run hk2 rAtt rfl
noncomputable def hkS : Hooks := hk2.addP 15 (waysP 11 (liftP (placeU (fnK 15)))) (waysP_ok (liftP_ok (placeU_ok (fnK_ok _))))
theorem rUnt : splitXs [xI, xI] (fun xs' => runD hkS 109 xs' st0 (outD [xCap])) = true := by kernel_rfl
theorem dcUnt : DC Tryz.prog 109 [xI, xI] [xCap] := dc_run hkS rUnt rfl
def xRt : X := .cons (.sc (.oth (.complex .f32 47 3))) (.cons xI .nil)
end
section
open Go Go.RowKit Go.BigFrame
set_option maxRecDepth 100000
def xSteps (mx : Nat) : X := .sc (.oth (.complex .f32 39 mx))
def xForest : X := .sc (.oth (.complex .f32 31 26))
theorem DR_bslU {z : Nat → Option Obj} {j mx : Nat} {v : Value} (h : DR z (.sc (.oth (.complex .f32 (j * 8 + 7) mx))) v) : ∃ n, n ≤ mx ∧ BS z j n v := by
  have h : VR (dn z) (.complex .f32 (j * 8 + 7) mx) v := h
  generalize ha : j * 8 + 7 = t at h
  generalize hb : mx = u at h
  cases h with
  | any hs => omega
  | @bslU j' mx' n _ hh hn =>
    have : j' = j := by omega
    subst this
    exact ⟨n, hn, hh⟩
  | _ => omega
theorem DR_bsl {z : Nat → Option Obj} {j n : Nat} {v : Value} (h : DR z (bslX j n) v) : BS z j n v := by
  have h : VR (dn z) (.complex .f32 (j * 8 + 6) n) v := h
  generalize ha : j * 8 + 6 = t at h
  generalize hb : n = u at h
  cases h with
  | any hs => omega
  | @bsl j' n' _ hh =>
    have : j' = j := by omega
    subst this
    exact hh
  | _ => omega
end
end Go.Proofs.YtbgdjcoliiinjaaGreat
