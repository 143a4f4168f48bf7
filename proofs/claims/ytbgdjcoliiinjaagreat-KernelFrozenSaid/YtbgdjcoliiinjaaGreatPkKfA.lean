/- Merged: KF0, KF1, KF3. -/
import Derived.Test.YtbgdjcoliiinjaaGreatPkKdD
import Derived.Test.YtbgdjcoliiinjaaGreatPkEngK
set_option linter.unusedVariables false
set_option linter.unusedSimpArgs false
set_option linter.unusedSectionVars false
namespace Go.Proofs.YtbgdjcoliiinjaaGreat
section
open Go Go.RowKit Go.BigFrame
set_option maxRecDepth 100000
/-! ### One or the other -/
noncomputable def altP (c : List X → St → Bool) (a b : FnP) : FnP := fun F Fp args st k => cond (c args st) (a F Fp args st k) (b F Fp args st k)
theorem altP_ok {P : Program} {G : Nat} {f : FuncId} {c : List X → St → Bool} {a b : FnP} (ha : FnOkP P G f a) (hb : FnOkP P G f b) : FnOkP P G f (altP c a b) := by
  intro F Fp args st k hF hFp h
  unfold altP at h
  cases hc : c args st with
  | true => rw [hc] at h; exact ha F Fp args st k hF hFp h
  | false => rw [hc] at h; exact hb F Fp args st k hF hFp h
/-! ### Unknown cells of a struct parted -/
noncomputable def waysL (js : List Nat) (l : List V) (k : List V → Bool) : Bool := List.rec (motive := fun _ => List V → Bool) (fun l => k l) (fun j _ ih l => match l[j]? with
  | some v => waysX 11 (.sc v) fun x => match x with
    | .sc v' => ih (l.set j v')
    | _ => false
  | none => ih l) js l
theorem waysL_ok {k : List V → Bool} {ρ : Names} : ∀ {js : List Nat} {l : List V} {vs : List Value}, waysL js l k = true → LR ρ (l.map V.toV) vs → ∃ l', k l' = true ∧ LR ρ (l'.map V.toV) vs
  | [], l, vs, h, hr => ⟨l, h, hr⟩
  | j :: js, l, vs, h, hr => by
    have h : (match l[j]? with
      | some v => waysX 11 (.sc v) fun x => match x with
        | .sc v' => waysL js (l.set j v') k
        | _ => false
      | none => waysL js l k) = true := h
    cases hj : l[j]? with
    | none => rw [hj] at h; exact waysL_ok h hr
    | some v =>
      rw [hj] at h
      have hlt : j < l.length := (List.getElem?_eq_some_iff.1 hj).1
      have hlt2 : j < vs.length := by have := hr.1; simp at this; omega
      have hv : VR ρ (X.sc v).toV vs[j] := hr.2 j _ _ (by rw [List.getElem?_map, hj]; rfl) (List.getElem?_eq_getElem hlt2)
      obtain ⟨x', hx, hvx⟩ := waysX_ok h hv
      cases x' with
      | sc v' =>
        refine waysL_ok (l := l.set j v') hx ⟨by simpa using hr.1, fun i a b ha hb => ?_⟩
        rw [List.getElem?_map, List.getElem?_set] at ha
        by_cases e : j = i
        · subst e
          rw [if_pos rfl, if_pos hlt] at ha
          cases ha
          rw [List.getElem?_eq_getElem hlt2] at hb
          cases hb
          exact hvx
        · rw [if_neg e] at ha
          exact hr.2 i a b (by rw [List.getElem?_map]; exact ha) hb
      | _ => cases hx
/-- The second argument's cells parted. -/
noncomputable def partA (js : List V → List Nat) (body : FnP) : FnP := fun F Fp args st k => match args with
  | [p, c] => match aggL c with
    | some l => waysL (js l) l fun l' => body F Fp [p, .agg l'] st k
    | none => false
  | _ => false
theorem partA_ok {P : Program} {G : Nat} {f : FuncId} {js : List V → List Nat} {body : FnP} (hb : FnOkP P G f body) : FnOkP P G f (partA js body) := by
  intro F Fp args st k hF hFp h W R ρ args' w l hl hG hs
  unfold partA at h
  split at h
  · rename_i p c
    split at h
    · rename_i lc hlc
      obtain ⟨vs⟩ := args'
      match vs, hl with
      | [a, b], hl =>
        have h1 : VR ρ p.toV a := hl.2 0 _ _ rfl rfl
        have h2 : VR ρ c.toV b := hl.2 1 _ _ rfl rfl
        rw [aggL_toV hlc] at h2
        cases h2 with
        | @agg _ cs q1 q2 =>
          obtain ⟨l', hk, hl'⟩ := waysL_ok h (vs := cs.toList) ⟨by simpa using q1, fun i x y hx hy => q2 i x y (by simpa using hx) (by simpa using hy)⟩
          refine hb F Fp [p, .agg l'] st k hF hFp hk W R ρ _ w l ⟨rfl, fun i x y hx hy => ?_⟩ hG hs
          match i, hx, hy with
          | 0, hx, hy => cases hx; cases hy; exact h1
          | 1, hx, hy => cases hx; cases hy; have q := hl'.array; exact VR.agg q.1 q.2
          | i + 2, hx, hy => cases hx
      | [], hl => have := hl.1; simp at this
      | [_], hl => have := hl.1; simp at this
      | _ :: _ :: _ :: _, hl => have := hl.1; simp at this
    · cases h
  · cases h
/-! ### What stands in -/
noncomputable def Hooks.addK (h : Hooks) (f : FuncId) : Hooks := h.addP f (liftP (fnK f)) (liftP_ok (fnK_ok f))
/-- Place of what is known by its remainder: that. -/
noncomputable def placeD (main : FnC) : FnC := fun F args st k => match args with
  | [x, y] => match litI64 y, modOf x with
    | some m, some (m', r) => cond (Nat.beq m m' && (Nat.blt 0 m && Nat.ble m 1000000)) (k (.sc (.int .i64 r)) st) false
    | _, _ => main F args st k
  | _ => main F args st k
theorem placeD_ok {main : FnC} (hm : FnOk Tryz.prog 0 15 main) : FnOk Tryz.prog 0 15 (placeD main) := by
  intro F args st k hF h
  unfold placeD at h
  split at h
  case h_2 => exact hm F _ st k hF h
  rename_i x y
  split at h
  case h_2 => exact hm F _ st k hF h
  rename_i m m' r hy hx
  have hy := litI64_eq hy
  cases hb : (Nat.beq m m' && (Nat.blt 0 m && Nat.ble m 1000000)) with
  | false => rw [hb] at h; cases h
  | true =>
    rw [hb, cond_true] at h
    rw [Bool.and_eq_true, Bool.and_eq_true] at hb
    have e := Nat.eq_of_beq_eq_true hb.1
    have b1 : 0 < m := Nat.le_of_ble_eq_true hb.2.1
    have b2 := Nat.le_of_ble_eq_true hb.2.2
    subst e
    refine ⟨_, st, h, fun W R ρ args' w l hl hG hs => ?_⟩
    have hsz : args'.size = 2 := by have := hl.1; simpa using this.symm
    have h1 : VR ρ x.toV args'[0] := hl.2 0 _ _ rfl (by rw [Array.getElem?_toList, Array.getElem?_eq_getElem (by omega)])
    have h2 : VR ρ y.toV args'[1] := hl.2 1 _ _ rfl (by rw [Array.getElem?_toList, Array.getElem?_eq_getElem (by omega)])
    rw [hy] at h2
    have h2 : VR ρ (.int .i64 (m : Int)) args'[1] := h2
    obtain ⟨n, hn, hr, hw⟩ := modOf_real hx h1
    have e : args' = #[.int .i64 n, .int .i64 (m : Int)] := by
      apply Array.ext
      · simpa using hsz
      · intro i h3 h4
        have : i = 0 ∨ i = 1 := by omega
        rcases this with rfl | rfl
        · exact hn
        · exact h2.plain_eq rfl
    subst e
    obtain ⟨w1, w2⟩ := wrap64_range hw
    refine Calls.mono (MPlace_any n m w w1 w2 (by omega) (by omega)) fun e w' hh => ?_
    obtain ⟨rfl, rfl⟩ := hh
    exact ⟨ρ, _, l, rfl, .refl _, by rw [hr]; exact .int .i64 (r : Int), hs⟩
noncomputable def placeK : FnC := placeD (placeU (fnK 15))
theorem placeK_ok : FnOk Tryz.prog 0 15 placeK := placeD_ok (placeU_ok (fnK_ok _))
/-- The third argument's j-th cell parted by its remainder. -/
noncomputable def partC (j m : Nat) (body : FnP) : FnP := fun F Fp args st k => match args with
  | [a, b, c] => match aggL c with
    | some l => match l[j]? with
      | some v => cond (anyOf (.sc v)) (allB m fun r => body F Fp [a, b, .agg (l.set j (.oth (.complex .f32 (m * 8 + 4) r)))] st k) (body F Fp args st k)
      | none => body F Fp args st k
    | none => body F Fp args st k
  | _ => body F Fp args st k
theorem partC_ok {P : Program} {G : Nat} {f : FuncId} {j m : Nat} (hm : 0 < m) {body : FnP} (hb : FnOkP P G f body) : FnOkP P G f (partC j m body) := by
  intro F Fp args st k hF hFp h
  unfold partC at h
  split at h
  case h_2 => exact hb F Fp _ st k hF hFp h
  rename_i a b c
  split at h
  case h_2 => exact hb F Fp _ st k hF hFp h
  rename_i l hcl
  split at h
  case h_2 => exact hb F Fp _ st k hF hFp h
  rename_i v hjv
  cases ha : anyOf (.sc v) with
  | false => rw [ha] at h; exact hb F Fp _ st k hF hFp h
  | true =>
    rw [ha, cond_true] at h
    intro W R ρ args' w ll hl hG hs
    obtain ⟨vs⟩ := args'
    match vs, hl with
    | [x, y, z], hl =>
      have h1 : VR ρ a.toV x := hl.2 0 _ _ rfl rfl
      have h2 : VR ρ b.toV y := hl.2 1 _ _ rfl rfl
      have h3 : VR ρ c.toV z := hl.2 2 _ _ rfl rfl
      rw [aggL_toV hcl] at h3
      cases h3 with
      | @agg _ cs q1 q2 =>
        have q1 : l.length = cs.size := by simpa using q1
        have hlt : j < l.length := (List.getElem?_eq_some_iff.1 hjv).1
        have hv : VR ρ (X.sc v).toV cs[j] := q2 j _ _ (by rw [List.getElem?_toArray, List.getElem?_map, hjv]; rfl) (Array.getElem?_eq_getElem (by omega))
        obtain ⟨n, hn, hw⟩ := anyOf_real ha hv
        have g0 : 0 ≤ n % (m : Int) := Int.emod_nonneg _ (by omega)
        have g1 : n % (m : Int) < m := Int.emod_lt_of_pos _ (by omega)
        have hr := allB_at h (n % (m : Int)).toNat (by omega)
        refine hb F Fp _ st k hF hFp hr W R ρ _ w ll ⟨rfl, fun i x y hx hy => ?_⟩ hG hs
        match i, hx, hy with
        | 0, hx, hy => cases hx; cases hy; exact h1
        | 1, hx, hy => cases hx; cases hy; exact h2
        | 2, hx, hy =>
          cases hx; cases hy
          refine VR.agg (by simpa using q1) fun i x y hx hy => ?_
          rw [List.getElem?_toArray, List.getElem?_map, List.getElem?_set] at hx
          by_cases e : j = i
          · subst e
            rw [if_pos rfl, if_pos hlt] at hx
            cases hx
            rw [Array.getElem?_eq_getElem (by omega)] at hy
            cases hy
            rw [hn]
            exact .modI (m := m) (r := (n % (m : Int)).toNat) (by rw [Int.toNat_of_nonneg g0]) hw
          · rw [if_neg e] at hx
            exact q2 i x y (by rw [List.getElem?_toArray, List.getElem?_map]; exact hx) hy
        | i + 3, hx, hy => cases hx
    | [], hl => have := hl.1; simp at this
    | [_], hl => have := hl.1; simp at this
    | [_, _], hl => have := hl.1; simp at this
    | _ :: _ :: _ :: _ :: _, hl => have := hl.1; simp at this
noncomputable def cellsC (args : List X) : List V := match args with
  | [_, c] => (aggL c).getD []
  | _ => []
/-- The call's kind. -/
noncomputable def callKind (args : List X) : Nat := match cellsC args with
  | .int .i64 k :: _ => k
  | _ => 0
noncomputable def litSlot (args : List X) : Bool := match cellsC args with
  | _ :: .int .i64 _ :: _ => true
  | _ => false
/-- The number of the kernel's last operation. -/
noncomputable def opIs (n : Nat) (args : List X) (st : St) : Bool := match args with
  | .sc (.ptr kb _) :: _ => load1 st.H kb 6 (fun x => match x with
    | .sc (.int .i64 m) => Nat.beq m n
    | _ => false) false
  | _ => false
/-! ### Outcomes that come to one of several -/
abbrev Guesses := List X → St → List (X × List (Nat × O2) × Nat)
noncomputable def isG (x : X) (st : St) (g : X × List (Nat × O2) × Nat) : Bool := leX x g.1 && (Nat.ble st.n g.2.2 && keptIn st.H g.2.1)
noncomputable def mergeL (g : Guesses) (body : FnP) : FnP := fun F Fp args st k => cond (body F Fp args st fun x st' => (g args st).any fun q => isG x st' q) ((g args st).all fun q => k q.1 ⟨buildH q.2.1, q.2.2⟩) false
theorem mergeL_ok {P : Program} {G : Nat} {f : FuncId} {body : FnP} (hb : FnOkP P G f body) (g : Guesses) : FnOkP P G f (mergeL g body) := by
  intro F Fp args st k hF hFp h W R ρ args' w l hl hG hs
  unfold mergeL at h
  cases hc : body F Fp args st (fun x st' => (g args st).any fun q => isG x st' q) with
  | false => rw [hc] at h; cases h
  | true =>
    rw [hc, cond_true] at h
    refine Calls.mono (hb F Fp args st _ hF hFp hc W R ρ args' w l hl hG hs) fun e w' ⟨x, st', ρ', v', l', hk, he, hle, hv, hs'⟩ => ?_
    obtain ⟨q, hq, hg⟩ := List.any_eq_true.1 hk
    unfold isG at hg
    simp only [Bool.and_eq_true] at hg
    exact ⟨q.1, _, ρ', v', l', List.all_eq_true.1 h q hq, he, hle, (leX_rel x q.1 hg.1).1 v' hv, hs'.less (Nat.le_of_ble_eq_true hg.2.1) hg.2.2⟩
end
section
open Go Go.RowKit Go.BigFrame
set_option maxRecDepth 100000
/-- All blocks below n that are known cell by cell. -/
noncomputable def allNm (H : Heap) (n : Nat) : List (Nat × O2) := Nat.rec (motive := fun _ => List (Nat × O2)) [] (fun i ih => O2.rec (motive := fun _ => List (Nat × O2)) ih (fun d m t T => (i, .cells d m t T) :: ih) (fun d t T sz m => (i, .grown d t T sz m) :: ih) (fun _ => ih) (get H i)) n
noncomputable def setOp (kb v : Nat) (H : Heap) : Heap := O2.rec (motive := fun _ => Heap) H (fun d m t T => set kb (.cells d m (set 6 (.int .i64 v) t) T) H) (fun _ _ _ _ _ => H) (fun _ => H) (get H kb)
def cresL : List V := [aI, aI, aI, aI, aI, aI, aI, aB, aI]
def coutL : List V := [.oth (.slice none 0 0), .oth (.slice none 0 0), .oth (.complex .f32 0 0), .oth (.slice none 0 0)]
noncomputable def guessC : Guess := fun args st => match args with
  | [.sc (.ptr kb _), _] => let v := cond (opIs 0 args st) 1 2
    some (.cons (.sc (.int .i64 v)) (.cons (.agg cresL) (.cons (.sc (.bool true)) (.cons (.agg coutL) .nil))), allNm (setOp kb v st.H) st.n, Nat.add st.n 3000)
  | _ => none
noncomputable def callF : FnP := liftP (fnK 13)
theorem callF_ok : FnOkP Tryz.prog 0 13 callF := liftP_ok (fnK_ok _)
/-- A call of which nothing is known but its kind: what it may use as a slot, a core or a count is parted, the outcomes are brought together. -/
def jsC (l : List V) : List Nat := match l with
  | .int .i64 2 :: _ => [1, 2, 9]
  | .int .i64 3 :: _ => [1, 2]
  | .int .i64 4 :: _ => [1, 2, 3]
  | .int .i64 8 :: _ => [1, 2]
  | _ => [1]
noncomputable def callM : FnP := mergeP guessC (partA jsC callF)
theorem callM_ok : FnOkP Tryz.prog 0 13 callM := mergeP_ok (partA_ok callF_ok) _
noncomputable def callH : FnP := altP (fun args st => litSlot args || (Nat.beq (callKind args) 1 && opIs 0 args st || Nat.ble (callKind args) 6 && opIs 1 args st)) callF callM
theorem callH_ok : FnOkP Tryz.prog 0 13 callH := altP_ok callF_ok callM_ok
/-- Ahead of a claim, size and index are parted, too. -/
noncomputable def isClaim (args : List X) : Bool := match args with
  | [_, _, c] => match aggL c with
    | some (v :: _) => match modOf (.sc v) with
      | some (_, r) => Nat.beq r 0
      | none => false
    | _ => false
  | _ => false
noncomputable def makeH : FnP := partC 0 10 (altP (fun args _ => isClaim args) (partC 6 3 (partC 7 4 (fnKP 12))) (fnKP 12))
theorem makeH_ok : FnOkP Tryz.prog 0 12 makeH := partC_ok (by decide) (altP_ok (partC_ok (by decide) (partC_ok (by decide) (fnKP_ok _))) (fnKP_ok _))
noncomputable def hkF0 : Hooks := (noHooks.addU 15 placeK placeK_ok).addP 13 callH callH_ok
noncomputable def hkP : Hooks := List.foldl Hooks.addK (hkF0.addP 12 makeH makeH_ok) [31, 17]
def mo (m r : Nat) : V := .oth (.complex .f32 (m * 8 + 4) r)
/-- A wish to claim, into slot d. -/
def wA (d : Nat) : X := .agg [mo 10 0, aI, mo 8 d, aI, aI, aI, aI, aI, aI]
/-- Another one. -/
def wB (j : Nat) : X := .agg [mo 10 j, aI, aI, aI, aI, aI, aI, aI, aI]
/-- A wish to retype. -/
def wC (c : Nat) : X := .agg [mo 10 1, aI, aI, aI, aI, aI, aI, aI, mo 3 c]
/-- In the law, v is a wish of any kind: a call that changes something; the others, each of its kind. -/
def callX (k : V) (mask : Nat) : X := .agg [k, nat 0 7, nat 0 7, aI, nat 0 mask, aI, aI, aI, aI, aI, aI, aI]
noncomputable def guessV : Guesses := fun _ st => [callX (nat 1 6) 7, callX (.int .i64 7) 7, callX (.int .i64 8) 7, callX (.int .i64 9) 7, callX (.int .i64 10) 3].map fun x => (x, allNm st.H st.n, Nat.add st.n 200)
noncomputable def makeV : FnP := mergeL guessV (partC 0 10 (fnKP 12))
theorem makeV_ok : FnOkP Tryz.prog 0 12 makeV := mergeL_ok (partC_ok (by decide) (fnKP_ok _)) _
end
section
open Go Go.RowKit Go.BigFrame
set_option maxRecDepth 100000
noncomputable def mkC (l : List V) (T : TypeId) : O2 := .cells (dep l.length) l.length (treeOf (dep l.length) l) T
noncomputable def mkG (l : List V) (T : TypeId) (sz n : Nat) : O2 := .grown (dep l.length) (treeOf (dep l.length) l) T sz n
/-- Empty slots, but that the d-th is reserved. -/
def slotsD (d : Nat) : List V := (List.range 8).flatMap fun i => [.int .i64 0, .int .i64 0, .int .i64 0, .oth (.slice none 0 0), .int .i64 0, .int .i64 0, .int .i64 0, .int .i64 0, .int .i64 0, .int .i64 0, .bool false, .int .i64 (cond (Nat.beq i d) 1 0), .int .i64 0, .int .i64 0, .int .i64 0]
noncomputable def boxV : Nat × O2 := (1, mkC (ints 9) 23)
noncomputable def memA (d : Nat) : List (Nat × O2) := [boxV, (4, mkC [.int .i64 32, .int .i64 39, .int .i64 32] 3),
  (5, mkC [.int .i64 262144, .int .i64 16, .bool false] 97),
  (6, mkC [.int .i64 2] 3),
  (15, mkG [.int .i64 32, .int .i64 39, .int .i64 32] 3 1 3),
  (17, mkG [.int .i64 262144, .int .i64 16, .bool false] 97 3 1),
  (19, mkG [.int .i64 2] 3 1 1),
  (21, mkC [.oth (.pointer none)] 159),
  (22, mkC [.int .i64 1, .slice 15 0 3 4611686018427387904, .int .i64 3, .int .i64 8, .slice 17 0 1 4611686018427387904, .slice 19 0 1 4611686018427387904, .int .i64 1, .slice 107 0 8 4611686018427387904, .slice 128 0 1 4611686018427387904, .oth (.slice none 0 0), .oth (.slice none 0 0), .oth (.slice none 0 0), .slice 21 0 1 1, .ptr 41 0] 118),
  (36, mkG [.int .i64 0, .int .i64 1, .int .i64 2] 3 1 3),
  (38, mkG [.int .i64 2] 3 1 1),
  (40, mkG [.int .i64 262144, .int .i64 16, .bool false] 97 3 1),
  (41, mkC [.int .i64 1, .slice 40 0 1 4611686018427387904, .int .i64 8, .int .i64 1, .slice 36 0 3 4611686018427387904, .slice 38 0 1 4611686018427387904, .int .i64 0, .oth (.slice none 0 0), .oth (.slice none 0 0), .oth (.slice none 0 0), .oth (.slice none 0 0), .oth (.slice none 0 0), .oth (.slice none 0 0), .oth (.slice none 0 0), .oth (.slice none 0 0), .bool false, .bool false, .bool true, .int .i64 0, .int .i64 1, .oth (.slice none 0 0), .oth (.slice none 0 0), .oth (.slice none 0 0), .int .i64 0, .int .i64 0, .int .i64 0, .oth (.slice none 0 0), .oth (.slice none 0 0), .oth (.slice none 0 0)] 195),
  (107, mkG (slotsD d) 112 15 8),
  (128, mkG [.int .i64 1, .int .i64 1, .int .i64 0, .int .i64 1, aI, aI, .int .i64 0, aI, .int .i64 0, aI, .int .i64 0, aI, .int .i64 0, .int .i64 0, .int .i64 0, .int .i64 0, .int .i64 39, .int .i64 0, .int .i64 0, .int .i64 0, .oth (.slice none 0 0), .int .i64 0, .int .i64 0, .int .i64 0, .int .i64 0, .int .i64 0, .int .i64 0, .bool false] 59 28 1)]
noncomputable def memB : List (Nat × O2) := [boxV, (4, mkC [.int .i64 32, .int .i64 39, .int .i64 32] 3),
  (5, mkC [.int .i64 262144, .int .i64 16, .bool false] 97),
  (6, mkC [.int .i64 2] 3),
  (15, mkG [.int .i64 32, .int .i64 39, .int .i64 32] 3 1 3),
  (17, mkG [.int .i64 262144, .int .i64 16, .bool false] 97 3 1),
  (19, mkG [.int .i64 2] 3 1 1),
  (20, mkC [.int .i64 0, .int .i64 0, .int .i64 0, .oth (.slice none 0 0), .int .i64 0, .int .i64 0, .int .i64 0, .int .i64 0, .int .i64 0, .int .i64 0, .bool false, .int .i64 0, .int .i64 0, .int .i64 0, .int .i64 0, .int .i64 0, .int .i64 0, .int .i64 0, .oth (.slice none 0 0), .int .i64 0, .int .i64 0, .int .i64 0, .int .i64 0, .int .i64 0, .int .i64 0, .bool false, .int .i64 0, .int .i64 0, .int .i64 0, .int .i64 0, .int .i64 0, .int .i64 0, .int .i64 0, .oth (.slice none 0 0), .int .i64 0, .int .i64 0, .int .i64 0, .int .i64 0, .int .i64 0, .int .i64 0, .bool false, .int .i64 0, .int .i64 0, .int .i64 0, .int .i64 0, .int .i64 0, .int .i64 0, .int .i64 0, .oth (.slice none 0 0), .int .i64 0, .int .i64 0, .int .i64 0, .int .i64 0, .int .i64 0, .int .i64 0, .bool false, .int .i64 0, .int .i64 0, .int .i64 0, .int .i64 0, .int .i64 0, .int .i64 0, .int .i64 0, .oth (.slice none 0 0), .int .i64 0, .int .i64 0, .int .i64 0, .int .i64 0, .int .i64 0, .int .i64 0, .bool false, .int .i64 0, .int .i64 0, .int .i64 0, .int .i64 0, .int .i64 0, .int .i64 0, .int .i64 0, .oth (.slice none 0 0), .int .i64 0, .int .i64 0, .int .i64 0, .int .i64 0, .int .i64 0, .int .i64 0, .bool false, .int .i64 0, .int .i64 0, .int .i64 0, .int .i64 0, .int .i64 0, .int .i64 0, .int .i64 0, .oth (.slice none 0 0), .int .i64 0, .int .i64 0, .int .i64 0, .int .i64 0, .int .i64 0, .int .i64 0, .bool false, .int .i64 0, .int .i64 0, .int .i64 0, .int .i64 0, .int .i64 0, .int .i64 0, .int .i64 0, .oth (.slice none 0 0), .int .i64 0, .int .i64 0, .int .i64 0, .int .i64 0, .int .i64 0, .int .i64 0, .bool false, .int .i64 0, .int .i64 0, .int .i64 0, .int .i64 0] 112),
  (21, mkC [.oth (.pointer none)] 159),
  (22, mkC [.int .i64 1, .slice 15 0 3 4611686018427387904, .int .i64 3, .int .i64 8, .slice 17 0 1 4611686018427387904, .slice 19 0 1 4611686018427387904, .int .i64 1, .slice 20 0 8 8, .oth (.slice none 0 0), .oth (.slice none 0 0), .oth (.slice none 0 0), .oth (.slice none 0 0), .slice 21 0 1 1, .ptr 41 0] 118),
  (36, mkG [.int .i64 0, .int .i64 1, .int .i64 2] 3 1 3),
  (38, mkG [.int .i64 2] 3 1 1),
  (40, mkG [.int .i64 262144, .int .i64 16, .bool false] 97 3 1),
  (41, mkC [.int .i64 1, .slice 40 0 1 4611686018427387904, .int .i64 8, .int .i64 1, .slice 36 0 3 4611686018427387904, .slice 38 0 1 4611686018427387904, .int .i64 0, .oth (.slice none 0 0), .oth (.slice none 0 0), .oth (.slice none 0 0), .oth (.slice none 0 0), .oth (.slice none 0 0), .oth (.slice none 0 0), .oth (.slice none 0 0), .oth (.slice none 0 0), .bool false, .bool false, .bool true, .int .i64 0, .int .i64 1, .oth (.slice none 0 0), .oth (.slice none 0 0), .oth (.slice none 0 0), .int .i64 0, .int .i64 0, .int .i64 0, .oth (.slice none 0 0), .oth (.slice none 0 0), .oth (.slice none 0 0)] 195)]
def prepX : X := .cons (.sc (.ptr 22 0)) (.cons (.agg [.slice 4 0 3 3, .int .i64 3, .int .i64 8, .slice 5 0 1 1, .slice 6 0 1 1]) .nil)
noncomputable def stL : St := ⟨buildH [boxV], 2⟩
/-- 0 to 7: memory is claimed into this slot; 8: nothing is. -/
noncomputable def memOf (c : Nat) : List (Nat × O2) := cond (Nat.beq c 8) memB (memA c)
noncomputable def isOut (cs : List Nat) (x : X) (st : St) : Bool := leX x prepX && (Nat.ble st.n 4000 && cs.any fun c => keptIn st.H (memOf c))
noncomputable def prepB (w : X) (cs : List Nat) : Bool := runD hkP 8 [w] stL (isOut cs)
end
end Go.Proofs.YtbgdjcoliiinjaaGreat
