/- Merged: SF, GB, TF, TG, GD, TCa. -/
import Derived.Test.YtbgdjcoliiinjaaGreatPkEngD
import Derived.Test.YtbgdjcoliiinjaaGreatPkEngH
import Derived.Orders
import Derived.OrdersHeld
set_option linter.unusedVariables false
set_option linter.unusedSimpArgs false
set_option linter.unusedSectionVars false
namespace Go.Proofs.YtbgdjcoliiinjaaGreat
section
open Go
/-- Of such a slot nothing is known. -/
noncomputable def freeX (x : X) : Bool := X.rec (motive := fun _ => Bool) (fun _ => false) (fun _ => false) (fun _ _ _ => false) false (fun _ _ _ _ => false) (fun _ => true) x
structure SlF (N : Nat) (ρ : Names) {D : Nat} (T : Sl D) (ts : Array Value) : Prop where
  size : ts.size = N
  rel : ∀ i, i < N → freeX (get T i) = false → VR ρ (get T i).toV (ts.getD i undef)
section
variable {P : Program} {G N D : Nat} {ρ ρ' : Names} {T : Sl D} {ts : Array Value} {a : Act} {o : Oper} {ops : Array Oper}
theorem SlR.f (h : SlR N ρ T ts) : SlF N ρ T ts := ⟨h.size, fun i hi _ => h.rel i hi⟩
theorem SlF.mono (h : SlF N ρ T ts) (hle : NLe ρ ρ') : SlF N ρ' T ts := ⟨h.size, fun i hi hf => (h.rel i hi hf).mono hle⟩
/-- No slot is free. -/
noncomputable def noFree (N : Nat) (T : Sl D) : Bool := Nat.rec (motive := fun _ => Bool) true (fun i ih => cond (freeX (get T i)) false ih) N
theorem noFree_get : ∀ {N : Nat}, noFree N T = true → ∀ i, i < N → freeX (get T i) = false
  | 0, _, i, hi => absurd hi (Nat.not_lt_zero i)
  | N + 1, h, i, hi => by
    have h : cond (freeX (get T N)) false (noFree N T) = true := h
    cases hb : freeX (get T N) with
    | true => rw [hb] at h; cases h
    | false =>
      rw [hb, cond_false] at h
      by_cases e : i = N
      · subst e; exact hb
      · exact noFree_get h i (by omega)
theorem SlF.r (h : SlF N ρ T ts) (hf : noFree N T = true) : SlR N ρ T ts := ⟨h.size, fun i hi => h.rel i hi (noFree_get hf i hi)⟩
/-- No operand is free. -/
noncomputable def liveL (D : Nat) (xs : List Operand) : Box (Sl D → Bool) := List.rec (motive := fun _ => Box (Sl D → Bool)) ⟨fun _ => true⟩ (fun x _ ih => match x with
  | .tmp t => bx ih fun r => bx (getB t D) fun g => ⟨fun T => cond (freeX (g T)) false (r T)⟩
  | .const v => cond (freeX (X.ofV v)) ⟨fun _ => false⟩ ih
  | _ => ih) xs
theorem liveL_ok : ∀ {xs : List Operand}, (liveL D xs).f T = true → ∀ x ∈ xs, freeX (evX T x) = false
  | [], _, x, hx => by cases hx
  | y :: xs, h, x, hx => by
    have key : freeX (evX T y) = false ∧ (liveL D xs).f T = true := by
      cases y with
      | tmp t =>
        have h : (bx (liveL D xs) fun r => bx (getB t D) fun g => (⟨fun T => cond (freeX (g T)) false (r T)⟩ : Box (Sl D → Bool))).f T = true := h
        rw [bx_f, bx_f] at h
        have h : cond (freeX (evX T (.tmp t))) false ((liveL D xs).f T) = true := h
        cases hb : freeX (evX T (.tmp t)) with
        | true => rw [hb] at h; cases h
        | false => rw [hb] at h; exact ⟨rfl, h⟩
      | const v =>
        have h : (cond (freeX (X.ofV v)) (⟨fun _ => false⟩ : Box (Sl D → Bool)) (liveL D xs)).f T = true := h
        show freeX (X.ofV v) = false ∧ _
        cases hb : freeX (X.ofV v) with
        | true => rw [hb] at h; cases h
        | false => rw [hb] at h; exact ⟨rfl, h⟩
      | global g => exact ⟨rfl, h⟩
      | func f => exact ⟨rfl, h⟩
    rcases List.mem_cons.1 hx with rfl | hx
    · exact key.1
    · exact liveL_ok key.2 x hx
noncomputable def liveC (D : Nat) (o : Oper) : Box (Sl D → Bool) := liveL D o.op.operands.toList
theorem evX_relF (h : SlF N ρ T a.tmps) (hG : Glob G ρ) {x : Operand} (hx : opOk N G x = true) (hf : freeX (evX T x) = false) : VR ρ (evX T x).toV (a.eval x) := by
  cases x with
  | tmp t => exact h.rel t (Nat.le_of_ble_eq_true hx) hf
  | const v =>
    show VR ρ (X.ofV v).toV v
    rw [X.toV_ofV]; exact .of_self ρ hx
  | global g => exact .ptr (hG g (Nat.le_of_ble_eq_true hx))
  | func f => exact .of_plain ρ rfl
theorem operOk_oprF (h : operOk N G o = true) (hl : (liveC D o).f T = true) (hs : SlF N ρ T a.tmps) (hG : Glob G ρ) : OpR ρ T a o := by
  unfold operOk at h
  rw [Bool.and_eq_true, Bool.and_eq_true] at h
  exact fun x hx => evX_relF hs hG (List.all_eq_true.1 h.2.1 x (by simpa using hx)) (liveL_ok hl x (by simpa using hx))
theorem operOk_one (h : operOk N G o = true) {x : Operand} (hx : x ∈ o.op.operands) : opOk N G x = true := by
  unfold operOk at h
  rw [Bool.and_eq_true, Bool.and_eq_true] at h
  exact List.all_eq_true.1 h.2.1 x (by simpa using hx)
theorem put_slf (hND : N ≤ 8 ^ D) (h : SlF N ρ T a.tmps) (hd : dstOk N o = true) {x : X} {v : Value} (hx : VR ρ x.toV v) : SlF N ρ ((putC D o.dst).f x T) (a.put o.dst v).tmps ∧ (a.put o.dst v).defers = a.defers := by
  unfold dstOk at hd
  cases ho : o.dst with
  | none => exact ⟨h, rfl⟩
  | some d =>
    rw [ho] at hd
    have hd : d < N := Nat.le_of_ble_eq_true hd
    refine ⟨⟨by show (a.tmps.setIfInBounds d v).size = N; rw [Array.size_setIfInBounds]; exact h.size, fun i hi => ?_⟩, rfl⟩
    show freeX (get (set d x T) i) = false → VR ρ (get (set d x T) i).toV ((a.tmps.setIfInBounds d v).getD i undef)
    by_cases e : d = i
    · subst e
      rw [get_set_same, getD_set_same (by rw [h.size]; exact hd)]
      exact fun _ => hx
    · rw [get_set_other x e D T (Nat.lt_of_lt_of_le hd hND) (Nat.lt_of_lt_of_le hi hND), getD_set_other e]
      exact h.rel i hi
/-- A guard that is read isn't free. -/
theorem guard_live {kt kf : Bool} (h : (guardC N D ops o).f T kt kf = true) {d : Nat} (hd : guardSlot ops o = some d) (hdN : d < N) : freeX (get T d) = false := by
  unfold guardC at h
  unfold guardSlot at hd
  cases hg : o.guard with
  | none => rw [hg] at hd; cases hd
  | some q =>
    obtain ⟨j, want⟩ := q
    rw [hg] at h hd
    dsimp only at h hd
    rw [hd] at h
    dsimp only at h
    cases hb : Nat.blt d N with
    | false => rw [hb] at h; cases h
    | true =>
      rw [hb, cond_true, bx_f] at h
      have h : gtest want (get T d) kt kf = true := h
      generalize get T d = x at h ⊢
      cases x <;> first | rfl | cases h
theorem guard_relF {kt kf : Bool} (h : (guardC N D ops o).f T kt kf = true) (hs : SlF N ρ T a.tmps) : ∀ d, guardSlot ops o = some d → d < N → VR ρ (get T d).toV (a.tmps.getD d undef) := fun d hd hdN => hs.rel d hdN (guard_live h hd hdN)
/-- What the region's operations do not write. -/
def Agr (N : Nat) {D : Nat} (ds : List Nat) (T T' : Sl D) : Prop := ∀ j, j < N → ds.contains j = false → get T' j = get T j
theorem Agr.refl (ds : List Nat) (T : Sl D) : Agr N ds T T := fun _ _ _ => rfl
theorem Agr.trans {ds : List Nat} {T T' T'' : Sl D} (h : Agr N ds T T') (h' : Agr N ds T' T'') : Agr N ds T T'' := fun j hj hc => (h' j hj hc).trans (h j hj hc)
theorem Agr.put (hND : N ≤ 8 ^ D) {ds : List Nat} (hd : dstOk N o = true) (hm : ∀ d, o.dst = some d → ds.contains d = true) (x : X) : Agr N ds T ((putC D o.dst).f x T) := fun j hj hc => by
  unfold dstOk at hd
  cases ho : o.dst with
  | none => rfl
  | some d =>
    rw [ho] at hd
    have hd : d < N := Nat.le_of_ble_eq_true hd
    show get (set d x T) j = get T j
    exact get_set_other x (fun e => by subst e; rw [hm d ho] at hc; cases hc) D T (Nat.lt_of_lt_of_le hd hND) (Nat.lt_of_lt_of_le hj hND)
/-! ### What is left of a region's slots behind it: an unknown Bool (true), or nothing (false) -/
noncomputable def isBoolX (x : X) : Bool := match x with
  | .sc (.bool _) => true
  | .sc (.oth (.complex .f32 5 0)) => true
  | _ => false
theorem isBoolX_rel {x : X} (h : isBoolX x = true) {v : Value} (r : VR ρ x.toV v) : VR ρ (.complex .f32 5 0) v := by
  unfold isBoolX at h
  split at h
  · rename_i b
    have r : VR ρ (.bool b) v := r
    cases r; exact .anyB b
  · exact r
  · cases h
/-- What is left of a slot: 0 nothing, 1 an unknown Bool, 2 true, 3 (and more) false. -/
noncomputable def gesX (c : Nat) : X := match c with
  | 0 => .raw undef
  | 1 => .sc (.oth (.complex .f32 5 0))
  | 2 => .sc (.bool true)
  | _ => .sc (.bool false)
noncomputable def isLitB (b : Bool) (x : X) : Bool := match x with
  | .sc (.bool c) => cond c b (!b)
  | _ => false
theorem isLitB_eq {b : Bool} {x : X} (h : isLitB b x = true) : x = .sc (.bool b) := by
  unfold isLitB at h
  split at h
  · rename_i c
    cases c <;> cases b <;> first | rfl | cases h
  · cases h
noncomputable def gesOk (c : Nat) (x : X) : Bool := match c with
  | 0 => true
  | 1 => isBoolX x
  | 2 => isLitB true x
  | _ => isLitB false x
theorem gesOk_rel {c : Nat} {x : X} (h : gesOk c x = true) (hf : freeX (gesX c) = false) : freeX x = false ∧ ∀ {ρ : Names} {v : Value}, VR ρ x.toV v → VR ρ (gesX c).toV v := by
  unfold gesOk at h
  split at h
  · cases hf
  · refine ⟨?_, fun hr => isBoolX_rel h hr⟩
    unfold isBoolX at h
    split at h <;> first | rfl | cases h
  · rw [isLitB_eq h]; exact ⟨rfl, fun hr => hr⟩
  · rename_i h0 h1 h2
    rw [isLitB_eq h]
    refine ⟨rfl, fun hr => ?_⟩
    have e : gesX c = .sc (.bool false) := by
      unfold gesX
      split <;> first | rfl | exact absurd rfl h0 | exact absurd rfl h1 | exact absurd rfl h2
    rw [e]; exact hr
noncomputable def chkM (ms : List (Nat × Nat)) (T : Sl D) : Bool := List.rec (motive := fun _ => Bool) true (fun m _ ih => cond (gesOk m.2 (get T m.1)) ih false) ms
noncomputable def genM (ms : List (Nat × Nat)) (T : Sl D) : Sl D := List.rec (motive := fun _ => Sl D) T (fun m _ ih => set m.1 (gesX m.2) ih) ms
theorem genM_ok (hND : N ≤ 8 ^ D) {T T' : Sl D} (hs : SlF N ρ T' ts) : ∀ {ms : List (Nat × Nat)}, ms.all (fun m => Nat.blt m.1 N) = true → chkM ms T' = true → (∀ j, j < N → (ms.map (·.1)).contains j = false → get T' j = get T j) → SlF N ρ (genM ms T) ts := by
  have key : ∀ (ms : List (Nat × Nat)), ms.all (fun m => Nat.blt m.1 N) = true → chkM ms T' = true → ∀ j, j < N → ((ms.map (·.1)).contains j = false → get T' j = get T j) → freeX (get (genM ms T) j) = false → VR ρ (get (genM ms T) j).toV (ts.getD j undef) := by
    intro ms
    induction ms with
    | nil =>
      intro _ _ j hj hq hf
      have e : get T' j = get T j := hq rfl
      have hf : freeX (get T j) = false := hf
      show VR ρ (get T j).toV _
      rw [← e] at hf ⊢
      exact hs.rel j hj hf
    | cons m ms ih =>
      intro ha hc j hj hq hf
      rw [List.all_cons, Bool.and_eq_true] at ha
      have hm : m.1 < N := Nat.le_of_ble_eq_true ha.1
      have hc : cond (gesOk m.2 (get T' m.1)) (chkM ms T') false = true := hc
      cases h3 : gesOk m.2 (get T' m.1) with
      | false => rw [h3] at hc; cases hc
      | true =>
      rw [h3, cond_true] at hc
      have e : genM (m :: ms) T = set m.1 (gesX m.2) (genM ms T) := rfl
      rw [e] at hf ⊢
      by_cases hmj : m.1 = j
      · rw [hmj, get_set_same] at hf ⊢
        rw [hmj] at h3
        obtain ⟨h4, h5⟩ := gesOk_rel h3 hf
        exact h5 (hs.rel j hj h4)
      · rw [get_set_other _ hmj D _ (by omega) (by omega)] at hf ⊢
        exact ih ha.2 hc j hj (fun hq2 => hq (by
          rw [List.map_cons, List.contains_cons, hq2]
          simpa using fun q => hmj q.symm)) hf
  exact fun {ms} ha hc hq => ⟨hs.size, fun j hj hf => key ms ha hc j hj (hq j hj) hf⟩
/-- The best guess, by asking all ways (ask). -/
noncomputable def gesM (ask : (Sl D → Bool) → Bool) (ms : List (Nat × Bool)) : List (Nat × Nat) := List.rec (motive := fun _ => List (Nat × Nat)) [] (fun m _ ih => (m.1, cond m.2 (cond (ask fun T => isLitB true (get T m.1)) 2 (cond (ask fun T => isLitB false (get T m.1)) 3 1)) 0) :: ih) ms
theorem gesM_fst (ask : (Sl D → Bool) → Bool) : ∀ ms : List (Nat × Bool), (gesM ask ms).map (·.1) = ms.map (·.1)
  | [] => rfl
  | m :: ms => by
    show m.1 :: (gesM ask ms).map (·.1) = m.1 :: ms.map (·.1)
    rw [gesM_fst ask ms]
/-! ### Results -/
def resSlot : ResultVar → Nat
  | .tmp t => t
  | .cell t _ => t
noncomputable def resF {P : Program} {G D : Nat} (N : Nat) (c : Cls P G D) (rs : List ResultVar) : Box (ResC D) := bx (liveL D (rs.map fun r => .tmp (resSlot r))) fun lv => bx (resL N c rs) fun g => ⟨fun T st k => cond (lv T) (g T st k) false⟩
theorem resL_okF (c : Cls P G D) : ∀ (rs : List ResultVar) (T : Sl D) (st : St) (k : List X → Bool), (∀ r ∈ rs, freeX (get T (resSlot r)) = false) → (resL N c rs).f T st k = true → ∃ xs, k xs = true ∧ ∀ W R ρ (a : Act) w l, SlF N ρ T a.tmps → Glob G ρ → Sim W R w ρ st l → ∃ vs : List Value, (rs.mapM (oneRes a.tmps)).run P w = .ok vs w ∧ LR ρ (xs.map X.toV) vs
  | [], T, st, k, _, h => ⟨[], h, fun W R ρ a w l _ _ _ => ⟨[], rfl, .nil ρ⟩⟩
  | r :: rs, T, st, k, hl, h => by
    have ih := fun T st k hl => resL_okF c rs T st k hl
    have go : ∀ (x : X) (xs : List X) W R ρ (a : Act) w l, (∃ v, (oneRes a.tmps r).run P w = .ok v w ∧ VR ρ x.toV v) → (∃ vs : List Value, (rs.mapM (oneRes a.tmps)).run P w = .ok vs w ∧ LR ρ (xs.map X.toV) vs) → Sim W R w ρ st l → ∃ vs : List Value, ((r :: rs).mapM (oneRes a.tmps)).run P w = .ok vs w ∧ LR ρ ((x :: xs).map X.toV) vs := by
      intro x xs W R ρ a w l ⟨v, hv, hxv⟩ ⟨vs, hvs, hl⟩ _
      refine ⟨v :: vs, ?_, by simp [hl.1], fun i y y' hy hy' => ?_⟩
      · rw [List.mapM_cons]
        simp only [Sem.run_bind, hv, hvs, Result.andThen_ok]
        rfl
      · cases i with
        | zero => cases hy; cases hy'; exact hxv
        | succ i => exact hl.2 i y y' hy hy'
    cases r with
    | tmp t =>
      have h : (cond (Nat.blt t N) (bx (resL N c rs) fun g => bx (getB t D) fun e => (⟨fun T st k => g T st fun l => k (e T :: l)⟩ : Box (ResC D))) ⟨fun _ _ _ => false⟩).f T st k = true := h
      cases hb : Nat.blt t N with
      | false => rw [hb] at h; cases h
      | true =>
        rw [hb, cond_true, bx_f, bx_f] at h
        obtain ⟨xs, hk, hx⟩ := ih T st _ (fun r hr => hl r (List.mem_cons_of_mem _ hr)) h
        exact ⟨_, hk, fun W R ρ a w l hs hG hsim => go _ xs W R ρ a w l ⟨_, rfl, hs.rel t (Nat.le_of_ble_eq_true hb) (hl _ List.mem_cons_self)⟩ (hx W R ρ a w l hs hG hsim) hsim⟩
    | cell t ty =>
      have h : (cond (Nat.blt t N) (bx (resL N c rs) fun g => bx (c.read_ (resLoad t ty)) fun f => (⟨fun T st k => f T st fun x => g T st fun l => k (x :: l)⟩ : Box (ResC D))) ⟨fun _ _ _ => false⟩).f T st k = true := h
      cases hb : Nat.blt t N with
      | false => rw [hb] at h; cases h
      | true =>
        rw [hb, cond_true, bx_f, bx_f] at h
        obtain ⟨x, h, hr⟩ := c.readOk (resLoad t ty) rfl T st _ h
        obtain ⟨xs, hk, hx⟩ := ih T st _ (fun r hr => hl r (List.mem_cons_of_mem _ hr)) h
        refine ⟨_, hk, fun W R ρ a w l hs hG hsim => go _ xs W R ρ a w l ?_ (hx W R ρ a w l hs hG hsim) hsim⟩
        obtain ⟨v, hv, hrun⟩ := hr W R ρ a w l (fun y hy => by
          have : y = .tmp t := by simpa [resLoad, Op.operands] using hy
          subst this
          exact hs.rel t (Nat.le_of_ble_eq_true hb) (hl _ List.mem_cons_self)) hG hsim.rd
        exact ⟨v, run_res_cell hrun, hv⟩
theorem resF_ok (c : Cls P G D) (rs : List ResultVar) (T : Sl D) (st : St) (k : List X → Bool) (h : (resF N c rs).f T st k = true) : ∃ xs, k xs = true ∧ ∀ W R ρ (a : Act) w l, SlF N ρ T a.tmps → Glob G ρ → Sim W R w ρ st l → ∃ vs : List Value, (rs.mapM (oneRes a.tmps)).run P w = .ok vs w ∧ LR ρ (xs.map X.toV) vs := by
  unfold resF at h
  rw [bx_f, bx_f] at h
  have h : cond ((liveL D (rs.map fun r => .tmp (resSlot r))).f T) ((resL N c rs).f T st k) false = true := h
  cases hl : (liveL D (rs.map fun r => .tmp (resSlot r))).f T with
  | false => rw [hl] at h; cases h
  | true =>
    rw [hl] at h
    exact resL_okF c rs T st k (fun r hr => liveL_ok hl (.tmp (resSlot r)) (List.mem_map.2 ⟨r, hr, rfl⟩)) h
end
end
section
open Go
section
variable {P : Program} {ρ : Names} {W w : World} {R : Nat → Prop} {st st' : St} {l : Ents} {G D : Nat} {T : Sl D} {a : Act} {o : Oper}
theorem LoudOk.p {f : LoudC D} (h : LoudOk P G D o f) : LoudOkP P G D o (fun F _ T st k => f F T st k) := by
  intro F Fp T st k hF _ hf W R ρ a w l hO hG hs K Q hK
  obtain ⟨x, st', hk, hx⟩ := h F T st k hF hf
  exact hx W R ρ a w l hO hG hs K Q fun ρ' v' w' l' hle hv hs' => hK x st' ρ' v' w' l' hk hle hv hs'
/-! ### Calls -/
theorem genCall_okP (hN : NoNum P) : LoudOkP P G D o (fun _ Fp T st k => (genCall P D o).f Fp T st k) := by
  intro F Fp T st k _ hF h W R ρ a w l hO hG hs K Q hK
  have h : (genCall P D o).f Fp T st k = true := h
  unfold genCall at h
  cases hc : isCall o.op with
  | none => rw [hc] at h; cases h
  | some q =>
    obtain ⟨g, xs⟩ := q
    rw [hc] at h
    dsimp only at h
    obtain ⟨ty, hop⟩ := isCall_eq hc
    have hargs := argsC_f T xs
    generalize argsC D xs = b at h hargs
    obtain ⟨es⟩ := b
    dsimp only at h hargs
    have hmem : ∀ x, x = g ∨ x ∈ xs → x ∈ o.op.operands := fun x hx => by
      rw [hop]
      show x ∈ Call.operands _
      rcases hx with rfl | hx <;> simp [Call.operands, *]
    have go : ∀ (f : FuncId) (first cap : Array Value), hasBody P f = true → Fp f (first.toList.map X.ofV ++ (es T ++ cap.toList.map X.ofV)) st k = true → (∃ first' cap', AR ρ first first' ∧ AR ρ cap cap' ∧ a.eval g = .func (.func f) first' cap') → o.wp P a w K Q := by
      intro f first cap hb hf hg
      obtain ⟨first', cap', h1, h2, he⟩ := hg
      unfold Oper.wp
      rw [run_call hN hop he hb w, Oper.upon_enter]
      have hl : LR ρ (List.map X.toV (first.toList.map X.ofV ++ (es T ++ cap.toList.map X.ofV))) ((first' ++ (xs.map a.eval).toArray) ++ cap').toList := by
        rw [List.map_append, List.map_append, map_to_of, map_to_of, hargs, Array.toList_append, Array.toList_append, List.append_assoc]
        exact h1.list.append ((LR.map_ev fun x hx => hO x (hmem x (.inr hx))).append h2.list)
      refine Calls.mono (hF _ _ _ _ hf W R ρ _ w l hl hG hs) fun e w' hh => ?_
      obtain ⟨x, st', ρ', v', l', hk, rfl, hle, hv, hs1⟩ := hh
      exact hK x st' ρ' v' w' l' hk hle hv hs1
    have dyn : ∀ e : Sl D → X, e T = evX T g → dynCall P (e T).toV (es T) Fp st k = true → o.wp P a w K Q := by
      intro e he hd
      unfold dynCall at hd
      split at hd
      · rename_i f first cap hv
        cases hb : hasBody P f with
        | false => rw [hb] at hd; cases hd
        | true =>
          rw [hb] at hd
          refine go f first cap hb hd ?_
          have hx := hO g (hmem g (.inl rfl))
          rw [← he, hv] at hx
          generalize hy : a.eval g = y at hx
          cases hx with
          | @func _ _ a' _ b' h1 h2 h3 h4 => exact ⟨a', b', ⟨h1, h2⟩, ⟨h3, h4⟩, rfl⟩
      · cases hd
    cases g with
    | func f =>
      dsimp only at h
      cases hb : hasBody P f with
      | false => rw [hb] at h; cases h
      | true =>
        rw [hb] at h
        exact go f #[] #[] hb (by simpa using h) ⟨#[], #[], .nil ρ, .nil ρ, rfl⟩
    | tmp t =>
      dsimp only at h
      refine dyn (evC D (.tmp t)).f rfl ?_
      generalize evC D (.tmp t) = b at h ⊢
      cases b; exact h
    | const v =>
      dsimp only at h
      refine dyn (evC D (.const v)).f rfl ?_
      generalize evC D (.const v) = b at h ⊢
      cases b; exact h
    | global g =>
      dsimp only at h
      refine dyn (evC D (.global g)).f rfl ?_
      generalize evC D (.global g) = b at h ⊢
      cases b; exact h
/-! ### Comparisons of what is unknown -/
noncomputable def cmpP (op : BinOp) (x y : X) (kt kf : Bool) : Bool := match ivV x.toV, ivV y.toV with
  | some (i, l1, h1), some (j, l2, h2) => cond (Nat.beq i j) (match wayOf op l1 h1 l2 h2 with
    | some .t => kt
    | some .f => kf
    | some .both => cond kt kf false
    | none => false) false
  | _, _ => false
noncomputable def splitC {D : Nat} (op : BinOp) (ex ey : Sl D → X) (gen : LoudC D) : LoudP D := fun F _ T st k => cond (symX (ex T)) (cmpP op (ex T) (ey T) (k (.sc (.bool true)) st) (k (.sc (.bool false)) st)) (cond (symX (ey T)) (cmpP op (ex T) (ey T) (k (.sc (.bool true)) st) (k (.sc (.bool false)) st)) (gen F T st k))
theorem cmpP_ok {op : BinOp} {t t2 : TypeId} {x y : Operand} (hop : o.op = .binOp op t x y t2) {kt kf : Bool} (h : cmpP op (evX T x) (evX T y) kt kf = true) (hO : OpR ρ T a o) :
    ∃ r : Bool, cond r kt kf = true ∧ ∀ w, (execOp a.eval o).run P w = .ok (.value (.bool r)) w := by
  have h1 := hO x (by rw [hop]; simp [Op.operands])
  have h2 := hO y (by rw [hop]; simp [Op.operands])
  unfold cmpP at h
  split at h
  · rename_i i l1 u1 j l2 u2 e1 e2
    cases hb : Nat.beq i j with
    | false => rw [hb] at h; cases h
    | true =>
      rw [hb, cond_true] at h
      have hij := Nat.eq_of_beq_eq_true hb
      obtain ⟨k, m, ex, hk, a1, a2⟩ := ivV_sound h1 e1
      obtain ⟨k', n, ey, hk', b1, b2⟩ := ivV_sound h2 e2
      have : k = k' := kidx_inj (by rw [hk, hk', hij])
      subst this
      cases hq : wayOf op l1 u1 l2 u2 with
      | none => rw [hq] at h; cases h
      | some q =>
        rw [hq] at h
        obtain ⟨r, hr, hrun⟩ := wayOf_has (P := P) (t := t) hq a1 a2 b1 b2
        refine ⟨r, ?_, fun w => run_bin2 hop ex ey hrun w⟩
        cases q with
        | t => cases hr; exact h
        | f => cases hr; exact h
        | both =>
          have h : cond kt kf false = true := h
          cases kt <;> cases kf <;> first | (cases h; done) | (cases r <;> rfl)
  · cases h
theorem splitC_ok {op : BinOp} {t t2 : TypeId} {x y : Operand} (hop : o.op = .binOp op t x y t2) {gen : LoudC D} (hgen : LoudOk P G D o gen) : LoudOkP P G D o (splitC op (evC D x).f (evC D y).f gen) := by
  intro F Fp T st k hF hFp h W R ρ a w l hO hG hs K Q hK
  have h : cond (symX (evX T x)) (cmpP op (evX T x) (evX T y) (k (.sc (.bool true)) st) (k (.sc (.bool false)) st)) (cond (symX (evX T y)) (cmpP op (evX T x) (evX T y) (k (.sc (.bool true)) st) (k (.sc (.bool false)) st)) (gen F T st k)) = true := h
  have use : cmpP op (evX T x) (evX T y) (k (.sc (.bool true)) st) (k (.sc (.bool false)) st) = true → o.wp P a w K Q := fun h => by
    obtain ⟨r, hk, hrun⟩ := cmpP_ok (P := P) hop h hO
    unfold Oper.wp
    rw [hrun w]
    refine hK (.sc (.bool r)) st ρ (.bool r) w l ?_ (.refl _) (.bool r) hs
    cases r <;> exact hk
  cases hx : symX (evX T x) with
  | true => rw [hx] at h; exact use h
  | false =>
    rw [hx, cond_false] at h
    cases hy : symX (evX T y) with
    | true => rw [hy] at h; exact use h
    | false =>
      rw [hy, cond_false] at h
      exact hgen.p F Fp T st k hF hFp h W R ρ a w l hO hG hs K Q hK
/-- Does it hold of all below n? -/
noncomputable def allB (n : Nat) (f : Nat → Bool) : Bool := Nat.rec (motive := fun _ => Bool) true (fun i ih => cond ih (f i) false) n
theorem allB_at {f : Nat → Bool} : ∀ {n : Nat}, allB n f = true → ∀ i, i < n → f i = true
  | 0, _, i, h => absurd h (Nat.not_lt_zero i)
  | n + 1, h, i, hi => by
    have h : cond (allB n f) (f n) false = true := h
    cases hb : allB n f with
    | false => rw [hb] at h; cases h
    | true =>
      rw [hb, cond_true] at h
      by_cases e : i = n
      · subst e; exact h
      · exact allB_at hb i (by omega)
/-! ### An index that is unknown within bounds: all of them -/
def rngOf (x : X) : Option (IntKind × Nat × Nat) := match x with
  | .sc (.oth (.complex .f64 a b)) => some (kofI (a % 8), a / 8, b)
  | _ => none
theorem rngOf_real {ρ : Names} {x : X} {v : Value} {k : IntKind} {lo hi : Nat} (h : rngOf x = some (k, lo, hi)) (hr : VR ρ x.toV v) : ∃ n : Nat, v = .int k (n : Int) ∧ lo ≤ n ∧ n ≤ hi := by
  unfold rngOf at h
  split at h
  · rename_i a b
    have hr : VR ρ (.complex .f64 a b) v := hr
    cases hr with
    | @rng k' a' _ n h1 h2 hw =>
      have hk := kidx_lt k'
      rw [show (a' * 8 + kidx k') % 8 = kidx k' by omega, show (a' * 8 + kidx k') / 8 = a' by omega, kofI_kidx] at h
      cases h
      exact ⟨n, rfl, h1, h2⟩
  · cases h
noncomputable def idxP {D : Nat} (gy : Sl D → X) (sy : X → Sl D → Sl D) (f : LoudC D) : LoudP D := fun F _ T st k => match rngOf (gy T) with
  | some (kd, lo, hi) => cond (Nat.ble (Nat.sub hi lo) 63) (allB (Nat.sub (Nat.add hi 1) lo) (fun i => f F (sy (.sc (.int kd (Nat.add lo i))) T) st k)) false
  | none => f F T st k
theorem idxP_ok {f : LoudC D} (hf : LoudOk P G D o f) {t : Nat} (ht : Operand.tmp t ∈ o.op.operands) (hall : (tmpsOf o).all (fun j => Nat.blt j (8 ^ D)) = true) : LoudOkP P G D o (idxP (getB t D).f (setB t D).f f) := by
  intro F Fp T st k hF hFp h W R ρ a w l hO hG hs K Q hK
  unfold idxP at h
  split at h
  · rename_i kd lo hi hr
    cases hb : Nat.ble (Nat.sub hi lo) 63 with
    | false => rw [hb] at h; cases h
    | true =>
      rw [hb, cond_true] at h
      obtain ⟨n, hn, h1, h2⟩ := rngOf_real hr (hO _ ht)
      have h := allB_at h (n - lo) (show n - lo < hi + 1 - lo by omega)
      rw [show Nat.add lo (n - lo) = n from by show lo + (n - lo) = n; omega] at h
      refine hf.p F Fp (set t (.sc (.int kd n)) T) st k hF hFp h W R ρ a w l (fun x hx => ?_) hG hs K Q hK
      cases x with
      | tmp j =>
        have lt : ∀ i, Operand.tmp i ∈ o.op.operands → i < 8 ^ D := fun i hi => by
          have hm : i ∈ tmpsOf o := by
            unfold tmpsOf
            rw [List.mem_filterMap]
            exact ⟨.tmp i, by simpa using hi, rfl⟩
          exact Nat.le_of_ble_eq_true (List.all_eq_true.1 hall i hm)
        by_cases e : t = j
        · subst e
          show VR ρ (get (set t _ T) t).toV _
          rw [get_set_same, hn]
          exact .int kd (n : Int)
        · show VR ρ (get (set t _ T) j).toV _
          rw [get_set_other _ e D T (lt t ht) (lt j hx)]
          exact hO _ hx
      | const v => exact hO _ hx
      | global g => exact hO _ hx
      | func f => exact hO _ hx
  · exact hf.p F Fp T st k hF hFp h W R ρ a w l hO hG hs K Q hK
def idxTmp (o : Oper) : Option Nat := match o.op with
  | .indexAddr _ _ (.tmp t) => some t
  | _ => none
theorem idxTmp_mem {t : Nat} (h : idxTmp o = some t) : Operand.tmp t ∈ o.op.operands := by
  unfold idxTmp at h
  split at h
  · rename_i hop
    cases h
    rw [hop]
    simp [Op.operands]
  · cases h
def cmpOp : BinOp → Bool
  | .lss | .leq | .gtr | .geq | .eql | .neq => true
  | _ => false
noncomputable def opP0 {P : Program} {G D : Nat} (c : Cls P G D) (o : Oper) : Box (LoudP D) := match o.op with
  | .call ⟨.value _, _, _⟩ => bx (genCall P D o) fun f => ⟨fun _ Fp T st k => f Fp T st k⟩
  | .binOp op _ x y _ => cond (cmpOp op) (bx (opC c o) fun f => bx (evC D x) fun ex => bx (evC D y) fun ey => ⟨fun F Fp T st k => splitC op ex ey f F Fp T st k⟩) (bx (opC c o) fun f => ⟨fun F _ T st k => f F T st k⟩)
  | _ => bx (opC c o) fun f => match idxTmp o with
    | some t => cond ((tmpsOf o).all fun j => Nat.blt j (8 ^ D)) (bx (getB t D) fun gy => bx (setB t D) fun sy => ⟨idxP gy sy f⟩) ⟨fun F _ T st k => f F T st k⟩
    | none => ⟨fun F _ T st k => f F T st k⟩
theorem opP0_ok (hN : NoNum P) (c : Cls P G D) (hs : notSelect o = true) : LoudOkP P G D o (opP0 c o).f := by
  unfold opP0
  split
  · rw [bx_f]; exact genCall_okP hN
  · rename_i op t x y t2 hop
    cases cmpOp op with
    | true =>
      rw [cond_true, bx_f, bx_f, bx_f]
      exact splitC_ok hop (opC_ok c hs)
    | false => rw [cond_false, bx_f]; exact (opC_ok c hs).p
  · rw [bx_f]
    split
    · rename_i t ht
      cases hb : (tmpsOf o).all fun j => Nat.blt j (8 ^ D) with
      | true =>
        rw [cond_true, bx_f, bx_f]
        exact idxP_ok (opC_ok c hs) (idxTmp_mem ht) hb
      | false => exact (opC_ok c hs).p
    · exact (opC_ok c hs).p
/-! ### Structs of which only the types are known; results that are parted -/
noncomputable def eqP {P : Program} {D : Nat} (t : TypeId) (ex ey : Sl D → X) (f : LoudP D) : LoudP D := fun F Fp T st k =>
  cond ((isAggX (ex T) && isAggX (ey T)) && !(selfOk (ex T).toV && selfOk (ey T).toV)) (cond (eqS P 10 t (ex T).toV (ey T).toV) (cond (k (.sc (.bool true)) st) (k (.sc (.bool false)) st) false) false) (f F Fp T st k)
theorem eqP_ok {t t2 : TypeId} {x y : Operand} {op : BinOp} (hq : op = .eql ∨ op = .neq) (hop : o.op = .binOp op t x y t2) (hg : P.eqGuardType P.depth t = false) {f : LoudP D} (hf : LoudOkP P G D o f) : LoudOkP P G D o (eqP (P := P) t (evC D x).f (evC D y).f f) := by
  intro F Fp T st k hF hFp h W R ρ a w l hO hG hs K Q hK
  have h : cond ((isAggX (evX T x) && isAggX (evX T y)) && !(selfOk (evX T x).toV && selfOk (evX T y).toV)) (cond (eqS P 10 t (evX T x).toV (evX T y).toV) (cond (k (.sc (.bool true)) st) (k (.sc (.bool false)) st) false) false) (f F Fp T st k) = true := h
  cases hb : ((isAggX (evX T x) && isAggX (evX T y)) && !(selfOk (evX T x).toV && selfOk (evX T y).toV)) with
  | false => rw [hb] at h; exact hf F Fp T st k hF hFp h W R ρ a w l hO hG hs K Q hK
  | true =>
    rw [hb, cond_true] at h
    rw [Bool.and_eq_true, Bool.and_eq_true] at hb
    have hx := hO x (by rw [hop]; simp [Op.operands])
    have hy := hO y (by rw [hop]; simp [Op.operands])
    cases he : eqS P 10 t (evX T x).toV (evX T y).toV with
    | false => rw [he] at h; cases h
    | true =>
      rw [he, cond_true] at h
      obtain ⟨b, hv⟩ := eqS_ok 10 t he hx hy
      obtain ⟨xs, hxs⟩ := isAggX_real hb.1.1 hx
      obtain ⟨ys, hys⟩ := isAggX_real hb.1.2 hy
      rw [hxs, hys] at hv
      cases h1 : k (.sc (.bool true)) st with
      | false => rw [h1] at h; cases h
      | true =>
        rw [h1, cond_true] at h
        have both : ∀ q : Bool, k (.sc (.bool q)) st = true := fun q => by cases q with
          | true => exact h1
          | false => exact h
        rcases hq with rfl | rfl
        · exact wp_eqlV t t2 x y hop xs ys hxs hys hg b hv (hK (.sc (.bool b)) st ρ (.bool b) w l (both b) (.refl _) (.bool b) hs)
        · exact wp_neqV t t2 x y hop xs ys hxs hys hg b hv (hK (.sc (.bool !b)) st ρ (.bool !b) w l (both _) (.refl _) (.bool _) hs)
noncomputable def partP {D : Nat} (f : LoudP D) : LoudP D := fun F Fp T st k => f F Fp T st fun x st' => splitS x fun x' => k x' st'
theorem partP_ok {f : LoudP D} (hf : LoudOkP P G D o f) : LoudOkP P G D o (partP f) := by
  intro F Fp T st k hF hFp h W R ρ a w l hO hG hs K Q hK
  refine hf F Fp T st _ hF hFp h W R ρ a w l hO hG hs K Q fun x st' ρ' v' w' l' hk hle hv hs' => ?_
  obtain ⟨x', hk', hv'⟩ := splitS_ok hk hv
  exact hK x' st' ρ' v' w' l' hk' hle hv' hs'
noncomputable def opP {P : Program} {G D : Nat} (c : Cls P G D) (o : Oper) : Box (LoudP D) := match o.op with
  | .load .. | .extract .. | .field .. | .index .. | .call .. => bx (opP0 c o) fun f => ⟨partP f⟩
  | .indexAddr _ x _ => bx (opP0 c o) fun f => bx (opC c o) fun g => bx (evC D x) fun ex => ⟨fun F Fp T st k => match bslOf (ex T) with
    | some _ => g F T st k
    | none => f F Fp T st k⟩
  | .binOp op t x y _ => cond (eqOp op && !P.eqGuardType P.depth t) (bx (opP0 c o) fun f => bx (evC D x) fun ex => bx (evC D y) fun ey => ⟨eqP (P := P) t ex ey f⟩) (opP0 c o)
  | _ => opP0 c o
theorem opP_ok (hN : NoNum P) (c : Cls P G D) (hs : notSelect o = true) : LoudOkP P G D o (opP c o).f := by
  unfold opP
  split
  · rw [bx_f]; exact partP_ok (opP0_ok hN c hs)
  · rw [bx_f]; exact partP_ok (opP0_ok hN c hs)
  · rw [bx_f]; exact partP_ok (opP0_ok hN c hs)
  · rw [bx_f]; exact partP_ok (opP0_ok hN c hs)
  · rw [bx_f]; exact partP_ok (opP0_ok hN c hs)
  · rw [bx_f, bx_f, bx_f]
    intro F Fp T st k hF hFp h
    cases hq : bslOf (evX T _) with
    | some q =>
      have h : (match bslOf (evX T _) with
        | some _ => (opC c o).f F T st k
        | none => (opP0 c o).f F Fp T st k) = true := h
      rw [hq] at h
      exact (opC_ok c hs).p F Fp T st k hF hFp h
    | none =>
      have h : (match bslOf (evX T _) with
        | some _ => (opC c o).f F T st k
        | none => (opP0 c o).f F Fp T st k) = true := h
      rw [hq] at h
      exact opP0_ok hN c hs F Fp T st k hF hFp h
  · rename_i op t x y t2 hop
    cases hb : (eqOp op && !P.eqGuardType P.depth t) with
    | false => rw [cond_false]; exact opP0_ok hN c hs
    | true =>
      rw [Bool.and_eq_true] at hb
      rw [cond_true, bx_f, bx_f, bx_f]
      refine eqP_ok (op := op) ?_ hop (by simpa using hb.2) (opP0_ok hN c hs)
      have := hb.1
      unfold eqOp at this
      split at this
      · exact .inl rfl
      · exact .inr rfl
      · cases this
  · exact opP0_ok hN c hs
/-- Slots that are parted. -/
noncomputable def splitSl {D : Nat} (ds : List Nat) (T : Sl D) (k : Sl D → Bool) : Bool := List.rec (motive := fun _ => Sl D → Bool) (fun T => k T) (fun d _ ih T => splitS (get T d) fun x => ih (set d x T)) ds T
theorem splitSl_ok {N : Nat} {ts : Array Value} (hND : N ≤ 8 ^ D) : ∀ {ds : List Nat} {T : Sl D} {k : Sl D → Bool}, ds.all (fun d => Nat.blt d N) = true → splitSl ds T k = true → SlF N ρ T ts → ∃ T', k T' = true ∧ SlF N ρ T' ts
  | [], T, k, _, h, hs => ⟨T, h, hs⟩
  | d :: ds, T, k, ha, h, hs => by
    rw [List.all_cons, Bool.and_eq_true] at ha
    have hd : d < N := Nat.le_of_ble_eq_true ha.1
    have h : splitS (get T d) (fun x => splitSl ds (set d x T) k) = true := h
    have hw : ∃ x, splitSl ds (set d x T) k = true ∧ (freeX x = false → VR ρ x.toV (ts.getD d undef)) := by
      cases hf : freeX (get T d) with
      | false =>
        obtain ⟨x, hx, hv⟩ := splitS_ok h (hs.rel d hd hf)
        exact ⟨x, hx, fun _ => hv⟩
      | true =>
        have : ∃ v, get T d = .raw v := by
          generalize get T d = x at hf
          cases x <;> first | exact ⟨_, rfl⟩ | cases hf
        obtain ⟨v, hv⟩ := this
        rw [hv] at h
        exact ⟨.raw v, h, fun q => by cases q⟩
    obtain ⟨x, hx, hv⟩ := hw
    refine splitSl_ok hND ha.2 hx ⟨hs.size, fun j hj => ?_⟩
    by_cases e : d = j
    · subst e; rw [get_set_same]; exact hv
    · rw [get_set_other _ e D _ (by omega) (by omega)]; exact hs.rel j hj
def dstsOf (N : Nat) (ops : Array Oper) : List Nat := (ops.toList.filterMap (·.dst)).filter fun d => Nat.blt d N
theorem dstsOf_ok (N : Nat) (ops : Array Oper) : (dstsOf N ops).all (fun d => Nat.blt d N) = true := by
  unfold dstsOf
  exact List.all_eq_true.2 fun d hd => (List.mem_filter.1 hd).2
/-! ### A test of an index against an unknown length -/
def symLenOf (x : X) : Option (Nat × Nat) := match x with
  | .sc (.oth (.complex .f32 a b)) => cond (Nat.beq (a % 8) 1) (some (a / 8, b)) none
  | _ => none
theorem symLen_real {ρ : Names} {x : X} {v : Value} {i lo : Nat} (h : symLenOf x = some (i, lo)) (hr : VR ρ x.toV v) : ∃ (a : Option Addr) (n c : Nat), v = .int .i64 (n : Int) ∧ ρ.s.2 i = .slice a n c ∧ lo ≤ n ∧ n ≤ maxLen := by
  unfold symLenOf at h
  split at h
  · rename_i a b
    cases hb : Nat.beq (a % 8) 1 with
    | false => rw [hb] at h; cases h
    | true =>
      rw [hb] at h
      have hm := Nat.eq_of_beq_eq_true hb
      have hr : VR ρ (.complex .f32 a b) v := hr
      cases hr with
      | any hs => simp at hm
      | symS h1 h2 h3 h4 h5 => omega
      | @symLen i' lo' ad n c h1 h2 h3 =>
        rw [cond_true, show (i' * 8 + 1) / 8 = i' by omega] at h
        cases h
        exact ⟨ad, n, c, rfl, h1, h2, h3⟩
      | ptrI h1 => omega
      | modI h1 h2 => omega
      | anyB b => omega
      | bsl h1 => omega
      | bslU h1 h2 => omega
      | bptr h1 => omega
  · cases h
def litI64 (x : X) : Option Nat := match x with
  | .sc (.int .i64 n) => some n
  | _ => none
theorem litI64_eq {x : X} {n : Nat} (h : litI64 x = some n) : x = .sc (.int .i64 n) := by
  unfold litI64 at h
  split at h
  · cases h; rfl
  · cases h
noncomputable def symSX (i lo sz : Nat) : X := .sc (.oth (.complex .f32 (i * 8 + 2) (lo * 64 + sz)))
/-- Every slot that holds the slice i: it has at least lo rows. -/
noncomputable def raise {D : Nat} (i lo : Nat) (T : Sl D) : Nat → Sl D := Nat.rec (motive := fun _ => Sl D) T (fun p ih => match symSOf (get T p) with
  | some (i', lo', sz) => cond (Nat.beq i' i && Nat.blt lo' lo) (set p (symSX i lo sz) ih) ih
  | none => ih)
theorem symSOf_sz {x : X} {i lo sz : Nat} (h : symSOf x = some (i, lo, sz)) : sz < 64 := by
  unfold symSOf at h
  split at h
  · rename_i a b
    cases hb : Nat.beq (a % 8) 2 with
    | false => rw [hb] at h; cases h
    | true => rw [hb] at h; cases h; omega
  · cases h
theorem raise_slr {N : Nat} {ts : Array Value} {i lo : Nat} (hND : N ≤ 8 ^ D) (h : SlF N ρ T ts) (hn : ∀ a n c, ρ.s.2 i = .slice a n c → lo ≤ n) : ∀ p, p ≤ N → SlF N ρ (raise i lo T p) ts
  | 0, _ => h
  | p + 1, hp => by
    have ih := raise_slr hND h hn p (by omega)
    have e : raise i lo T (p + 1) = (match symSOf (get T p) with
      | some (i', lo', sz) => cond (Nat.beq i' i && Nat.blt lo' lo) (set p (symSX i lo sz) (raise i lo T p)) (raise i lo T p)
      | none => raise i lo T p) := rfl
    rw [e]
    split
    · rename_i i' lo' sz hsy
      cases hb : (Nat.beq i' i && Nat.blt lo' lo) with
      | false => exact ih
      | true =>
        rw [Bool.and_eq_true] at hb
        have hii := Nat.eq_of_beq_eq_true hb.1
        subst hii
        refine ⟨ih.size, fun j hj => ?_⟩
        by_cases hjp : p = j
        · subst hjp
          rw [cond_true, get_set_same]
          obtain ⟨a, n, c, hv, h1, h2, h3, h4⟩ := symS_real hsy (h.rel p hj (by
            generalize get T p = x at hsy
            unfold symSOf at hsy
            split at hsy <;> first | rfl | cases hsy))
          rw [hv]
          exact fun _ => .symS h1 (hn _ _ _ h1) h3 (symSOf_sz hsy) h4
        · rw [cond_true, get_set_other _ hjp D _ (by omega) (by omega)]
          exact ih.rel j hj
    · exact ih
/-! ### Lists -/
/-- With a check that no operand is free. -/
noncomputable def liveP {D : Nat} (o : Oper) (b : Box (LoudP D)) : Box (LoudP D) := bx b fun f => bx (liveC D o) fun lv => ⟨fun F Fp T st k => cond (lv T) (f F Fp T st k) false⟩
noncomputable def opL {P : Program} {G D : Nat} (c : Cls P G D) (o : Oper) : Box (LoudP D) := liveP o (opP c o)
def LoudOkL (P : Program) (G D : Nat) (o : Oper) (f : LoudP D) : Prop :=
  ∀ F Fp T st k, FnsOk P G F → FnsOkP P G Fp → f F Fp T st k = true → (liveC D o).f T = true ∧ ∀ W R ρ a w l, OpR ρ T a o → Glob G ρ → Sim W R w ρ st l → ∀ (K : Act → World → Prop) (Q : Exit → Act → World → Prop),
    (∀ x st' ρ' v' w' l', k x st' = true → NLe ρ ρ' → VR ρ' x.toV v' → Sim W R w' ρ' st' l' → K (a.put o.dst v') w') → o.wp P a w K Q
theorem liveP_ok {b : Box (LoudP D)} (h : LoudOkP P G D o b.f) : LoudOkL P G D o (liveP o b).f := by
  intro F Fp T st k hF hFp hf
  unfold liveP at hf
  rw [bx_f, bx_f] at hf
  have hf : cond ((liveC D o).f T) (b.f F Fp T st k) false = true := hf
  cases hl : (liveC D o).f T with
  | false => rw [hl] at hf; cases hf
  | true =>
    rw [hl] at hf
    exact ⟨rfl, h F Fp T st k hF hFp hf⟩
theorem opL_ok (hN : NoNum P) (c : Cls P G D) (hs : notSelect o = true) : LoudOkL P G D o (opL c o).f := liveP_ok (opP_ok hN c hs)
abbrev ListP (D : Nat) := Fns → Fns → Sl D → St → (Sl D → St → Bool) → Bool
/-- An index against an unknown length: on the true way the slice has that many rows. -/
noncomputable def refP {D : Nat} (N : Nat) (ex ey : Sl D → X) (s : X → Sl D → Sl D) (r main : ListP D) : ListP D := fun F Fp T st k => match litI64 (ex T), symLenOf (ey T) with
  | some j, some (i, lo) => cond (Nat.blt j lo) (r F Fp (s (.sc (.bool true)) T) st k) (cond (r F Fp (s (.sc (.bool true)) (raise i (j + 1) T N)) st k) (r F Fp (s (.sc (.bool false)) T) st k) false)
  | _, _ => main F Fp T st k
def isLss (o : Oper) : Option (Operand × Operand) := match o.op, o.guard with
  | .binOp .lss _ x y _, none => some (x, y)
  | _, _ => none
noncomputable def withRef {D : Nat} (N : Nat) (o : Oper) (s : X → Sl D → Sl D) (r main : ListP D) : Box (ListP D) := match isLss o with
  | some (x, y) => bx (evC D x) fun ex => bx (evC D y) fun ey => ⟨fun F Fp T st k => refP N ex ey s r main F Fp T st k⟩
  | none => ⟨main⟩
noncomputable def listP {P : Program} {G D : Nat} (N : Nat) (c : Cls P G D) (ops : Array Oper) (rest : List Oper) : Box (ListP D) :=
  List.rec (motive := fun _ => Box (ListP D)) ⟨fun _ _ T st k => k T st⟩
    (fun o _ ih => cond (operOk N G o) (bx ih fun r => bx (opL c o) fun f => bx (putC D o.dst) fun s => match o.guard with
      | none => withRef N o s r (fun F Fp T st k => f F Fp T st fun x st' => r F Fp (s x T) st' k)
      | some _ => bx (guardC N D ops o) fun gd => ⟨fun F Fp T st k => gd T (f F Fp T st fun x st' => r F Fp (s x T) st' k) (r F Fp (s .nil T) st k)⟩) ⟨fun _ _ _ _ _ => false⟩) rest
def ListOkP (P : Program) (G N D : Nat) (ops : Array Oper) (rest : List Oper) (g : ListP D) : Prop :=
  ∀ F Fp T st k, FnsOk P G F → FnsOkP P G Fp → g F Fp T st k = true → ∀ W R ρ a w l, SlF N ρ T a.tmps → Glob G ρ → Sim W R w ρ st l → ∀ (Q : Exit → Act → World → Prop),
    (∀ T' st' ρ' a' w' l', k T' st' = true → NLe ρ ρ' → SlF N ρ' T' a'.tmps → a'.defers = a.defers → Sim W R w' ρ' st' l' → Q .normal a' w') → wpList P ops Q rest a w
noncomputable def consP {D : Nat} (gd : Sl D → Bool → Bool → Bool) (f : LoudP D) (s : X → Sl D → Sl D) (rest : ListP D) : ListP D :=
  fun F Fp T st k => gd T (f F Fp T st fun x st' => rest F Fp (s x T) st' k) (rest F Fp (s .nil T) st k)
theorem consP_ok {N : Nat} {ops : Array Oper} (hND : N ≤ 8 ^ D) {rest : List Oper} (ho : operOk N G o = true) {f : LoudP D} (hf : LoudOkL P G D o f) {r : ListP D} (hr : ListOkP P G N D ops rest r) :
    ListOkP P G N D ops (o :: rest) (consP (guardC N D ops o).f f (putC D o.dst).f r) := by
  intro F Fp T st k hF hFp h W R ρ a w l hs hG hsim Q hQ
  have hd : dstOk N o = true := by unfold operOk at ho; rw [Bool.and_eq_true, Bool.and_eq_true] at ho; exact ho.2.2
  unfold consP at h
  have hgr := guard_relF h hs
  rcases guardC_sound h with ⟨h, hw⟩ | ⟨h, hw⟩
  · refine Go.BigFrame.wpList_want (hw ρ a hgr) fun K hK => ?_
    obtain ⟨hlv, hf⟩ := hf F Fp T st _ hF hFp h
    refine hf W R ρ a w l (operOk_oprF ho hlv hs hG) hG hsim K Q fun x st' ρ' v' w' l' hk hle hv hs' => hK _ _ ?_
    obtain ⟨p1, p2⟩ := put_slf hND (hs.mono hle) hd hv
    exact hr F Fp _ _ _ hF hFp hk W R ρ' _ w' l' p1 (hG.mono hle) hs' Q fun T3 st3 ρ3 a3 w3 l3 hk3 hle3 hs3 hd3 hsim3 => hQ T3 st3 ρ3 a3 w3 l3 hk3 (hle.trans hle3) hs3 (hd3.trans p2) hsim3
  · refine wpList_skip (hw ρ a hgr) ?_
    obtain ⟨p1, p2⟩ := put_slf hND hs hd (x := .nil) (v := undef) (.undef ρ)
    exact hr F Fp _ _ _ hF hFp h W R ρ _ w l p1 hG hsim Q fun T3 st3 ρ3 a3 w3 l3 hk3 hle3 hs3 hd3 hsim3 => hQ T3 st3 ρ3 a3 w3 l3 hk3 hle3 hs3 (hd3.trans p2) hsim3
theorem withRef_ok {N : Nat} {ops : Array Oper} (hND : N ≤ 8 ^ D) {rest : List Oper} (ho : operOk N G o = true) {r main : ListP D} (hr : ListOkP P G N D ops rest r) (hm : ListOkP P G N D ops (o :: rest) main) :
    ListOkP P G N D ops (o :: rest) (withRef N o (putC D o.dst).f r main).f := by
  unfold withRef
  cases hl : isLss o with
  | none => exact hm
  | some xy =>
    obtain ⟨x, y⟩ := xy
    dsimp only
    rw [bx_f, bx_f]
    have hop : ∃ t t2, o.op = .binOp .lss t x y t2 ∧ o.guard = none := by
      unfold isLss at hl
      split at hl
      · rename_i t x' y' t2 h1 h2
        cases hl
        exact ⟨t, t2, h1, h2⟩
      · cases hl
    obtain ⟨t, t2, hop, hg⟩ := hop
    intro F Fp T st k hF hFp h
    have h : (match litI64 (evX T x), symLenOf (evX T y) with
      | some j, some (i, lo) => cond (Nat.blt j lo) (r F Fp ((putC D o.dst).f (.sc (.bool true)) T) st k) (cond (r F Fp ((putC D o.dst).f (.sc (.bool true)) (raise i (j + 1) T N)) st k) (r F Fp ((putC D o.dst).f (.sc (.bool false)) T) st k) false)
      | _, _ => main F Fp T st k) = true := h
    split at h
    · rename_i j i lo hj hi
      intro W R ρ a w l hs hG hsim Q hQ
      have hd : dstOk N o = true := by unfold operOk at ho; rw [Bool.and_eq_true, Bool.and_eq_true] at ho; exact ho.2.2
      have hx := evX_relF hs hG (operOk_one ho (show x ∈ o.op.operands by rw [hop]; simp [Op.operands])) (by rw [litI64_eq hj]; rfl)
      have hy := evX_relF hs hG (operOk_one ho (show y ∈ o.op.operands by rw [hop]; simp [Op.operands])) (by
        generalize evX T y = z at hi
        unfold symLenOf at hi
        split at hi <;> first | rfl | cases hi)
      rw [litI64_eq hj] at hx
      have ex := int_real hx
      obtain ⟨ad, n, c, ey, hsy, hlo, _⟩ := symLen_real hi hy
      have run : ∀ w, (execOp a.eval o).run P w = .ok (.value (.bool (decide ((j : Int) < (n : Int))))) w := run_bin2 hop ex ey fun w => by rw [run_int2 _ _ _ _ _ (by intro q; cases q) (by intro q; cases q)]; rfl
      refine Go.BigFrame.wpList_want (by unfold Region.wanted; rw [hg]) fun K hK => ?_
      unfold Oper.wp
      rw [run w]
      refine hK _ _ ?_
      have fin : ∀ (b : Bool) (T' : Sl D), SlF N ρ T' a.tmps → decide ((j : Int) < (n : Int)) = b → r F Fp ((putC D o.dst).f (.sc (.bool b)) T') st k = true → wpList P ops Q rest (a.put o.dst (.bool (decide ((j : Int) < (n : Int))))) w := by
        intro b T' hs' hb h
        obtain ⟨p1, p2⟩ := put_slf hND hs' hd (x := .sc (.bool b)) (v := .bool (decide ((j : Int) < (n : Int)))) (by rw [hb]; exact .bool b)
        exact hr F Fp _ _ _ hF hFp h W R ρ _ w l p1 hG hsim Q fun T3 st3 ρ3 a3 w3 l3 hk3 hle3 hs3 hd3 hsim3 => hQ T3 st3 ρ3 a3 w3 l3 hk3 hle3 hs3 (hd3.trans p2) hsim3
      cases hb : Nat.blt j lo with
      | true =>
        rw [hb, cond_true] at h
        have := Nat.le_of_ble_eq_true hb
        exact fin true T hs (decide_eq_true (by omega)) h
      | false =>
        rw [hb, cond_false] at h
        by_cases hjn : (j : Int) < (n : Int)
        · cases h1 : r F Fp ((putC D o.dst).f (.sc (.bool true)) (raise i (j + 1) T N)) st k with
          | false => rw [h1] at h; cases h
          | true => exact fin true _ (raise_slr hND hs (fun a' n' c' h' => by rw [hsy] at h'; cases h'; omega) N (Nat.le_refl _)) (decide_eq_true hjn) h1
        · cases h1 : r F Fp ((putC D o.dst).f (.sc (.bool true)) (raise i (j + 1) T N)) st k with
          | false => rw [h1] at h; cases h
          | true =>
            rw [h1, cond_true] at h
            exact fin false T hs (decide_eq_false hjn) h
    · exact hm F Fp T st k hF hFp h
theorem listP_ok {N : Nat} (hN : NoNum P) (c : Cls P G D) (hND : N ≤ 8 ^ D) (ops : Array Oper) : ∀ rest : List Oper, ListOkP P G N D ops rest (listP N c ops rest).f
  | [] => fun F Fp T st k _ _ h W R ρ a w l hs hG hsim Q hQ => hQ T st ρ a w l h (.refl _) hs rfl hsim
  | o :: rest => by
    have ih := listP_ok hN c hND ops rest
    have e : listP N c ops (o :: rest) = cond (operOk N G o) (bx (listP N c ops rest) fun r => bx (opL c o) fun f => bx (putC D o.dst) fun s => match o.guard with
      | none => withRef N o s r (fun F Fp T st k => f F Fp T st fun x st' => r F Fp (s x T) st' k)
      | some _ => bx (guardC N D ops o) fun gd => ⟨fun F Fp T st k => gd T (f F Fp T st fun x st' => r F Fp (s x T) st' k) (r F Fp (s .nil T) st k)⟩) ⟨fun _ _ _ _ _ => false⟩ := rfl
    rw [e]
    cases ho : operOk N G o with
    | false => intro F Fp T st k _ _ h; cases h
    | true =>
      rw [cond_true, bx_f, bx_f, bx_f]
      have ns : notSelect o = true := by unfold operOk at ho; rw [Bool.and_eq_true] at ho; exact ho.1
      have main := consP_ok (ops := ops) hND ho (opL_ok hN c ns) ih
      cases hg : o.guard with
      | none =>
        have : (guardC N D ops o).f = fun _ kt _ => kt := by unfold guardC; rw [hg]
        rw [this] at main
        exact withRef_ok hND ho ih main
      | some q =>
        dsimp only
        rw [bx_f]
        exact main
end
end
section
open Go
/-- The orders of a region: done; this operation first (no other minds); these, one or the other. -/
inductive OT
  | done
  | take (i : Nat) (t : OT)
  | alt (i : Nat) (t r : OT)
  | stop
def kind0 (ops : Array Oper) (i : Nat) : Bool := match ops[i]? with
  | some o => Nat.beq (kindOf o.op) 0 && notSelect o
  | none => false
/-- At most so many orders are written down. -/
def mkB (ops : Array Oper) : Nat → Nat → Array Bool → OT × Nat
  | 0, b, _ => (.done, b - 1)
  | n + 1, b, L => match b with
    | 0 => (.stop, 0)
    | b + 1 => match Region.ready .any ops L with
      | [] => (.done, b)
      | j :: rs => match (j :: rs).find? (fun i => kind0 ops i && Region.free .any ops L i) with
        | some i => let r := mkB ops n (b + 1) (L.setIfInBounds i true)
          (.take i r.1, r.2)
        | none => (j :: rs).foldr (fun i acc => let r := mkB ops n acc.2 (L.setIfInBounds i true)
          (.alt i r.1 acc.1, r.2)) (.stop, b + 1)
def okT (ops : Array Oper) : OT → Nat → Array Bool → Option (List Nat) → Bool
  | .done, _, L, none => (Region.ready .any ops L).isEmpty
  | .take i t, n + 1, L, none => kind0 ops i && (Region.free .any ops L i && ((Region.ready .any ops L).contains i && okT ops t n (L.setIfInBounds i true) none))
  | .alt i t r, n + 1, L, none => (match Region.ready .any ops L with
    | j :: rs => Nat.beq i j && (okT ops t n (L.setIfInBounds i true) none && okT ops r (n + 1) L (some rs))
    | [] => false)
  | .alt i t r, n + 1, L, some (j :: rs) => Nat.beq i j && (okT ops t n (L.setIfInBounds i true) none && okT ops r (n + 1) L (some rs))
  | .stop, _, _, some [] => true
  | _, _, _, _ => false
def treeA (ops : Array Oper) : OT := (mkB ops ops.size 24 (Array.replicate ops.size false)).1
def hasGuard (ops : Array Oper) : Bool := ops.any fun o => o.guard.isSome
def useA (ops : Array Oper) : Bool := hasGuard ops && (Region.noSelect ops && okT ops (treeA ops) ops.size (Array.replicate ops.size false) none)
section
variable {P : Program} {G N D : Nat}
noncomputable def nodeF (c : Cls P G D) (ops : Array Oper) (N : Nat) (mk : Oper → Box (LoudP D)) (i : Nat) (next : Box (ListP D)) : Box (ListP D) := match ops[i]? with
  | some o => cond (operOk N G o) (bx next fun r => bx (mk o) fun f => bx (putC D o.dst) fun s => bx (guardC N D ops o) fun gd => ⟨consP gd f s r⟩) ⟨fun _ _ _ _ _ => false⟩
  | none => ⟨fun _ _ _ _ _ => false⟩
noncomputable def pureP (c : Cls P G D) (o : Oper) : Box (LoudP D) := bx (c.pure_ o) fun f => bx (liveC D o) fun lv => ⟨fun _ _ T st k => cond (lv T) (f T fun x => splitS x fun x' => k x' st) false⟩
noncomputable def runT (N : Nat) (c : Cls P G D) (ops : Array Oper) (t : OT) : Box (ListP D) := OT.rec (motive := fun _ => Box (ListP D)) ⟨fun _ _ T st k => k T st⟩
  (fun i _ ih => nodeF c ops N (pureP c) i ih)
  (fun i _ _ iht ihr => bx (nodeF c ops N (opL c) i iht) fun a => bx ihr fun b => ⟨fun F Fp T st k => cond (a F Fp T st k) (b F Fp T st k) false⟩)
  ⟨fun _ _ _ _ _ => true⟩ t
/-- A run of what is left of a region. -/
def AnyOk (P : Program) (G N D : Nat) (ops : Array Oper) (g : ListP D) (Y : (Exit → Act → World → Prop) → Act → World → Prop) : Prop :=
  ∀ F Fp T st k, FnsOk P G F → FnsOkP P G Fp → g F Fp T st k = true → ∀ W R ρ a w l, SlF N ρ T a.tmps → Glob G ρ → Sim W R w ρ st l → ∀ (Q : Exit → Act → World → Prop), (∀ c a w, ¬ Q (.panic c) a w) →
    (∀ T' st' ρ' a' w' l', k T' st' = true → NLe ρ ρ' → SlF N ρ' T' a'.tmps → a'.defers = a.defers → Sim W R w' ρ' st' l' → Q .normal a' w') → Y Q a w
theorem node_any {ops : Array Oper} (hND : N ≤ 8 ^ D) {c : Cls P G D} {i n : Nat} {L : Array Bool} {r : Box (ListP D)} (hr : AnyOk P G N D ops r.f fun Q a w => wpAny P .any ops Q n (L.setIfInBounds i true) a w) (hN : NoNum P) :
    AnyOk P G N D ops (nodeF c ops N (opL c) i r).f fun Q a w => wpOp P ops Q i (wpAny P .any ops Q n (L.setIfInBounds i true)) a w := by
  intro F Fp T st k hF hFp h W R ρ a w l hs hG hsim Q hpan hQ
  unfold nodeF at h
  cases ho : ops[i]? with
  | none => rw [ho] at h; cases h
  | some o =>
    rw [ho] at h
    dsimp only at h
    cases hok : operOk N G o with
    | false => rw [hok] at h; cases h
    | true =>
      rw [hok, cond_true, bx_f, bx_f, bx_f, bx_f] at h
      have hd : dstOk N o = true := by have := hok; unfold operOk at this; rw [Bool.and_eq_true, Bool.and_eq_true] at this; exact this.2.2
      have ns : notSelect o = true := by have := hok; unfold operOk at this; rw [Bool.and_eq_true] at this; exact this.1
      have h : consP (guardC N D ops o).f (opL c o).f (putC D o.dst).f r.f F Fp T st k = true := h
      unfold consP at h
      unfold wpOp
      rw [ho]
      dsimp only
      have hgr := guard_relF h hs
      rcases guardC_sound h with ⟨h, hw⟩ | ⟨h, hw⟩
      · rw [hw ρ a hgr]
        rw [if_pos rfl]
        obtain ⟨hlv, hop⟩ := opL_ok hN c ns F Fp T st _ hF hFp h
        refine .inl (hop W R ρ a w l (operOk_oprF hok hlv hs hG) hG hsim _ Q fun x st' ρ' v' w' l' hk hle hv hs' => ?_)
        obtain ⟨p1, p2⟩ := put_slf hND (hs.mono hle) hd hv
        exact hr F Fp _ _ _ hF hFp hk W R ρ' _ w' l' p1 (hG.mono hle) hs' Q hpan fun T3 st3 ρ3 a3 w3 l3 hk3 hle3 hs3 hd3 hsim3 => hQ T3 st3 ρ3 a3 w3 l3 hk3 (hle.trans hle3) hs3 (hd3.trans p2) hsim3
      · rw [hw ρ a hgr]
        rw [if_neg (by simp)]
        obtain ⟨p1, p2⟩ := put_slf hND hs hd (x := .nil) (v := undef) (.undef ρ)
        exact hr F Fp _ _ _ hF hFp h W R ρ _ w l p1 hG hsim Q hpan fun T3 st3 ρ3 a3 w3 l3 hk3 hle3 hs3 hd3 hsim3 => hQ T3 st3 ρ3 a3 w3 l3 hk3 hle3 hs3 (hd3.trans p2) hsim3
theorem take_any {ops : Array Oper} (hND : N ≤ 8 ^ D) {c : Cls P G D} {i n : Nat} {L : Array Bool} {r : Box (ListP D)} (hr : AnyOk P G N D ops r.f fun Q a w => wpAny P .any ops Q n (L.setIfInBounds i true) a w)
    (hsel : Region.noSelect ops = true) (hfree : Region.free .any ops L i = true) (hc : (Region.ready .any ops L).contains i = true) :
    AnyOk P G N D ops (nodeF c ops N (pureP c) i r).f fun Q a w => wpAny P .any ops Q (n + 1) L a w := by
  intro F Fp T st k hF hFp h W R ρ a w l hs hG hsim Q hpan hQ
  unfold nodeF at h
  cases ho : ops[i]? with
  | none => rw [ho] at h; cases h
  | some o =>
    rw [ho] at h
    dsimp only at h
    cases hok : operOk N G o with
    | false => rw [hok] at h; cases h
    | true =>
      rw [hok, cond_true, bx_f, bx_f, bx_f, bx_f] at h
      have hd : dstOk N o = true := by have := hok; unfold operOk at this; rw [Bool.and_eq_true, Bool.and_eq_true] at this; exact this.2.2
      have ns : notSelect o = true := by have := hok; unfold operOk at this; rw [Bool.and_eq_true] at this; exact this.1
      have h : consP (guardC N D ops o).f (pureP c o).f (putC D o.dst).f r.f F Fp T st k = true := h
      unfold consP at h
      have hgr := guard_relF h hs
      rcases guardC_sound h with ⟨h, hw⟩ | ⟨h, hw⟩
      · unfold pureP at h
        rw [bx_f, bx_f] at h
        have h : cond ((liveC D o).f T) ((c.pure_ o).f T fun x => splitS x fun x' => r.f F Fp ((putC D o.dst).f x' T) st k) false = true := h
        have hlv : (liveC D o).f T = true := by
          cases hl : (liveC D o).f T with
          | true => rfl
          | false => rw [hl] at h; cases h
        rw [hlv, cond_true] at h
        obtain ⟨x, hx, hans⟩ := c.pureOk o ns T _ h
        obtain ⟨v', hv, hrun⟩ := hans ρ a (operOk_oprF hok hlv hs hG) hG
        obtain ⟨x', hk, hv'⟩ := splitS_ok hx hv
        obtain ⟨p1, p2⟩ := put_slf hND hs hd hv'
        exact wpAny_take ho hsel hfree hc (fun c a w q => absurd q (hpan c _ w)) (.inl ⟨hw ρ a hgr, hrun⟩)
          (hr F Fp _ _ _ hF hFp hk W R ρ _ w l p1 hG hsim Q hpan fun T3 st3 ρ3 a3 w3 l3 hk3 hle3 hs3 hd3 hsim3 => hQ T3 st3 ρ3 a3 w3 l3 hk3 hle3 hs3 (hd3.trans p2) hsim3)
      · obtain ⟨p1, p2⟩ := put_slf hND hs hd (x := .nil) (v := undef) (.undef ρ)
        exact wpAny_take ho hsel hfree hc (fun c a w q => absurd q (hpan c _ w)) (.inr ⟨hw ρ a hgr, rfl⟩)
          (hr F Fp _ _ _ hF hFp h W R ρ _ w l p1 hG hsim Q hpan fun T3 st3 ρ3 a3 w3 l3 hk3 hle3 hs3 hd3 hsim3 => hQ T3 st3 ρ3 a3 w3 l3 hk3 hle3 hs3 (hd3.trans p2) hsim3)
theorem runT_ok {ops : Array Oper} (hND : N ≤ 8 ^ D) (hN : NoNum P) {c : Cls P G D} (hsel : Region.noSelect ops = true) : ∀ (t : OT),
    (∀ n L, okT ops t n L none = true → AnyOk P G N D ops (runT N c ops t).f fun Q a w => wpAny P .any ops Q n L a w) ∧
    (∀ n L rs, okT ops t (n + 1) L (some rs) = true → AnyOk P G N D ops (runT N c ops t).f fun Q a w => ∀ i ∈ rs, wpOp P ops Q i (wpAny P .any ops Q n (L.setIfInBounds i true)) a w) := by
  intro t
  induction t with
  | done =>
    refine ⟨fun n L h F Fp T st k _ _ hk W R ρ a w l hs hG hsim Q hpan hQ => ?_, fun n L rs h => by unfold okT at h; cases h⟩
    unfold okT at h
    exact wpAny_done (by simpa using h) (hQ T st ρ a w l hk (.refl _) hs rfl hsim) n
  | take i t ih =>
    refine ⟨fun n L h => ?_, fun n L rs h => by unfold okT at h; cases h⟩
    cases n with
    | zero => unfold okT at h; cases h
    | succ n =>
      unfold okT at h
      simp only [Bool.and_eq_true] at h
      exact take_any hND (ih.1 n _ h.2.2.2) hsel h.2.1 h.2.2.1
  | alt i t r iht ihr =>
    have e : ∀ F Fp T st k, (runT N c ops (.alt i t r)).f F Fp T st k = cond ((nodeF c ops N (opL c) i (runT N c ops t)).f F Fp T st k) ((runT N c ops r).f F Fp T st k) false := fun F Fp T st k => by
      show (bx (nodeF c ops N (opL c) i (runT N c ops t)) fun a => bx (runT N c ops r) fun b => (⟨fun F Fp T st k => cond (a F Fp T st k) (b F Fp T st k) false⟩ : Box (ListP D))).f F Fp T st k = _
      rw [bx_f, bx_f]
    have key : ∀ n L j rs, Nat.beq i j = true → okT ops t n (L.setIfInBounds i true) none = true → okT ops r (n + 1) L (some rs) = true → AnyOk P G N D ops (runT N c ops (.alt i t r)).f fun Q a w => ∀ q ∈ j :: rs, wpOp P ops Q q (wpAny P .any ops Q n (L.setIfInBounds q true)) a w := by
      intro n L j rs hij h1 h2 F Fp T st k hF hFp h W R ρ a w l hs hG hsim Q hpan hQ q hq
      have hij := Nat.eq_of_beq_eq_true hij
      subst hij
      rw [e] at h
      cases ha : (nodeF c ops N (opL c) i (runT N c ops t)).f F Fp T st k with
      | false => rw [ha] at h; cases h
      | true =>
        rw [ha, cond_true] at h
        rcases List.mem_cons.1 hq with rfl | hq
        · exact node_any hND (iht.1 n _ h1) hN F Fp T st k hF hFp ha W R ρ a w l hs hG hsim Q hpan hQ
        · exact ihr.2 n L rs h2 F Fp T st k hF hFp h W R ρ a w l hs hG hsim Q hpan hQ q hq
    refine ⟨fun n L h => ?_, fun n L rs h => ?_⟩
    · cases n with
      | zero => unfold okT at h; cases h
      | succ n =>
        unfold okT at h
        cases hr : Region.ready .any ops L with
        | nil => rw [hr] at h; cases h
        | cons j rs =>
          rw [hr] at h
          simp only [Bool.and_eq_true] at h
          intro F Fp T st k hF hFp hk W R ρ a w l hs hG hsim Q hpan hQ
          exact wpAny_all hr (by simp) (key n L j rs h.1 h.2.1 h.2.2 F Fp T st k hF hFp hk W R ρ a w l hs hG hsim Q hpan hQ)
    · cases rs with
      | nil => unfold okT at h; cases h
      | cons j rs =>
        unfold okT at h
        simp only [Bool.and_eq_true] at h
        exact key n L j rs h.1 h.2.1 h.2.2
  | stop =>
    refine ⟨(fun n L h => by unfold okT at h; cases h), fun n L rs h => ?_⟩
    cases rs with
    | nil => exact fun F Fp T st k _ _ _ W R ρ a w l _ _ _ Q _ _ i hi => by cases hi
    | cons j rs => unfold okT at h; cases h
/-- All orders of a region. -/
theorem drawA_ok (hN : NoNum P) (hm : P.follows .mixedOrders = true) (hND : N ≤ 8 ^ D) (c : Cls P G D) (ops : Array Oper) (hu : useA ops = true) {F Fp : Fns} {T : Sl D} {st : St} {k : Sl D → St → Bool} (hF : FnsOk P G F) (hFp : FnsOkP P G Fp) (h : (runT N c ops (treeA ops)).f F Fp T st k = true)
    {W : World} {R : Nat → Prop} {ρ : Names} {a : Act} {w : World} {l : Ents} (hs : SlF N ρ T a.tmps) (hG : Glob G ρ) (hsim : Sim W R w ρ st l) (id : Nat) (Q : Exit → Act → World → Prop)
    (hQ : ∀ T' st' ρ' a' w' l', k T' st' = true → NLe ρ ρ' → SlF N ρ' T' a'.tmps → a'.defers = a.defers → Sim W R w' ρ' st' l' → Q .normal a' w') : (Code.region id ops true).wp P Q a w := by
  unfold useA at hu
  rw [Bool.and_eq_true, Bool.and_eq_true] at hu
  refine wp_mono (Q := fun e a w => e = .normal ∧ Q .normal a w) (wp_region_any hm ?_) fun e a w hq => by rw [hq.1]; exact hq.2
  exact (runT_ok hND hN hu.2.1 _).1 _ _ hu.2.2 F Fp T st k hF hFp h W R ρ a _ l hs hG (hsim.drewN 1) _ (fun c a w q => by cases q.1) fun T' st' ρ' a' w' l' hk hle hs' hd hsim' => ⟨rfl, hQ T' st' ρ' a' w' l' hk hle hs' hd hsim'⟩
end
end
section
open Go Go.RowKit Go.BigFrame
/-- What stood in w stands in w'. -/
def Same (w w' : World) : Prop := ∀ g, g < w.heap.size → w'.heap[g]? = w.heap[g]?
theorem Same.cell {w w' : World} (h : Same w w') {g o : Nat} {v : Value} (hc : w.cell? ⟨g, o, none⟩ = some v) : w'.cell? ⟨g, o, none⟩ = some v := by
  unfold World.cell? at hc ⊢
  have hlt : g < w.heap.size := by
    by_cases hq : g < w.heap.size
    · exact hq
    · rw [show w.heap[g]? = none from Array.getElem?_eq_none (by omega)] at hc
      cases hc
  rw [show w'.heap[g]? = w.heap[g]? from h g hlt]
  exact hc
section
variable {P : Program} {G D : Nat} {o : Oper}
def KeepOk (P : Program) (G D : Nat) (o : Oper) (f : ReadC D) : Prop :=
  ∀ T st k, f T st k = true → ∃ x, k x = true ∧ ∀ W R ρ (a : Act) w l, OpR ρ T a o → Glob G ρ → Rk W R w ρ (fnd st) l → ∃ v', VR ρ x.toV v' ∧ ∀ w1, Same w w1 → (execOp a.eval o).run P w1 = .ok (.value v') w1
noncomputable def keepC (P : Program) (G D : Nat) (o : Oper) : Box (ReadC D) := match o.op with
  | .load t x => match loadKind P t with
    | some none => bx (evC D x) fun e => ⟨fun T st k => match bptrOf (e T) with
      | some (j, q) => (match (RT j)[q]? with
        | some ct => k (.sc ct.toV)
        | none => false)
      | none => onPtr (e T) (fun b q => load1 st.H b q k false) false⟩
    | some (some n) => bx (evC D x) fun e => ⟨fun T st k => match bptrOf (e T) with
      | some (j, q) => (match rowT j q n with
        | some l => k (.agg l)
        | none => false)
      | none => onPtr (e T) (fun b q => loadN st.H n b q k false) false⟩
    | none => ⟨fun _ _ _ => false⟩
  | .slice t x lo hi none => match elemSz P t with
    | some (sz, none) => bx (evC D x) fun e => bx (optC D lo) fun fl => bx (optC D hi) fun fh => ⟨fun T _ k => match bslOf (e T) with
      | some (j, n) => fl T fun l => fh T fun h => cond (Nat.beq sz (RT j).length && (Nat.ble (l.getD 0) (h.getD n) && Nat.ble (h.getD n) n)) (k (bslX j (Nat.sub (h.getD n) (l.getD 0)))) false
      | none => false⟩
    | _ => ⟨fun _ _ _ => false⟩
  | _ => ⟨fun _ _ _ => false⟩
theorem keepC_ok : KeepOk P G D o (keepC P G D o).f := by
  unfold keepC
  split
  · rename_i t x hop
    split
    · rename_i hk
      obtain ⟨d, inf, hu, hd, hi⟩ := loadKind_one hk
      rw [bx_f]
      intro T st k h
      have h : (match bptrOf (evX T x) with
        | some (j, q) => (match (RT j)[q]? with
          | some ct => k (.sc ct.toV)
          | none => false)
        | none => onPtr (evX T x) (fun b q => load1 st.H b q k false) false) = true := h
      split at h
      · rename_i j q hx0
        split at h
        · rename_i ct hct
          refine ⟨_, h, fun W R ρ a w l hO _ hrk => ?_⟩
          have hx := hO x (by rw [hop]; simp [Op.operands])
          obtain ⟨g, b, hv, hrow⟩ := bptr_real hx0 hx
          obtain ⟨f, hf⟩ := brow_cell hrk hrow
          obtain ⟨hc, hr⟩ := hf 0 ct (by rw [Nat.add_zero]; exact hct)
          refine ⟨f 0, hr, fun w1 hs => ?_⟩
          simp only [execOp, hop, hv]
          rw [Nat.add_zero] at hc
          exact exec_v (run_loadVar1 (hs.cell hc) hu hd)
        · cases h
      · rcases onPtr_ways h with ⟨b, q, ex, h⟩ | h
        · rcases load1_ways h with ⟨v, h, hc⟩ | h
          · refine ⟨_, h, fun W R ρ a w l hO _ hrk => ?_⟩
            have hx := hO x (by rw [hop]; simp [Op.operands])
            rw [show evX T x = _ from ex] at hx
            obtain ⟨g, c, hkb, hv⟩ := ptr_real hx
            obtain ⟨v', hc', hr⟩ := hrk.cell hkb (show cellO q (fnd st b) = some v.toV from hc)
            refine ⟨v', hr, fun w1 hs => ?_⟩
            simp only [execOp, hop, hv]
            exact exec_v (run_loadVar1 (hs.cell hc') hu hd)
          · cases h
        · cases h
    · rename_i n hk
      obtain ⟨d, inf, hu, hd, hi, hsz⟩ := loadKind_row hk
      rw [bx_f]
      intro T st k h
      have h : (match bptrOf (evX T x) with
        | some (j, q) => (match rowT j q n with
          | some l => k (.agg l)
          | none => false)
        | none => onPtr (evX T x) (fun b q => loadN st.H n b q k false) false) = true := h
      split at h
      · rename_i j q hx0
        split at h
        · rename_i vl hvl
          obtain ⟨hlen, hget⟩ := rowT_get hvl
          refine ⟨_, h, fun W R ρ a w l hO _ hrk => ?_⟩
          have hx := hO x (by rw [hop]; simp [Op.operands])
          obtain ⟨g, b, hv, hrow⟩ := bptr_real hx0 hx
          obtain ⟨f, hf⟩ := brow_cell hrk hrow
          refine ⟨.agg ((List.range n).map f).toArray, ?_, fun w1 hs => ?_⟩
          · have q : LR ρ (vl.map V.toV) ((List.range n).map f) := by
              refine ⟨by simp [hlen], fun i y y' hy hy' => ?_⟩
              rw [List.getElem?_map] at hy hy'
              cases hvi : vl[i]? with
              | none => rw [hvi] at hy; cases hy
              | some u =>
                rw [hvi] at hy
                obtain ⟨hi2, ct, hct, rfl⟩ := hget i u hvi
                rw [List.getElem?_range hi2] at hy'
                cases hy; cases hy'
                exact (hf i ct hct).2
            have q := q.array
            exact .agg q.1 q.2
          · simp only [execOp, hop, hv]
            refine exec_v (run_loadAgg hu hd hi ?_ fun j2 v2 hv2 => ?_)
            · rw [List.length_map, List.length_range, hsz]
            · have hj : j2 < n := by have := (List.getElem?_eq_some_iff.1 hv2).1; simpa using this
              rw [List.getElem?_map, List.getElem?_range hj] at hv2
              cases hv2
              have hlt : j2 < vl.length := by rw [hlen]; exact hj
              obtain ⟨_, ct, hct, _⟩ := hget j2 _ (List.getElem?_eq_getElem hlt)
              exact hs.cell (hf j2 ct hct).1
        · cases h
      · rcases onPtr_ways h with ⟨b, q, ex, h⟩ | h
        · rcases loadN_ways h with ⟨x', cs, h, hc, hle, hxv⟩ | h
          · refine ⟨_, h, fun W R ρ a w l hO _ hrk => ?_⟩
            have hx := hO x (by rw [hop]; simp [Op.operands])
            rw [show evX T x = _ from ex] at hx
            obtain ⟨g, c, hkb, hv⟩ := ptr_real hx
            obtain ⟨ds, hl, hcell⟩ := hrk.cont hkb (show contO (fnd st b) = some cs from hc)
            have hl2 := (hl.drop q).take n
            refine ⟨.agg ((ds.drop q).take n).toArray, ?_, fun w1 hs => ?_⟩
            · rw [hxv]
              have q2 := hl2.array
              exact .agg q2.1 q2.2
            · simp only [execOp, hop, hv]
              refine exec_v (run_loadAgg hu hd hi ?_ fun j2 v2 hv2 => ?_)
              · rw [← hl2.1, List.length_take, List.length_drop, hsz]; omega
              · rw [List.getElem?_take] at hv2
                split at hv2
                · rw [List.getElem?_drop] at hv2
                  exact hs.cell (hcell _ _ hv2)
                · cases hv2
          · cases h
        · cases h
    · intro T st k h; cases h
  · rename_i t x lo hi hop
    have mem : ∀ y, y = x ∨ lo = some y ∨ hi = some y → y ∈ o.op.operands := fun y hy => by
      rw [hop]
      simp only [Op.operands, Array.mem_append, Option.mem_toArray]
      rcases hy with rfl | h | h
      · simp
      · simp [h]
      · simp [h]
    split
    · rename_i sz hsz
      rw [bx_f, bx_f, bx_f]
      intro T st k h
      have h : (match bslOf (evX T x) with
        | some (j, n) => (optC D lo).f T fun l => (optC D hi).f T fun h => cond (Nat.beq sz (RT j).length && (Nat.ble (l.getD 0) (h.getD n) && Nat.ble (h.getD n) n)) (k (bslX j (Nat.sub (h.getD n) (l.getD 0)))) false
        | none => false) = true := h
      split at h
      · rename_i j n hx0
        obtain ⟨l, h, hl⟩ := optC_ways h
        obtain ⟨hh, h, hhh⟩ := optC_ways h
        cases hb : (Nat.beq sz (RT j).length && (Nat.ble (l.getD 0) (hh.getD n) && Nat.ble (hh.getD n) n)) with
        | false => rw [hb] at h; cases h
        | true =>
          rw [hb] at h
          simp only [Bool.and_eq_true] at hb
          obtain ⟨b0, b1, b2⟩ := hb
          have b0 := Nat.eq_of_beq_eq_true b0
          have b1 := Nat.le_of_ble_eq_true b1
          have b2 := Nat.le_of_ble_eq_true b2
          refine ⟨_, h, fun W R ρ a w ll hO hG hrk => ?_⟩
          have hx := hO x (mem x (.inl rfl))
          obtain ⟨ad, c, hv, hpart⟩ := (bsl_real hx0 hx).part b1 b2
          obtain ⟨ad2, c2, hv2, hnc, hmc, _⟩ := (bsl_real hx0 hx).row
          rw [hv] at hv2
          cases hv2
          unfold elemSz at hsz
          split at hsz
          · rename_i e hu
            split at hsz
            · rename_i inf hinf
              cases hsz
              have r := fun w1 => run_sliceSl (P := P) hu hinf (hl ρ a fun y hy => hO y (mem y (.inr (.inl hy)))) (hhh ρ a fun y hy => hO y (mem y (.inr (.inr hy)))) (mx := none) (m := none) .none (cap := c) (len := n) (a := ad) (by show c ≤ c; exact Nat.le_refl _) (by show hh.getD n ≤ c; omega) b1 (by intro q; cases q) w1
              refine ⟨_, ?_, fun w1 _ => by simp only [execOp, hop, hv]; exact exec_v (r w1)⟩
              refine bslX_rel (hpart _ fun hlt g o e => ?_)
              subst e
              show (if c = l.getD 0 then (some ⟨g, o, none⟩ : Option Addr) else (some ⟨g, o, none⟩ : Option Addr).map (·.add (l.getD 0 * inf.size))) = _
              rw [if_neg (by omega)]
              show some ((⟨g, o, none⟩ : Addr).add (l.getD 0 * inf.size)) = _
              rw [add_plain, b0]
            · cases hsz
          · split at hsz <;> cases hsz
          · cases hsz
      · cases h
    · intro T st k h; cases h
  · intro T st k h; cases h
end
/-! ### Calls that make data -/
/-- Nothing that depends on blocks. -/
def flatV : V → Bool
  | .bool _ | .int _ _ | .neg _ _ => true
  | .oth (.float .f64 _) | .oth (.complex .f64 _ _) | .oth (.complex .f32 5 0) => true
  | _ => false
def flatX : X → Bool
  | .sc v => flatV v
  | .agg l => l.all flatV
  | .cons h t => flatX h && flatX t
  | .nil => true
  | _ => false
/-- A function that makes data of data: of these arguments one of these results. -/
abbrev QF := FuncId → Option (List X → Option (List X × List X))
end
section
open Go
/-- The second says no more than the first. -/
def leV (a b : Value) : Bool := match b with
  | .complex .f32 0 0 => a.oneCell'
  | .complex .f32 p q => (match a with
    | .complex .f32 p' q' => (Nat.beq p p' && Nat.beq q q') || (Nat.beq (p % 8) 7 && ((Nat.beq p' p || Nat.beq (p' + 1) p) && Nat.ble q' q))
    | .bool _ => Nat.beq p 5 && Nat.beq q 0
    | .slice none 0 c => (Nat.beq (p % 8) 7 || (Nat.beq (p % 8) 6 && Nat.beq q 0)) && Nat.ble c maxLen
    | _ => false)
  | .float .f64 i => (match a with
    | .int k n => Nat.beq (kidx k) i && decide (k.wrap n = n)
    | .float .f64 j => Nat.beq i j
    | .complex .f64 p _ => Nat.beq (p % 8) i
    | _ => false)
  | .complex .f64 p q => (match a with
    | .int k (.ofNat n) => Nat.beq (kidx k) (p % 8) && (Nat.ble (p / 8) n && (Nat.ble n q && decide (k.wrap (n : Int) = n)))
    | .complex .f64 p' q' => Nat.beq (p % 8) (p' % 8) && (Nat.ble (p / 8) (p' / 8) && Nat.ble q' q)
    | _ => false)
  | b => eqV0 a b
theorem rng_code (p : Nat) (k : IntKind) (h : kidx k = p % 8) : p / 8 * 8 + kidx k = p := by rw [h]; omega
theorem leV_rel {ρ : Names} {a b v' : Value} (h : leV a b = true) (hr : VR ρ a v') : VR ρ b v' := by
  unfold leV at h
  split at h
  · exact .any (hr.one h)
  · rename_i p q _
    split at h
    · rename_i p' q'
      rw [Bool.or_eq_true] at h
      rcases h with h | h
      · rw [Bool.and_eq_true] at h
        rw [Nat.eq_of_beq_eq_true h.1, Nat.eq_of_beq_eq_true h.2]
        exact hr
      · rw [Bool.and_eq_true, Bool.and_eq_true, Bool.or_eq_true] at h
        have h7 := Nat.eq_of_beq_eq_true h.1
        have hle := Nat.le_of_ble_eq_true h.2.2
        rcases h.2.1 with e | e
        · have e := Nat.eq_of_beq_eq_true e
          subst e
          cases hr with
          | any hs => simp at h7
          | bslU hh hn => exact .bslU hh (Nat.le_trans hn hle)
          | _ => omega
        · have e := Nat.eq_of_beq_eq_true e
          subst e
          cases hr with
          | any hs => simp at h7
          | @bsl j _ _ hh => exact .bslU (j := j) hh hle
          | _ => omega
    · rw [Bool.and_eq_true] at h
      rw [Nat.eq_of_beq_eq_true h.1, Nat.eq_of_beq_eq_true h.2]
      cases hr
      exact .anyB _
    · rename_i c
      rw [Bool.and_eq_true, Bool.or_eq_true] at h
      have hc := Nat.le_of_ble_eq_true h.2
      cases hr
      have nil : ∀ j, BS ρ.z j 0 (.slice none 0 c) := fun j => .mk (fun _ _ => undef) (Nat.zero_le _) hc (fun h => absurd h (Nat.lt_irrefl _)) (fun q i ct hq => absurd hq (Nat.not_lt_zero _))
      rcases h.1 with e | e
      · have e := Nat.eq_of_beq_eq_true e
        rw [show p = p / 8 * 8 + 7 by omega]
        exact .bslU (nil _) (Nat.zero_le _)
      · rw [Bool.and_eq_true] at e
        have e1 := Nat.eq_of_beq_eq_true e.1
        rw [Nat.eq_of_beq_eq_true e.2, show p = p / 8 * 8 + 6 by omega]
        exact .bsl (nil _)
    · cases h
  · split at h
    · rename_i k n
      rw [Bool.and_eq_true] at h
      rw [← Nat.eq_of_beq_eq_true h.1]
      cases hr
      exact .anyI (of_decide_eq_true h.2)
    · rw [Nat.eq_of_beq_eq_true h]
      exact hr
    · rw [← Nat.eq_of_beq_eq_true h]
      cases hr with
      | @rng k x b n h1 h2 hw =>
        have hk := kidx_lt k
        rw [show (x * 8 + kidx k) % 8 = kidx k by omega]
        exact .anyI hw
    · cases h
  · rename_i p q
    split at h
    · rename_i k n
      rw [Bool.and_eq_true, Bool.and_eq_true, Bool.and_eq_true] at h
      cases hr
      have e := rng_code p k (Nat.eq_of_beq_eq_true h.1)
      rw [← e]
      exact .rng (Nat.le_of_ble_eq_true h.2.1) (Nat.le_of_ble_eq_true h.2.2.1) (of_decide_eq_true h.2.2.2)
    · rename_i p' q'
      rw [Bool.and_eq_true, Bool.and_eq_true] at h
      cases hr with
      | @rng k x b n h1 h2 hw =>
        have hk := kidx_lt k
        have e1 := Nat.eq_of_beq_eq_true h.1
        have e2 := Nat.le_of_ble_eq_true h.2.1
        have e := rng_code p k (by omega)
        rw [← e]
        exact .rng (Nat.le_trans e2 (by omega)) (Nat.le_trans h2 (Nat.le_of_ble_eq_true h.2.2)) hw
    · cases h
  · rw [← eqV0_eq _ _ h]; exact hr
noncomputable def leVv (a b : V) : Bool := match b with
  | .oth u => cond u.oneCell' (leV a.toV u) false
  | b => eqVv a b
theorem leVv_rel {ρ : Names} {a b : V} {v' : Value} (h : leVv a b = true) (hr : VR ρ a.toV v') : VR ρ b.toV v' := by
  unfold leVv at h
  split at h
  · rename_i u
    cases ho : u.oneCell' with
    | false => rw [ho] at h; cases h
    | true =>
      rw [ho] at h
      rw [V.toV_oth ho]
      exact leV_rel h hr
  · rw [← eqVv_eq _ _ h]; exact hr
def allL {α : Type} (f : α → α → Bool) : List α → List α → Bool
  | [], [] => true
  | a :: l, b :: r => f a b && allL f l r
  | _, _ => false
theorem leL_rel {ρ : Names} : ∀ {l r : List V} {vs : List Value}, allL leVv l r = true → LR ρ (l.map V.toV) vs → LR ρ (r.map V.toV) vs
  | [], [], _, _, h => h
  | [], _ :: _, _, h, _ => by cases h
  | _ :: _, [], _, h, _ => by cases h
  | a :: l, b :: r, vs, h, hr => by
    unfold allL at h
    rw [Bool.and_eq_true] at h
    cases vs with
    | nil => have := hr.1; simp at this
    | cons v vs =>
      have h1 : VR ρ a.toV v := hr.2 0 _ _ rfl rfl
      have h2 : LR ρ (l.map V.toV) vs := ⟨by have := hr.1; simpa using this, fun i x y hx hy => hr.2 (i + 1) x y (by simpa using hx) (by simpa using hy)⟩
      have ih := leL_rel h.2 h2
      refine ⟨by have := ih.1; simpa using this, fun i x y hx hy => ?_⟩
      cases i with
      | zero => cases hx; cases hy; exact leVv_rel h.1 h1
      | succ i => exact ih.2 i x y (by simpa using hx) (by simpa using hy)
noncomputable def leA (a b : X) : Bool := match aggL a, aggL b with
  | some l, some r => allL leVv l r
  | _, _ => false
noncomputable def leX : X → X → Bool
  | .sc x, .sc y => leVv x y
  | .nil, .nil => true
  | .cons h t, .cons h' t' => leX h h' && leX t t'
  | a, b => leA a b
theorem agg_both {x : X} {l : List V} (h : aggL x = some l) : x.both.2 = [] := by
  cases x <;> first | rfl | cases h
theorem leX_rel {ρ : Names} : ∀ (a b : X), leX a b = true → (∀ v', VR ρ a.both.1 v' → VR ρ b.both.1 v') ∧ (∀ vs, LR ρ a.both.2 vs → LR ρ b.both.2 vs) := by
  intro a
  have ag : ∀ {a b : X}, leA a b = true → (∀ v', VR ρ a.both.1 v' → VR ρ b.both.1 v') ∧ (∀ vs, LR ρ a.both.2 vs → LR ρ b.both.2 vs) := by
    intro a b h
    unfold leA at h
    split at h
    · rename_i l r h1 h2
      rw [agg_both h1, agg_both h2]
      refine ⟨fun v' hv => ?_, fun vs h => h⟩
      have e1 : a.both.1 = .agg (l.map V.toV).toArray := aggL_toV h1
      have e2 : b.both.1 = .agg (r.map V.toV).toArray := aggL_toV h2
      rw [e1] at hv
      rw [e2]
      cases hv with
      | @agg _ c h3 h4 =>
        have q : AR ρ (l.map V.toV).toArray c := ⟨h3, h4⟩
        have q := leL_rel h q.list
        have q := q.array
        exact .agg q.1 q.2
    · cases h
  induction a with
  | sc x =>
    intro b h
    cases b with
    | sc y => exact ⟨fun v' hv => leVv_rel h hv, fun vs h => h⟩
    | _ => exact ag h
  | nil =>
    intro b h
    cases b with
    | nil => exact ⟨fun _ h => h, fun _ h => h⟩
    | _ => exact ag h
  | cons x t ih1 ih2 =>
    intro b h
    cases b with
    | cons y r =>
      have h : (leX x y && leX t r) = true := h
      rw [Bool.and_eq_true] at h
      have p1 := (ih1 y h.1).1
      have p2 := (ih2 r h.2).2
      have key : ∀ vs, LR ρ (x.both.1 :: t.both.2) vs → LR ρ (y.both.1 :: r.both.2) vs := fun vs hv => by
        cases vs with
        | nil => have := hv.1; simp at this
        | cons v vs =>
          have h1 := p1 v (hv.2 0 _ _ rfl rfl)
          have h2 := p2 vs ⟨by have := hv.1; simpa using this, fun i x y hx hy => hv.2 (i + 1) x y (by simpa using hx) (by simpa using hy)⟩
          refine ⟨by have := h2.1; simpa using this, fun i x y hx hy => ?_⟩
          cases i with
          | zero => cases hx; cases hy; exact h1
          | succ i => exact h2.2 i x y (by simpa using hx) (by simpa using hy)
      refine ⟨fun v' hv => ?_, key⟩
      have hv : VR ρ (.tuple (x.both.1 :: t.both.2).toArray) v' := hv
      show VR ρ (.tuple (y.both.1 :: r.both.2).toArray) v'
      cases hv with
      | @tuple _ c h3 h4 =>
        have q : AR ρ (x.both.1 :: t.both.2).toArray c := ⟨h3, h4⟩
        have q := (key _ q.list).array
        exact .tuple q.1 q.2
    | _ => exact ag h
  | _ => intro b h; cases b <;> exact ag h
end
section
open Go Go.RowKit Go.BigFrame
/-- Nothing is named; these blocks are not written any more. -/
def dn (z : Nat → Option Obj) : Names := ⟨fun _ => none, (default, fun _ => undef), z⟩
/-- The value is what x says, by these blocks. -/
def DR (z : Nat → Option Obj) (x : X) (v : Value) : Prop := VR (dn z) x.toV v
theorem VR.ofD {z : Nat → Option Obj} {ρ : Names} (hz : ∀ g o, z g = some o → ρ.z g = some o) {v v' : Value} (r : VR (dn z) v v') : VR ρ v v' := by
  induction r with
  | sym hh hs => rw [← hh] at hs; cases hs
  | any hs => exact .any hs
  | anyI hw => exact .anyI hw
  | rng h1 h2 hw => exact .rng h1 h2 hw
  | symS hh hlo hn hz ha => cases hh
  | symLen hh hlo hn => cases hh
  | ptrI hh => exact absurd hh.1 (Nat.not_lt_zero _)
  | modI hh hw => exact .modI hh hw
  | anyB b => exact .anyB b
  | bsl hh => exact .bsl (hh.mono hz)
  | bslU hh hn => exact .bslU (hh.mono hz) hn
  | bptr hh => exact .bptr (hh.mono hz)
  | ptrU hk h1 h2 hl hh => cases hk
  | symN hk hw => cases hk
  | bool b => exact .bool b
  | int k n => exact .int k n
  | string s => exact .string s
  | ptr0 => exact .ptr0
  | ptr hk => cases hk
  | slice0 n c => exact .slice0 n c
  | slice hk hf hn hm he ho => cases hk
  | map0 => exact .map0
  | map hk => cases hk
  | nilFunc => exact .nilFunc
  | nilIface => exact .nilIface
  | iface t _ ih => exact .iface t ih
  | func fn ha _ hb _ iha ihb => exact .func fn ha iha hb ihb
  | agg ha _ ih => exact .agg ha ih
  | tuple ha _ ih => exact .tuple ha ih
/-- One cell of data: no name, no symbol. -/
def dat1 : Value → Bool
  | .bool _ | .int _ _ | .string _ | .float .f64 _ | .complex .f64 _ _ | .pointer none | .slice none _ _ | .map none | .nilFunc | .nilIface => true
  | .complex .f32 a b => (Nat.beq a 0 && Nat.beq b 0) || (Nat.beq (a % 8) 5 || (Nat.beq (a % 8) 6 || (Nat.beq (a % 8) 7 || (Nat.beq (a % 8) 0 && Nat.ble 8 a))))
  | _ => false
theorem VR.toD1 {ρ : Names} {v v' : Value} (h : dat1 v = true) (r : VR ρ v v') : VR (dn ρ.z) v v' := by
  have f32 : ∀ {a b : Nat}, dat1 (.complex .f32 a b) = true → (a = 0 ∧ b = 0) ∨ a % 8 = 5 ∨ a % 8 = 6 ∨ a % 8 = 7 ∨ (a % 8 = 0 ∧ 8 ≤ a) := fun {a b} h => by
    simp only [dat1, Bool.or_eq_true, Bool.and_eq_true] at h
    rcases h with h | h | h | h | h
    · exact .inl ⟨Nat.eq_of_beq_eq_true h.1, Nat.eq_of_beq_eq_true h.2⟩
    · exact .inr (.inl (Nat.eq_of_beq_eq_true h))
    · exact .inr (.inr (.inl (Nat.eq_of_beq_eq_true h)))
    · exact .inr (.inr (.inr (.inl (Nat.eq_of_beq_eq_true h))))
    · exact .inr (.inr (.inr (.inr ⟨Nat.eq_of_beq_eq_true h.1, Nat.le_of_ble_eq_true h.2⟩)))
  cases r with
  | sym hh hs => cases h
  | any hs => exact .any hs
  | anyI hw => exact .anyI hw
  | rng h1 h2 hw => exact .rng h1 h2 hw
  | symS hh hlo hn hz ha => have := f32 h; omega
  | symLen hh hlo hn => have := f32 h; omega
  | ptrI hh => have := f32 h; omega
  | modI hh hw => have := f32 h; omega
  | anyB b => exact .anyB b
  | bsl hh => exact .bsl hh
  | bslU hh hn => exact .bslU hh hn
  | bptr hh => exact .bptr hh
  | ptrU hk h1 h2 hl hh => cases h
  | symN hk hw => cases h
  | bool b => exact .bool b
  | int k n => exact .int k n
  | string s => exact .string s
  | ptr0 => exact .ptr0
  | slice0 n c => exact .slice0 n c
  | map0 => exact .map0
  | nilFunc => exact .nilFunc
  | nilIface => exact .nilIface
  | ptr hk => cases h
  | slice hk hf hn hm he ho => cases h
  | map hk => cases h
  | iface t _ => cases h
  | func fn ha _ hb _ => cases h
  | agg ha _ => cases h
  | tuple ha _ => cases h
/-- All of it is data. -/
noncomputable def datX (x : X) : Bool := X.rec (motive := fun _ => Bool) (fun v => dat1 v.toV) (fun l => l.all fun v => dat1 v.toV) (fun _ n t => (rng t n 0).all fun v => dat1 v.toV) true (fun _ _ ih it => ih && it) (fun _ => false) x
theorem dat_list {ρ : Names} {l : List V} {vs : List Value} (h : l.all (fun v => dat1 v.toV) = true) (hr : LR ρ (l.map V.toV) vs) : LR (dn ρ.z) (l.map V.toV) vs :=
  ⟨hr.1, fun i x y hx hy => by
    rw [List.getElem?_map] at hx
    cases hl : l[i]? with
    | none => rw [hl] at hx; cases hx
    | some v =>
      rw [hl] at hx
      cases hx
      exact (hr.2 i _ y (by rw [List.getElem?_map, hl]; rfl) hy).toD1 (List.all_eq_true.1 h v (List.mem_of_getElem? hl))⟩
theorem datX_gen {ρ : Names} : ∀ {x : X}, datX x = true → (∀ {v : Value}, VR ρ x.toV v → VR (dn ρ.z) x.toV v) ∧ (∀ {vs : List Value}, LR ρ x.both.2 vs → LR (dn ρ.z) x.both.2 vs) := by
  intro x
  have aggC : ∀ {l : List V}, l.all (fun v => dat1 v.toV) = true → ∀ {v : Value}, VR ρ (.agg (l.map V.toV).toArray) v → VR (dn ρ.z) (.agg (l.map V.toV).toArray) v := fun {l} h {v} hr => by
    cases hr with
    | @agg _ a' h1 h2 =>
      have q := (dat_list h (vs := a'.toList) ⟨by simpa using h1, fun i x y hx hy => h2 i x y (by simpa using hx) (by simpa using hy)⟩).array
      exact .agg q.1 q.2
  have nil2 : ∀ {vs : List Value}, LR ρ ([] : List Value) vs → LR (dn ρ.z) ([] : List Value) vs := fun {vs} hr => ⟨hr.1, fun i x y hx => by simp at hx⟩
  induction x with
  | sc v => exact fun h => ⟨fun hr => VR.toD1 h hr, nil2⟩
  | agg l => exact fun h => ⟨aggC h, nil2⟩
  | tree d n t =>
    intro h
    have h : (rng t n 0).all (fun v => dat1 v.toV) = true := h
    have e : (rng t n 0).map V.toV = lst t n := by rw [rng_map t (m := n) (by omega), List.drop_zero, List.take_of_length_le (by rw [lst_length]; exact Nat.le_refl _)]
    refine ⟨fun {v} hr => ?_, nil2⟩
    have hr : VR ρ (.agg (lst t n).toArray) v := hr
    show VR (dn ρ.z) (.agg (lst t n).toArray) v
    rw [← e] at hr ⊢
    exact aggC h hr
  | nil => exact fun _ => ⟨fun {v} hr => by
      have hr : VR ρ undef v := hr
      cases hr with
      | @tuple _ a' h1 h2 =>
        have : a' = #[] := Array.eq_empty_of_size_eq_zero h1.symm
        subst this
        exact VR.undef _, nil2⟩
  | raw v => exact fun h => by cases h
  | cons x t ihx iht =>
    intro h
    have h : (datX x && datX t) = true := h
    rw [Bool.and_eq_true] at h
    have main : ∀ {vs : List Value}, LR ρ (x.toV :: t.both.2) vs → LR (dn ρ.z) (x.toV :: t.both.2) vs := fun {vs} hr => by
      cases vs with
      | nil => have := hr.1; simp at this
      | cons u us =>
        have h1 := (ihx h.1).1 (hr.2 0 _ _ rfl rfl)
        have h2 := (iht h.2).2 (vs := us) ⟨by have := hr.1; simpa using this, fun i a b ha hb => hr.2 (i + 1) a b (by simpa using ha) (by simpa using hb)⟩
        refine ⟨by have := h2.1; simpa using this, fun i a b ha hb => ?_⟩
        cases i with
        | zero => cases ha; cases hb; exact h1
        | succ i => exact h2.2 i a b (by simpa using ha) (by simpa using hb)
    refine ⟨fun {v} hr => ?_, main⟩
    have hr : VR ρ (.tuple (x.toV :: t.both.2).toArray) v := hr
    show VR (dn ρ.z) (.tuple (x.toV :: t.both.2).toArray) v
    cases hr with
    | @tuple _ a' h1 h2 =>
      have q := (main (vs := a'.toList) ⟨by simpa using h1, fun i a b ha hb => h2 i a b (by simpa using ha) (by simpa using hb)⟩).array
      exact .tuple q.1 q.2
theorem VR.toD {ρ : Names} {x : X} {v : Value} (h : datX x = true) (r : VR ρ x.toV v) : DR ρ.z x v := (datX_gen h).1 r
/-- The blocks that are known behind a call: those from before, and all that it made. -/
def zAdd (z : Nat → Option Obj) (w w' : World) (g : Nat) : Option Obj := if w.heap.size ≤ g then w'.heap[g]? else z g
def zOk (z : Nat → Option Obj) (w : World) : Prop := ∀ g o, z g = some o → w.heap[g]? = some o
theorem zOk.lt {z : Nat → Option Obj} {w : World} (h : zOk z w) {g : Nat} {o : Obj} (hz : z g = some o) : g < w.heap.size := (Array.getElem?_eq_some_iff.1 (h g o hz)).1
theorem zAdd_mono {z : Nat → Option Obj} {w : World} (h : zOk z w) (w' : World) : ∀ g o, z g = some o → zAdd z w w' g = some o := fun g o hz => by
  unfold zAdd
  rw [if_neg (by have := h.lt hz; omega)]
  exact hz
theorem zAdd_ok {z : Nat → Option Obj} {w w' : World} (h : zOk z w) (hb : Below w.heap.size w w') : zOk (zAdd z w w') w' := fun g o hz => by
  unfold zAdd at hz
  split at hz
  · exact hz
  · rename_i hg
    rw [hb.block g (by omega)]
    exact h g o hz
def DL (z : Nat → Option Obj) (xs : List X) (vs : List Value) : Prop := xs.length = vs.length ∧ ∀ (i : Nat) (x : X) (v : Value), xs[i]? = some x → vs[i]? = some v → DR z x v
/-- Of arguments like xs the function makes one of the results ys, in new memory, and touches no other. -/
def DC (P : Program) (f : FuncId) (xs ys : List X) : Prop :=
  ∀ z w (args : Array Value), zOk z w → DL z xs args.toList → Calls P f args w fun e w' => ∃ v' y, y ∈ ys ∧ e = .returned v' ∧ DR (zAdd z w w') y v' ∧ Below w.heap.size w w'
end
end Go.Proofs.YtbgdjcoliiinjaaGreat
