/- Plain: what a step, the end of a wait and a fault leave is valid. Nothing of the program is walked. -/
import Derived.Test.YtbllialcfmpkaaaFinish
set_option linter.unusedVariables false
set_option linter.unusedSimpArgs false
set_option linter.unusedSectionVars false
namespace Go.Proofs.Ytbllialcfmpkaaa
open Go.RowKit

/-- What hangs on the processor's state. -/
def tailOk (v : Vm) : Bool :=
  if v.state = 0 ∨ v.state = 2 then decide (v.cause = 0) && v.wait.isNone
  else if v.state = 1 then decide (v.cause = 0 ∧ 1 ≤ v.pc) && effOk v.width v.wait
  else if v.state = 3 then decide (1 ≤ v.cause ∧ v.cause ≤ 4) && v.wait.isNone
  else false
theorem Vm.ok_tail {v : Vm} (h : v.ok = true) : tailOk v = true := by
  unfold Vm.ok at h
  rw [Bool.and_eq_true] at h
  exact h.2
theorem Vm.fits.ok {v : Vm} (hf : v.fits) (ht : tailOk v = true) : v.ok = true := by
  unfold Vm.ok
  rw [Bool.and_eq_true]
  refine ⟨?_, ht⟩
  rw [Bool.and_eq_true, Bool.and_eq_true]
  refine ⟨⟨?_, decide_eq_true hf.pc⟩, ?_⟩
  · rcases hf.wide with h | h <;> rw [h] <;> rfl
  · rw [Vm.all_regs v hf.len]; exact fun j _ => (hf.reg j).2
/-- The words of a wait are words. -/
def waitT (e : Eff) : Prop := (0 ≤ e.addr ∧ e.addr ≤ 18446744073709551615) ∧ (0 ≤ e.value ∧ e.value ≤ 18446744073709551615)
theorem Vm.fits.typed {v : Vm} (hf : v.fits) (hw : waitT v.wait) : v.typed := by
  have hp := pw2_pos v.width
  exact ⟨hf.len, fun i => ⟨(hf.reg i).1, by have := (hf.reg i).2; omega⟩, hw.1, hw.2⟩
theorem waitT_none : waitT Eff.none := by unfold waitT Eff.none; decide
theorem isNone_none {e : Eff} (h : e.isNone = true) : e = Eff.none := by
  unfold Eff.isNone at h
  obtain ⟨h1, h2, h3, h4, h5⟩ := of_decide_eq_true h
  cases e
  simp only at h1 h2 h3 h4 h5
  subst h1 h2 h3 h4 h5
  rfl
theorem ready_tail {v : Vm} (h : tailOk v = true) (hs : v.state = 0) : v.cause = 0 ∧ v.wait = Eff.none := by
  unfold tailOk at h
  rw [if_pos (.inl hs), Bool.and_eq_true] at h
  exact ⟨of_decide_eq_true h.1, isNone_none h.2⟩
theorem tail_ready {v : Vm} (hs : v.state = 0) (hc : v.cause = 0) (hw : v.wait = Eff.none) : tailOk v = true := by
  unfold tailOk
  rw [if_pos (.inl hs), hc, hw]; rfl
theorem tail_trap {v : Vm} (c : Int) (h0 : 1 ≤ c) (h1 : c ≤ 4) (hw : v.wait = Eff.none) : tailOk { v with state := 3, cause := c } = true := by
  unfold tailOk
  rw [if_neg (by simp), if_neg (by simp), if_pos rfl]
  show (decide (1 ≤ c ∧ c ≤ 4) && v.wait.isNone) = true
  rw [hw, decide_eq_true ⟨h0, h1⟩]; rfl
/-- What is so behind a step. -/
structure After (r : Vm × Eff) : Prop where
  tail : tailOk r.1 = true
  wait : waitT r.1.wait
  kind : r.2.kind = 0 → r.1.state = 0
  noState : r.1.state = 0 ∨ r.1.state = 1 ∨ r.1.state = 2 ∨ r.1.state = 3
theorem After.ready {v : Vm} {e : Eff} (hs : v.state = 0) (hc : v.cause = 0) (hw : v.wait = Eff.none) : After (v, e) :=
  ⟨tail_ready hs hc hw, by show waitT v.wait; rw [hw]; exact waitT_none, fun _ => hs, .inl hs⟩
theorem After.trap {v : Vm} (c : Int) (h0 : 1 ≤ c) (h1 : c ≤ 4) (hw : v.wait = Eff.none) : After (v.trap c) :=
  ⟨tail_trap c h0 h1 hw, by show waitT v.wait; rw [hw]; exact waitT_none, fun h => absurd h (by show ¬ (6 : Int) = 0; decide), .inr (.inr (.inr rfl))⟩
theorem After.wait1 {v : Vm} {e : Eff} (hk : ¬ e.kind = 0) (hc : v.cause = 0) (hp : 1 ≤ v.pc) (he : effOk v.width e = true) (ht : waitT e) : After ({ v with state := 1, wait := e }, e) := by
  refine ⟨?_, ht, fun h => absurd h hk, .inr (.inl rfl)⟩
  unfold tailOk
  rw [if_neg (by simp), if_pos rfl]
  show (decide (v.cause = 0 ∧ 1 ≤ v.pc) && effOk v.width e) = true
  rw [he, decide_eq_true ⟨hc, hp⟩]; rfl
theorem stepI_after {v : Vm} {x : Ins} {n : Int} (hf : v.fits) (ht : tailOk v = true) (hs : v.state = 0) (hx : insErr x n = 0) (hi : x.imm ≤ 2147483647) : After (stepI v x n) := by
  obtain ⟨hc, hw⟩ := ready_tail ht hs
  obtain ⟨o0, o1, _, ha, hb, hcc⟩ := insErr_target hx
  obtain ⟨p0, p1⟩ := hf.pc
  have hpos := pw2_pos v.width
  have ra := hf.reg x.a.toNat
  have m0 := Int.emod_nonneg (v.r x.b.toNat + x.imm) (show pw2 v.width ≠ 0 by omega)
  have m1 := Int.emod_lt_of_pos (v.r x.b.toNat + x.imm) hpos.1
  unfold stepI
  by_cases h0 : x.op = 0
  · simp only [if_pos h0]
    refine ⟨?_, by show waitT v.wait; rw [hw]; exact waitT_none, fun h => absurd h (by show ¬ (5 : Int) = 0; decide), .inr (.inr (.inl rfl))⟩
    unfold tailOk
    rw [if_pos (.inr rfl)]
    show (decide (v.cause = 0) && v.wait.isNone) = true
    rw [hc, hw]; rfl
  simp only [if_neg h0]
  by_cases h18 : x.op = 18
  · simp only [if_pos h18]; exact After.ready hs hc hw
  simp only [if_neg h18]
  by_cases h19 : x.op = 19
  · simp only [if_pos h19]; exact After.ready hs hc hw
  simp only [if_neg h19]
  by_cases h20 : x.op = 20
  · simp only [if_pos h20]; exact After.ready hs hc hw
  simp only [if_neg h20]
  by_cases h21 : x.op = 21
  · simp only [if_pos h21]; exact After.ready hs hc hw
  simp only [if_neg h21]
  by_cases h22 : x.op = 22
  · simp only [if_pos h22]
    split
    · exact After.trap 2 (by decide) (by decide) hw
    · exact After.ready hs hc hw
  simp only [if_neg h22]
  by_cases h23 : x.op = 23
  · simp only [if_pos h23]
    have h8 := hx
    split
    · exact After.trap 3 (by decide) (by decide) hw
    · rename_i q
      have q8 : (v.r x.b.toNat + x.imm) % pw2 v.width % 8 = 0 := Classical.not_not.1 q
      refine After.wait1 (v := { v with pc := v.pc + 1 }) (e := ⟨1, x.a, 0, (v.r x.b.toNat + x.imm) % pw2 v.width, 0⟩) (by show ¬ (1 : Int) = 0; decide) hc (by show 1 ≤ v.pc + 1; omega) ?_ ⟨⟨m0, by show (v.r x.b.toNat + x.imm) % pw2 v.width ≤ _; omega⟩, (show (0 : Int) ≤ 0 from by decide), (show (0 : Int) ≤ 18446744073709551615 from by decide)⟩
      unfold effOk
      rw [if_pos rfl]
      exact decide_eq_true ⟨ha.1, ha.2, rfl, m1, q8, rfl⟩
  simp only [if_neg h23]
  by_cases h24 : x.op = 24
  · simp only [if_pos h24]
    split
    · exact After.trap 3 (by decide) (by decide) hw
    · rename_i q
      have q8 : (v.r x.b.toNat + x.imm) % pw2 v.width % 8 = 0 := Classical.not_not.1 q
      refine After.wait1 (v := { v with pc := v.pc + 1 }) (e := ⟨2, 0, 0, (v.r x.b.toNat + x.imm) % pw2 v.width, v.r x.a.toNat⟩) (by show ¬ (2 : Int) = 0; decide) hc (by show 1 ≤ v.pc + 1; omega) ?_ ⟨⟨m0, by show (v.r x.b.toNat + x.imm) % pw2 v.width ≤ _; omega⟩, ra.1, by show v.r x.a.toNat ≤ _; omega⟩
      unfold effOk
      rw [if_neg (show ¬ (2 : Int) = 1 by decide), if_pos rfl]
      exact decide_eq_true ⟨rfl, rfl, m1, q8, ra.2⟩
  simp only [if_neg h24]
  by_cases h25 : x.op = 25
  · simp only [if_pos h25]
    split
    · exact After.trap 4 (by decide) (by decide) hw
    · refine After.wait1 (v := { v with pc := v.pc + 1 }) (e := ⟨3, 0, x.imm, 0, 0⟩) (by show ¬ (3 : Int) = 0; decide) hc (by show 1 ≤ v.pc + 1; omega) ?_ ⟨⟨(show (0 : Int) ≤ 0 from by decide), (show (0 : Int) ≤ 18446744073709551615 from by decide)⟩, (show (0 : Int) ≤ 0 from by decide), (show (0 : Int) ≤ 18446744073709551615 from by decide)⟩
      unfold effOk
      rw [if_neg (show ¬ (3 : Int) = 1 by decide), if_neg (show ¬ (3 : Int) = 2 by decide), if_pos rfl]
      exact decide_eq_true ⟨rfl, by show 0 ≤ x.imm; omega, by show x.imm < 2147483648; omega, rfl, rfl⟩
  simp only [if_neg h25]
  by_cases h26 : x.op = 26
  · simp only [if_pos h26]; exact After.ready hs hc hw
  simp only [if_neg h26]
  by_cases h27 : x.op = 27
  · simp only [if_pos h27]; exact After.ready hs hc hw
  simp only [if_neg h27]
  split
  · exact After.trap 1 (by decide) (by decide) hw
  · exact After.ready hs hc hw
theorem stepS_after {v : Vm} {p : List Ins} (hf : v.fits) (ht : tailOk v = true) (hs : v.state = 0) (hp : Good p) : After (stepS v p) := by
  unfold stepS
  cases hx : p[v.pc.toNat]? with
  | none => exact After.trap 2 (by decide) (by decide) (ready_tail ht hs).2
  | some x =>
    have hm := List.mem_of_getElem? hx
    exact stepI_after hf ht hs (hp.ok x hm) (hp.imm x hm).2
/-- A valid processor, whole. -/
structure VG (v : Vm) : Prop where
  fits : v.fits
  tail : tailOk v = true
  wait : waitT v.wait
theorem VG.ok {v : Vm} (h : VG v) : v.ok = true := h.fits.ok h.tail
theorem VG.typed {v : Vm} (h : VG v) : v.typed := h.fits.typed h.wait
theorem VG.step {v : Vm} {p : List Ins} (h : VG v) (hs : v.state = 0) (hp : Good p) : VG (stepS v p).1 ∧ After (stepS v p) := by
  have := stepS_after h.fits h.tail hs hp
  exact ⟨⟨stepS_fits h.fits hp, this.tail, this.wait⟩, this⟩
theorem VG.check {v : Vm} {p : List Ins} (h : VG v) (hs : v.state = 0) (hp : progErr p = 0) : checkE v p 0 = 0 := by
  unfold checkE
  rw [h.ok, hp]
  simp [hs]
theorem VG.fin {v : Vm} {xs : List Int} (h : VG v) (hs : v.state = 1) (hn : finOk v.wait.kind xs.length = true) : finRes v xs = (finV v xs, 0) ∧ VG (finV v xs) ∧ (finV v xs).state = 0 := by
  have hw : v.waitErr = 0 := by unfold Vm.waitErr; rw [h.ok, if_neg (by decide), if_pos hs]
  refine ⟨finRes_ok hw hn, ⟨?_, ?_, waitT_none⟩, rfl⟩
  · have hr := finOk_room hw hn
    have := Vm.setRs_fits xs v v.wait.reg.toNat h.fits hr
    exact this.of rfl rfl this.pc
  · have ht := h.tail
    unfold tailOk at ht
    rw [if_neg (by omega), if_pos hs, Bool.and_eq_true] at ht
    refine tail_ready rfl ?_ rfl
    show (v.setRs v.wait.reg.toNat xs).cause = 0
    rw [(Vm.setRs_parts xs v v.wait.reg.toNat).2.2.2.2.2]
    exact (of_decide_eq_true ht.1).1
theorem VG.fault {v : Vm} (h : VG v) (hs : v.state = 1) : faultRes v = ({ v with pc := v.pc - 1, state := 3, cause := 4, wait := Eff.none }, 0) :=
  faultRes_ok (by unfold Vm.waitErr; rw [h.ok, if_neg (by decide), if_pos hs])
/-- How the wait's kind stands. -/
theorem VG.kind {v : Vm} (h : VG v) (hs : v.state = 1) : v.wait.kind = 1 ∨ v.wait.kind = 2 ∨ v.wait.kind = 3 := by
  have hw : v.waitErr = 0 := by unfold Vm.waitErr; rw [h.ok, if_neg (by decide), if_pos hs]
  rcases Vm.wait_kind hw with h | h | h
  · exact .inl h.1
  · exact .inr (.inl h.1)
  · exact .inr (.inr h.1)

/-! ### Runs -/
theorem runF_count (p : List Ins) : ∀ (n : Nat) (s : Vm × Eff), (runF p n s).2.1 ≤ n
  | 0, _ => Nat.le_refl _
  | n + 1, s => by
    rw [runF]
    split
    · have := runF_count p n (stepS s.1 p); show _ + 1 ≤ n + 1; omega
    · exact Nat.zero_le _
theorem runF_add (p : List Ins) : ∀ (n m : Nat) (s : Vm × Eff), (runF p n s).2.2.kind = 0 →
    runF p (n + m) s = ((runF p m ((runF p n s).1, (runF p n s).2.2)).1, n + (runF p m ((runF p n s).1, (runF p n s).2.2)).2.1, (runF p m ((runF p n s).1, (runF p n s).2.2)).2.2) ∧ (runF p n s).2.1 = n
  | 0, m, s, _ => by simp [runF]
  | n + 1, m, s, h => by
    by_cases hs : s.2.kind = 0
    · rw [runF_go hs] at h ⊢
      obtain ⟨h1, h2⟩ := runF_add p n m (stepS s.1 p) h
      rw [show n + 1 + m = (n + m) + 1 from by omega, runF_go hs, h1, h2]
      refine ⟨?_, rfl⟩
      simp only [Prod.mk.injEq, true_and, and_true]
      omega
    · rw [runF_stop hs] at h; exact absurd h hs
theorem runF_end (p : List Ins) : ∀ (n m : Nat) (s : Vm × Eff), ¬ (runF p n s).2.2.kind = 0 → runF p (n + m) s = runF p n s
  | 0, m, s, h => by rw [runF_stop (by simpa [runF] using h), runF_stop (by simpa [runF] using h)]
  | n + 1, m, s, h => by
    by_cases hs : s.2.kind = 0
    · rw [runF_go hs] at h ⊢
      rw [show n + 1 + m = (n + m) + 1 from by omega, runF_go hs, runF_end p n m _ h]
    · rw [runF_stop hs, runF_stop hs]
/-- The k-th state of a run. -/
def stAt (p : List Ins) (v : Vm) : Nat → Vm × Eff
  | 0 => (v, Eff.none)
  | k + 1 => stepS (stAt p v k).1 p
theorem stAt_shift (p : List Ins) (v : Vm) : ∀ k, stAt p (stepS v p).1 (k + 1) = stAt p v (k + 2)
  | 0 => rfl
  | k + 1 => by
    show stepS (stAt p (stepS v p).1 (k + 1)).1 p = _
    rw [stAt_shift p v k]; rfl
theorem runF_stAt (p : List Ins) : ∀ (n : Nat) (v : Vm) (e : Eff), e.kind = 0 → 1 ≤ n → (runF p n (v, e)).1 = (stAt p v (runF p n (v, e)).2.1).1 ∧ (runF p n (v, e)).2.2 = (stAt p v (runF p n (v, e)).2.1).2 ∧ 1 ≤ (runF p n (v, e)).2.1 ∧
    ∀ k, 1 ≤ k → k < (runF p n (v, e)).2.1 → (stAt p v k).2.kind = 0
  | 0, _, _, _, h => absurd h (by decide)
  | n + 1, v, e, he, _ => by
    rw [runF_go (s := (v, e)) he]
    by_cases hk : (stepS v p).2.kind = 0
    · by_cases hn : n = 0
      · subst hn
        refine ⟨rfl, rfl, Nat.le_refl _, fun k h1 h2 => ?_⟩
        have : k < 1 := h2
        omega
      · obtain ⟨i1, i2, i3, i4⟩ := runF_stAt p n (stepS v p).1 (stepS v p).2 hk (by omega)
        obtain ⟨j, hj⟩ : ∃ j, (runF p n ((stepS v p).1, (stepS v p).2)).2.1 = j + 1 := ⟨_, (Nat.sub_add_cancel i3).symm⟩
        have i1' : (runF p n (stepS v p)).1 = (stAt p (stepS v p).1 (runF p n (stepS v p)).2.1).1 := i1
        have i2' : (runF p n (stepS v p)).2.2 = (stAt p (stepS v p).1 (runF p n (stepS v p)).2.1).2 := i2
        have hj' : (runF p n (stepS v p)).2.1 = j + 1 := hj
        have i4' : ∀ k, 1 ≤ k → k < (runF p n (stepS v p)).2.1 → (stAt p (stepS v p).1 k).2.kind = 0 := i4
        refine ⟨?_, ?_, by show 1 ≤ _ + 1; omega, fun k h1 h2 => ?_⟩
        · show (runF p n (stepS v p)).1 = (stAt p v ((runF p n (stepS v p)).2.1 + 1)).1
          rw [i1', hj', stAt_shift]
        · show (runF p n (stepS v p)).2.2 = (stAt p v ((runF p n (stepS v p)).2.1 + 1)).2
          rw [i2', hj', stAt_shift]
        · have h2 : k < (runF p n (stepS v p)).2.1 + 1 := h2
          obtain rfl | ⟨k', rfl⟩ : k = 1 ∨ ∃ k', k = k' + 2 := by
            rcases Nat.lt_or_ge k 2 with h | h
            · exact .inl (by omega)
            · exact .inr ⟨k - 2, by omega⟩
          · exact hk
          · rw [← stAt_shift]; exact i4' (k' + 1) (by omega) (by omega)
    · rw [show runF p n (stepS v p) = ((stepS v p).1, 0, (stepS v p).2) from runF_stop hk n]
      refine ⟨rfl, rfl, Nat.le_refl _, fun k h1 h2 => ?_⟩
      have : k < 1 := h2
      omega
theorem VG.runAt {v : Vm} {p : List Ins} (h : VG v) (hs : v.state = 0) (hp : Good p) : ∀ k, (∀ j, 1 ≤ j → j ≤ k → (stAt p v j).2.kind = 0) → VG (stAt p v k).1 ∧ (stAt p v k).1.state = 0
  | 0, _ => ⟨h, hs⟩
  | k + 1, hk => by
    obtain ⟨g, s⟩ := h.runAt hs hp k (fun j h1 h2 => hk j h1 (by omega))
    obtain ⟨g2, a⟩ := g.step s hp
    exact ⟨g2, a.kind (hk (k + 1) (by omega) (Nat.le_refl _))⟩
end Go.Proofs.Ytbllialcfmpkaaa
