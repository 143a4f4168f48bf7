/- One operand in the reference, against the plain definition. Plain. -/
import Derived.Test.YtemigcdieghkfaaDoorPkAsrPlain
set_option linter.unusedVariables false
set_option linter.unusedSimpArgs false
set_option linter.unusedSectionVars false
namespace Go.Proofs.YtemigcdieghkfaaDoor
open Go

/-- What one round over the operands comes to: the parser's state, the instruction, the labels that are used. -/
def stepO (el ec : Int) (d : List Tok) (first : Bool) (c : UInt8) (s : PSt) (x : Ins) : PSt × Ins × List (List UInt8 × Nat) :=
  let s1 := if first = true then s else needP el ec d s 4 [44]
  if c = 97 then (regP el ec d s1, { x with a := regV d s1 }, [])
  else if c = 98 then (regP el ec d s1, { x with b := regV d s1 }, [])
  else if c = 99 then (regP el ec d s1, { x with c := regV d s1 }, [])
  else if c = 105 then ((valS el ec d false s1).1, { x with imm := (valS el ec d false s1).2.1 }, (valS el ec d false s1).2.2)
  else ((valS el ec d true s1).1, { x with imm := (valS el ec d true s1).2.1 }, (valS el ec d true s1).2.2)
def BadP (el ec : Int) (d : List Tok) (s : PSt) (e : AErr) : Prop := s.er = e.2 ∧ s.p = posE el ec d e.1 ∧ ¬ e.2 = 0
def refU (us : List ARef) : List (List UInt8 × Nat) := us.map fun r => (r.label, r.at_)
theorem valS_bad {el ec : Int} {d : List Tok} {s : PSt} {tg : Bool} (h : ¬ s.er = 0) : (valS el ec d tg s).1 = s ∧ (valS el ec d tg s).2.1 = 0 := by
  have hk : ∀ k, kindB d s k = false := fun k => by unfold kindB; rw [beq_eq_false_iff_ne.2 h]; rfl
  have hp : peekB d s 4 [45] = false := by unfold peekB; rw [hk]; rfl
  unfold valS
  simp only [hk, hp, Bool.and_false, Bool.false_eq_true, if_false, anyP, failP_no h]
  rw [if_neg (by rintro (q | ⟨q, _⟩) <;> omega)]
  exact ⟨rfl, rfl⟩
theorem needP_bad {el ec : Int} {d : List Tok} {s : PSt} (h : ¬ s.er = 0) (k : Int) (m : List UInt8) : needP el ec d s k m = s := by
  have hp : peekB d s k m = false := by unfold peekB kindB; rw [beq_eq_false_iff_ne.2 h]; rfl
  unfold needP
  rw [hp, if_neg (by decide), failP_no h]
theorem stepO_bad {el ec : Int} {d : List Tok} {s : PSt} (h : ¬ s.er = 0) (first : Bool) (c : UInt8) (x : Ins) : (stepO el ec d first c s x).1 = s := by
  have h1 : (if first = true then s else needP el ec d s 4 [44]) = s := by split; rfl; exact needP_bad h _ _
  unfold stepO
  simp only [h1]
  split
  · exact (reg_bad h).2
  split
  · exact (reg_bad h).2
  split
  · exact (reg_bad h).2
  split
  · exact (valS_bad h).1
  · exact (valS_bad h).1
/-- An operand without what stands ahead of it. -/
theorem stepO_one {el ec : Int} {d : List Tok} {s : PSt} (h : s.er = 0) (n : Nat) (c : UInt8) (x : Ins) :
    (∀ y j vs, aOperand d n c x s.i = .ok (y, j, vs) → stepO el ec d true c s x = (⟨j, s.p, 0⟩, y, refU vs)) ∧
    (∀ e, aOperand d n c x s.i = .error e → BadP el ec d (stepO el ec d true c s x).1 e) := by
  obtain ⟨i, p, er⟩ := s
  simp only at h
  subst h
  have rg : ∀ (f : Int → Ins) (y : Ins) (j : Nat) (vs : List ARef), (match aReg d i with | .error e => Except.error e | .ok r => .ok (f r, i + 1, [])) = (Except.ok (y, j, vs) : Except AErr (Ins × Nat × List ARef)) → (regP el ec d ⟨i, p, 0⟩, f (regV d ⟨i, p, 0⟩), ([] : List (List UInt8 × Nat))) = (⟨j, p, 0⟩, y, refU vs) := by
    intro f y j vs ha
    cases hr : aReg d i with
    | error e => rw [hr] at ha; cases ha
    | ok r =>
      rw [hr] at ha
      injection ha with ha
      simp only [Prod.mk.injEq] at ha
      obtain ⟨rfl, rfl, rfl⟩ := ha
      obtain ⟨e1, e2⟩ := reg_ok (el := el) (ec := ec) (d := d) (s := ⟨i, p, 0⟩) rfl hr
      rw [e1, e2]; rfl
  have rb : ∀ (f : Int → Ins) (e : AErr), (match aReg d i with | .error e => Except.error e | .ok r => .ok (f r, i + 1, [])) = (Except.error e : Except AErr (Ins × Nat × List ARef)) → BadP el ec d (regP el ec d ⟨i, p, 0⟩) e := by
    intro f e ha
    cases hr : aReg d i with
    | error e' =>
      rw [hr] at ha
      injection ha with ha
      subst ha
      obtain ⟨_, e2, e3⟩ := reg_err (el := el) (ec := ec) (d := d) (s := ⟨i, p, 0⟩) rfl hr
      rw [e2]
      exact ⟨rfl, rfl, e3⟩
    | ok r => rw [hr] at ha; cases ha
  have vg : ∀ (tg : Bool) (y : Ins) (j : Nat) (vs : List ARef), (match aImm d n tg i with | .error e => Except.error e | .ok (v, j, us) => .ok ({ x with imm := v }, j, us)) = (Except.ok (y, j, vs) : Except AErr (Ins × Nat × List ARef)) → ((valS el ec d tg ⟨i, p, 0⟩).1, ({ x with imm := (valS el ec d tg ⟨i, p, 0⟩).2.1 } : Ins), (valS el ec d tg ⟨i, p, 0⟩).2.2) = (⟨j, p, 0⟩, y, refU vs) := by
    intro tg y j vs ha
    cases hr : aImm d n tg i with
    | error e => rw [hr] at ha; cases ha
    | ok r =>
      obtain ⟨v, j', us⟩ := r
      rw [hr] at ha
      injection ha with ha
      simp only [Prod.mk.injEq] at ha
      obtain ⟨rfl, rfl, rfl⟩ := ha
      rw [val_ok (el := el) (ec := ec) (d := d) (s := ⟨i, p, 0⟩) rfl hr]; rfl
  have vb : ∀ (tg : Bool) (e : AErr), (match aImm d n tg i with | .error e => Except.error e | .ok (v, j, us) => .ok (({ x with imm := v } : Ins), j, us)) = (Except.error e : Except AErr (Ins × Nat × List ARef)) → BadP el ec d (valS el ec d tg ⟨i, p, 0⟩).1 e := by
    intro tg e ha
    cases hr : aImm d n tg i with
    | error e' =>
      rw [hr] at ha
      injection ha with ha
      subst ha
      exact val_err (el := el) (ec := ec) (d := d) (s := ⟨i, p, 0⟩) rfl hr
    | ok r => obtain ⟨v, j', us⟩ := r; rw [hr] at ha; cases ha
  unfold stepO aOperand
  simp only [if_true]
  by_cases c1 : c = 97
  · rw [if_pos c1, if_pos c1]; exact ⟨fun y j vs ha => rg (fun r => { x with a := r }) y j vs ha, fun e ha => rb (fun r => { x with a := r }) e ha⟩
  rw [if_neg c1, if_neg c1]
  by_cases c2 : c = 98
  · rw [if_pos c2, if_pos c2]; exact ⟨fun y j vs ha => rg (fun r => { x with b := r }) y j vs ha, fun e ha => rb (fun r => { x with b := r }) e ha⟩
  rw [if_neg c2, if_neg c2]
  by_cases c3 : c = 99
  · rw [if_pos c3, if_pos c3]; exact ⟨fun y j vs ha => rg (fun r => { x with c := r }) y j vs ha, fun e ha => rb (fun r => { x with c := r }) e ha⟩
  rw [if_neg c3, if_neg c3]
  by_cases c4 : c = 105
  · rw [if_pos c4, if_pos c4]; exact ⟨fun y j vs ha => vg false y j vs ha, fun e ha => vb false e ha⟩
  rw [if_neg c4, if_neg c4]
  exact ⟨fun y j vs ha => vg true y j vs ha, fun e ha => vb true e ha⟩
theorem stepO_next {el ec : Int} {d : List Tok} {s : PSt} (c : UInt8) (x : Ins) : stepO el ec d false c s x = stepO el ec d true c (needP el ec d s 4 [44]) x := rfl
theorem aImm_ref {d : List Tok} {n : Nat} {tg : Bool} {i j : Nat} {v : Int} {vs : List ARef} (h : aImm d n tg i = .ok (v, j, vs)) : ∀ z ∈ vs, z.instr = n := by
  have key : ∀ (a : Int) (b : Nat) (l : List ARef), (Except.ok (a, b, l) : Except AErr (Int × Nat × List ARef)) = .ok (v, j, vs) → (∀ z ∈ l, z.instr = n) → ∀ z ∈ vs, z.instr = n := by
    intro a b l e hl
    injection e with e
    simp only [Prod.mk.injEq] at e
    obtain ⟨_, _, rfl⟩ := e
    exact hl
  unfold aImm at h
  split at h
  · split at h
    · cases h
    · exact key _ _ _ h (by simp)
  · split at h
    · split at h
      · cases h
      · split at h
        · cases h
        · exact key _ _ _ h (by simp)
    · split at h
      · cases h
      · split at h
        · cases h
        · exact key _ _ _ h (by split <;> simp)
theorem aOperand_ref {d : List Tok} {n : Nat} {c : UInt8} {x y : Ins} {i j : Nat} {vs : List ARef} (h : aOperand d n c x i = .ok (y, j, vs)) : ∀ z ∈ vs, z.instr = n := by
  have kr : ∀ (f : Int → Ins), (match aReg d i with | .error e => Except.error e | .ok r => .ok (f r, i + 1, [])) = (Except.ok (y, j, vs) : Except AErr (Ins × Nat × List ARef)) → ∀ z ∈ vs, z.instr = n := by
    intro f e
    cases hr : aReg d i with
    | error e' => rw [hr] at e; cases e
    | ok r =>
      rw [hr] at e
      injection e with e
      simp only [Prod.mk.injEq] at e
      obtain ⟨_, _, rfl⟩ := e
      simp
  have kv : ∀ (tg : Bool), (match aImm d n tg i with | .error e => Except.error e | .ok (v, j, us) => .ok (({ x with imm := v } : Ins), j, us)) = (Except.ok (y, j, vs) : Except AErr (Ins × Nat × List ARef)) → ∀ z ∈ vs, z.instr = n := by
    intro tg e
    cases hr : aImm d n tg i with
    | error e' => rw [hr] at e; cases e
    | ok r =>
      obtain ⟨v, j', us⟩ := r
      rw [hr] at e
      injection e with e
      simp only [Prod.mk.injEq] at e
      obtain ⟨_, _, rfl⟩ := e
      exact aImm_ref hr
  unfold aOperand at h
  split at h
  · exact kr (fun r => { x with a := r }) h
  split at h
  · exact kr (fun r => { x with b := r }) h
  split at h
  · exact kr (fun r => { x with c := r }) h
  split at h
  · exact kv false h
  · exact kv true h
/-- One round, of an operand of a list. -/
theorem stepO_ok {el ec : Int} {d : List Tok} {s : PSt} (h : s.er = 0) (n : Nat) (first : Bool) (c : UInt8) (l : List UInt8) (x : Ins) (us : List ARef) :
    (∃ y j vs, stepO el ec d first c s x = (⟨j, s.p, 0⟩, y, refU vs) ∧ aOperands d n first (c :: l) x s.i us = aOperands d n false l y j (us ++ vs) ∧ ∀ z ∈ vs, z.instr = n) ∨
    (∃ e, aOperands d n first (c :: l) x s.i us = .error e ∧ BadP el ec d (stepO el ec d first c s x).1 e) := by
  cases first with
  | true =>
    obtain ⟨h1, h2⟩ := stepO_one (el := el) (ec := ec) (d := d) h n c x
    cases ha : aOperand d n c x s.i with
    | ok r =>
      obtain ⟨y, j, vs⟩ := r
      exact .inl ⟨y, j, vs, h1 y j vs ha, by rw [aOperands, ha], aOperand_ref ha⟩
    | error e => exact .inr ⟨e, by rw [aOperands, ha], h2 e ha⟩
  | false =>
    rw [stepO_next]
    by_cases hp : isP d s.i [44] = true
    · have hn : needP el ec d s 4 [44] = stepP s := by unfold needP; rw [peekB_isP h, if_pos hp]
      rw [hn]
      obtain ⟨h1, h2⟩ := stepO_one (el := el) (ec := ec) (d := d) (s := stepP s) h n c x
      cases ha : aOperand d n c x (s.i + 1) with
      | ok r =>
        obtain ⟨y, j, vs⟩ := r
        exact .inl ⟨y, j, vs, h1 y j vs ha, by rw [aOperands, if_neg (by rw [hp]; decide), ha], aOperand_ref ha⟩
      | error e => exact .inr ⟨e, by rw [aOperands, if_neg (by rw [hp]; decide), ha], h2 e ha⟩
    · have hpf : isP d s.i [44] = false := by simpa using hp
      have hn : needP el ec d s 4 [44] = ⟨s.i, posE el ec d s.i, 50⟩ := by unfold needP; rw [peekB_isP h, if_neg hp, failP_ok h]
      rw [hn]
      refine .inr ⟨(s.i, 50), by rw [aOperands, if_pos hpf], ?_⟩
      rw [stepO_bad (by show ¬ (50 : Int) = 0; decide)]
      exact ⟨rfl, rfl, by show ¬ (50 : Int) = 0; decide⟩
end Go.Proofs.YtemigcdieghkfaaDoor
