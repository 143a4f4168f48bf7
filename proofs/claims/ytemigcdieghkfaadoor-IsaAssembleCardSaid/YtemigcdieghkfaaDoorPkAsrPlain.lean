/- The reference assembler's steps against the plain definition. Plain. -/
import Derived.Test.YtemigcdieghkfaaDoorPkAsrVal
set_option linter.unusedVariables false
set_option linter.unusedSimpArgs false
set_option linter.unusedSectionVars false
namespace Go.Proofs.YtemigcdieghkfaaDoor
open Go

theorem kindB_ok {d : List Tok} {s : PSt} (h : s.er = 0) (k : Int) : kindB d s k = decide ((tk d s.i).kind = k) := by unfold kindB; rw [h]; rfl
theorem peekB_isP {d : List Tok} {s : PSt} (h : s.er = 0) (m : List UInt8) : peekB d s 4 m = isP d s.i m := by unfold peekB isP; rw [kindB_ok h]
theorem failP_ok {el ec : Int} {d : List Tok} {s : PSt} (h : s.er = 0) (j : Nat) (e : Int) : failP el ec d s j e = ⟨s.i, posE el ec d j, e⟩ := if_pos h
theorem failP_no {el ec : Int} {d : List Tok} {s : PSt} (h : ¬ s.er = 0) (j : Nat) (e : Int) : failP el ec d s j e = s := if_neg h
theorem kindB_mk (d : List Tok) (i : Nat) (p : Int × Int) (k : Int) : kindB d ⟨i, p, 0⟩ k = decide ((tk d i).kind = k) := kindB_ok rfl k
theorem peekB_mk (d : List Tok) (i : Nat) (p : Int × Int) (m : List UInt8) : peekB d ⟨i, p, 0⟩ 4 m = isP d i m := peekB_isP rfl m
theorem stepP_mk (i : Nat) (p : Int × Int) : stepP ⟨i, p, 0⟩ = ⟨i + 1, p, 0⟩ := rfl
theorem reg_ok {el ec : Int} {d : List Tok} {s : PSt} (h : s.er = 0) {r : Int} (ha : aReg d s.i = .ok r) : regV d s = r ∧ regP el ec d s = stepP s := by
  unfold aReg at ha
  split at ha
  · rename_i hk
    have hb : regB d s = true := by unfold regB; rw [kindB_ok h, decide_eq_true hk.1, decide_eq_true hk.2]; rfl
    injection ha with ha
    unfold regV regP
    rw [if_pos hb, if_pos hb]
    exact ⟨ha, rfl⟩
  · cases ha
theorem reg_err {el ec : Int} {d : List Tok} {s : PSt} (h : s.er = 0) {x : AErr} (ha : aReg d s.i = .error x) : regV d s = 0 ∧ regP el ec d s = ⟨s.i, posE el ec d x.1, x.2⟩ ∧ ¬ x.2 = 0 := by
  unfold aReg at ha
  split at ha
  · cases ha
  · rename_i hk
    have hb : ¬ regB d s = true := by
      unfold regB
      rw [kindB_ok h, Bool.and_eq_true, decide_eq_true_eq, decide_eq_true_eq]
      exact hk
    injection ha with ha
    subst ha
    unfold regV regP
    rw [if_neg hb, if_neg hb, failP_ok h]
    exact ⟨rfl, rfl, by first | decide | (show ¬ (50 : Int) = 0; decide) | (show ¬ (6 : Int) = 0; decide)⟩
theorem reg_bad {el ec : Int} {d : List Tok} {s : PSt} (h : ¬ s.er = 0) : regV d s = 0 ∧ regP el ec d s = s := by
  have hb : ¬ regB d s = true := by unfold regB kindB; rw [beq_eq_false_iff_ne.2 h]; simp
  unfold regV regP
  rw [if_neg hb, if_neg hb, failP_no h]
  exact ⟨rfl, rfl⟩
theorem val_ok {el ec : Int} {d : List Tok} {s : PSt} {tg : Bool} {n j : Nat} {u : Int} {us : List ARef} (h : s.er = 0) (ha : aImm d n tg s.i = .ok (u, j, us)) :
    valS el ec d tg s = (⟨j, s.p, 0⟩, u, us.map fun r => (r.label, r.at_)) := by
  obtain ⟨i, p, er⟩ := s
  simp only at h ha
  subst h
  unfold aImm at ha
  unfold valS
  simp only [kindB_mk, peekB_mk, decide_eq_true_eq]
  by_cases h1 : (tk d i).kind = 1
  · rw [if_pos h1] at ha
    rw [if_pos h1]
    by_cases h2 : 0 ≤ regOf (tk d i).text
    · rw [if_pos h2] at ha; cases ha
    · rw [if_neg h2] at ha
      rw [if_neg h2]
      injection ha with ha
      simp only [Prod.mk.injEq] at ha
      obtain ⟨rfl, rfl, rfl⟩ := ha
      rfl
  · rw [if_neg h1] at ha
    rw [if_neg h1]
    by_cases h2 : (!tg && isP d i [45]) = true
    · rw [if_pos h2] at ha
      rw [h2]
      simp only [if_true, stepP_mk, anyP, kindB_mk, decide_eq_true_eq]
      by_cases h3 : (tk d (i + 1)).kind = 2
      · rw [if_neg (fun q => q h3)] at ha
        rw [if_pos h3, if_pos h3]
        by_cases h4 : 2147483648 < (tk d (i + 1)).value
        · rw [if_pos h4] at ha; cases ha
        · rw [if_neg h4] at ha
          rw [if_neg (by rintro (q | ⟨_, q⟩); exact h4 q; cases q)]
          injection ha with ha
          simp only [Prod.mk.injEq] at ha
          obtain ⟨rfl, rfl, rfl⟩ := ha
          rfl
      · rw [if_pos h3] at ha; cases ha
    · rw [if_neg h2] at ha
      have h2' : (!tg && isP d i [45]) = false := by simpa using h2
      rw [h2']
      simp only [Bool.false_eq_true, if_false, stepP_mk, anyP, kindB_mk, decide_eq_true_eq]
      by_cases h3 : (tk d i).kind = 2
      · rw [if_neg (fun q => q h3)] at ha
        rw [if_pos h3, if_pos h3]
        by_cases h4 : 2147483647 < (tk d i).value
        · rw [if_pos h4] at ha; cases ha
        · rw [if_neg h4] at ha
          rw [if_neg (by rintro (q | ⟨q, _⟩) <;> omega)]
          injection ha with ha
          simp only [Prod.mk.injEq] at ha
          obtain ⟨rfl, rfl, rfl⟩ := ha
          cases tg <;> rfl
      · rw [if_pos h3] at ha; cases ha
theorem val_err {el ec : Int} {d : List Tok} {s : PSt} {tg : Bool} {n : Nat} {x : AErr} (h : s.er = 0) (ha : aImm d n tg s.i = .error x) :
    (valS el ec d tg s).1.er = x.2 ∧ (valS el ec d tg s).1.p = posE el ec d x.1 ∧ ¬ x.2 = 0 := by
  obtain ⟨i, p, er⟩ := s
  simp only at h ha
  subst h
  unfold aImm at ha
  unfold valS
  simp only [kindB_mk, peekB_mk, decide_eq_true_eq]
  by_cases h1 : (tk d i).kind = 1
  · rw [if_pos h1] at ha
    rw [if_pos h1]
    by_cases h2 : 0 ≤ regOf (tk d i).text
    · rw [if_pos h2] at ha
      rw [if_pos h2]
      injection ha with ha
      subst ha
      exact ⟨rfl, rfl, by first | decide | (show ¬ (50 : Int) = 0; decide) | (show ¬ (6 : Int) = 0; decide)⟩
    · rw [if_neg h2] at ha; cases ha
  · rw [if_neg h1] at ha
    rw [if_neg h1]
    by_cases h2 : (!tg && isP d i [45]) = true
    · rw [if_pos h2] at ha
      rw [h2]
      simp only [if_true, stepP_mk, anyP, kindB_mk, decide_eq_true_eq]
      by_cases h3 : (tk d (i + 1)).kind = 2
      · rw [if_neg (fun q => q h3)] at ha
        rw [if_pos h3, if_pos h3]
        by_cases h4 : 2147483648 < (tk d (i + 1)).value
        · rw [if_pos h4] at ha
          rw [if_pos (.inl h4)]
          injection ha with ha
          subst ha
          exact ⟨rfl, rfl, by first | decide | (show ¬ (50 : Int) = 0; decide) | (show ¬ (6 : Int) = 0; decide)⟩
        · rw [if_neg h4] at ha; cases ha
      · rw [if_pos h3] at ha
        rw [if_neg h3, if_neg h3]
        injection ha with ha
        subst ha
        rw [if_neg (by rintro (q | ⟨q, _⟩) <;> omega)]
        exact ⟨rfl, rfl, by first | decide | (show ¬ (50 : Int) = 0; decide) | (show ¬ (6 : Int) = 0; decide)⟩
    · rw [if_neg h2] at ha
      have h2' : (!tg && isP d i [45]) = false := by simpa using h2
      rw [h2']
      simp only [Bool.false_eq_true, if_false, stepP_mk, anyP, kindB_mk, decide_eq_true_eq]
      by_cases h3 : (tk d i).kind = 2
      · rw [if_neg (fun q => q h3)] at ha
        rw [if_pos h3, if_pos h3]
        by_cases h4 : 2147483647 < (tk d i).value
        · rw [if_pos h4] at ha
          have hbg : 2147483648 < (tk d i).value ∨ ((tk d i).value = 2147483648 ∧ True) := by
            by_cases q : 2147483648 < (tk d i).value
            · exact .inl q
            · exact .inr ⟨by omega, trivial⟩
          rw [if_pos hbg]
          injection ha with ha
          subst ha
          exact ⟨rfl, rfl, by first | decide | (show ¬ (50 : Int) = 0; decide) | (show ¬ (6 : Int) = 0; decide)⟩
        · rw [if_neg h4] at ha; cases ha
      · rw [if_pos h3] at ha
        rw [if_neg h3, if_neg h3]
        injection ha with ha
        subst ha
        rw [if_neg (by rintro (q | ⟨q, _⟩) <;> omega)]
        exact ⟨rfl, rfl, by first | decide | (show ¬ (50 : Int) = 0; decide) | (show ¬ (6 : Int) = 0; decide)⟩
end Go.Proofs.YtemigcdieghkfaaDoor
