/- What the text of one 'li' with an immediate assembles to. Plain. -/
import Derived.Test.YtemigcdieghkfaaDoorPkImmAsm
set_option linter.unusedVariables false
set_option linter.unusedSimpArgs false
set_option linter.unusedSectionVars false
namespace Go.Proofs.YtemigcdieghkfaaDoor
open Go

/-- The numeral of the law: in decimal or in hexadecimal. -/
def immN (hx : Bool) (x : Nat) : List UInt8 := if hx then [48, 120] ++ hexL x else numL 10 x
theorem immN_num (hx : Bool) (x : Nat) (h : (x : Int) ≤ 18446744073709551615) : numeral (immN hx x) = ((x : Int), 0) := by
  cases hx with
  | true =>
    show numeral ([48, 120] ++ hexL x) = _
    rw [numeral_hex, if_neg (by unfold most; omega)]
  | false =>
    have := numeral_text false x (k := 0) (by decide)
    rw [if_neg (by unfold most; simp; omega)] at this
    simpa [numText, sufL, immN] using this
theorem immN_len (hx : Bool) (x : Nat) (h : (x : Int) ≤ 18446744073709551615) : (immN hx x).length ≤ 22 := by
  have h1 := numL_len10 h
  have h2 := hexL_len16 h
  cases hx with
  | true => show ([48, 120] ++ hexL x).length ≤ 22; simp only [List.length_append, List.length_cons, List.length_nil]; omega
  | false => show (numL 10 x).length ≤ 22; omega
theorem immN_head (hx : Bool) (x : Nat) : (∀ c ∈ immN hx x, alnumB c.toNat = true) ∧ ∃ c r, immN hx x = c :: r ∧ digitB c.toNat = true := by
  cases hx with
  | true => exact ⟨hex_alnum x, 48, 120 :: hexL x, rfl, by decide⟩
  | false => exact ⟨numL_alnum x, numL_cons x⟩
def limI (sg : Bool) : Int := if sg then 2147483648 else 2147483647
theorem asm_immT (sg hx : Bool) (x : Nat) (h : (x : Int) ≤ 18446744073709551615) :
    asm (immT sg (immN hx x)) = if limI sg < (x : Int) then ([], (1, 8 + sgN sg), 6) else ([⟨1, 3, 0, 0, if sg then -(x : Int) else x⟩], (0, 0), 0) := by
  obtain ⟨hall, c, r, hc, hd⟩ := immN_head hx x
  have hs := scan_imm sg (immN_num hx x h) hall hc hd
  have hlen : ¬ 65536 < (immT sg (immN hx x)).length := by
    have := immN_len hx x h
    unfold immT
    simp only [List.length_append, List.length_cons, List.length_nil]
    split <;> simp <;> omega
  have hr := scanRes_ok hlen hs
  generalize immT sg (immN hx x) = t at *
  generalize ((immN hx x).length : Int) = n at *
  generalize (x : Int) = v at *
  change scanRes t = (immD sg v n, 0, 0, 0) at hr
  have ha : aAll (immD sg v n) (immD sg v n).length ⟨0, [], [], []⟩ = if (if sg then 2147483648 else 2147483647 : Int) < v then .error (3 + (if sg then 1 else 0), 6) else .ok ⟨5 + (if sg then 1 else 0), [⟨1, 3, 0, 0, if sg then -v else v⟩], [], []⟩ := by
    have h1 := imm_run sg v n
    cases sg with
    | false =>
      rw [imm_pos] at h1
      show aAll (immD false v n) 5 ⟨0, [], [], []⟩ = _
      unfold aAll
      rw [if_pos (show (⟨0, [], [], []⟩ : ASt).i < (immD false v n).length from Nat.succ_pos _), h1]
      have hp : isP (immD false v n) 4 [59] = true := rfl
      by_cases hv : 2147483647 < v
      · rw [if_pos hv]; simp [hv]
      · rw [if_neg hv]
        dsimp only
        rw [if_pos hp]
        dsimp only
        rw [aAll, if_neg (show ¬ (5 - 1 + 1) < (immD false v n).length from Nat.lt_irrefl 5)]
        simp [hv]
    | true =>
      rw [imm_neg] at h1
      show aAll (immD true v n) 6 ⟨0, [], [], []⟩ = _
      unfold aAll
      rw [if_pos (show (⟨0, [], [], []⟩ : ASt).i < (immD true v n).length from Nat.succ_pos _), h1]
      have hp : isP (immD true v n) 5 [59] = true := rfl
      by_cases hv : 2147483648 < v
      · rw [if_pos hv]; simp [hv]
      · rw [if_neg hv]
        dsimp only
        rw [if_pos hp]
        dsimp only
        rw [aAll, if_neg (show ¬ (6 - 1 + 1) < (immD true v n).length from Nat.lt_irrefl 6)]
        simp [hv]
  unfold asm limI
  rw [hr]
  dsimp only
  rw [if_neg (by decide), ha]
  cases sg with
  | false =>
    by_cases hv : 2147483647 < v
    · simp [hv]; rfl
    · simp [hv]; rfl
  | true =>
    by_cases hv : 2147483648 < v
    · simp [hv]; rfl
    · simp [hv]; rfl
end Go.Proofs.YtemigcdieghkfaaDoor
