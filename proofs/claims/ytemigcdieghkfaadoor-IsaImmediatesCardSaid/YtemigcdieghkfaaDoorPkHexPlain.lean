/- Hexadecimal numerals in small letters. Plain. -/
import Derived.Test.YtemigcdieghkfaaDoorPkLexP
set_option linter.unusedVariables false
set_option linter.unusedSimpArgs false
set_option linter.unusedSectionVars false
namespace Go.Proofs.YtemigcdieghkfaaDoor
open Go

def digH (n : Nat) : UInt8 := ([48, 49, 50, 51, 52, 53, 54, 55, 56, 57, 97, 98, 99, 100, 101, 102] : List UInt8).getD n 0
def hexL (n : Nat) : List UInt8 := if _h : n < 16 then [digH n] else hexL (n / 16) ++ [digH (n % 16)]
  termination_by n
  decreasing_by exact Nat.div_lt_self (by omega) (by omega)
theorem hexL_small {n : Nat} (h : n < 16) : hexL n = [digH n] := by rw [hexL, dif_pos h]
theorem hexL_big {n : Nat} (h : 16 ≤ n) : hexL n = hexL (n / 16) ++ [digH (n % 16)] := by rw [hexL, dif_neg (by omega)]
theorem digH_ok : ∀ n < 16, digV (digH n).toNat 16 = n ∧ alnumB (digH n).toNat = true ∧ shiftOf (digH n) = 0 := by decide
theorem hexL_ind (P : Nat → List UInt8 → Prop) (h0 : ∀ n, n < 16 → P n [digH n]) (h1 : ∀ n, 16 ≤ n → P (n / 16) (hexL (n / 16)) → P n (hexL (n / 16) ++ [digH (n % 16)])) : ∀ n, P n (hexL n) := by
  intro n
  induction n using Nat.strongRecOn with
  | ind n ih =>
    by_cases h : n < 16
    · rw [hexL_small h]; exact h0 n h
    · rw [hexL_big (by omega)]
      exact h1 n (by omega) (ih (n / 16) (Nat.div_lt_self (by omega) (by omega)))
theorem hexL_ne (n : Nat) : hexL n ≠ [] := by
  by_cases h : n < 16
  · rw [hexL_small h]; simp
  · rw [hexL_big (by omega)]; simp
theorem hexL_len : ∀ (k n : Nat), n < 16 ^ (k + 1) → (hexL n).length ≤ k + 1
  | 0, n, h => by rw [hexL_small (by simpa using h)]; simp
  | k + 1, n, h => by
    by_cases hs : n < 16
    · rw [hexL_small hs]; simp
    · rw [hexL_big (by omega), List.length_append]
      have h2 : n / 16 < 16 ^ (k + 1) := by rw [Nat.div_lt_iff_lt_mul (by omega)]; rw [Nat.pow_succ] at h; exact h
      have := hexL_len k (n / 16) h2
      simp only [List.length_cons, List.length_nil]; omega
theorem hexL_len16 {n : Nat} (h : (n : Int) ≤ 18446744073709551615) : (hexL n).length ≤ 16 := by
  refine hexL_len 15 n ?_
  have : (16 : Nat) ^ (15 + 1) = 18446744073709551616 := by decide
  rw [this]; omega
theorem hexL_val : ∀ n, numV 16 (hexL n) = n := by
  refine hexL_ind (fun n l => numV 16 l = n) ?_ ?_
  · intro n h; simp [numV, (digH_ok n h).1]
  · intro n _ ih
    rw [numV_snoc, (digH_ok _ (Nat.mod_lt _ (by decide))).1]
    exact div_mod_cast n 16 _ ih
theorem hexL_all : ∀ n, ∀ c ∈ hexL n, alnumB c.toNat = true ∧ 0 ≤ digV c.toNat 16 := by
  refine hexL_ind (fun n l => ∀ c ∈ l, alnumB c.toNat = true ∧ 0 ≤ digV c.toNat 16) ?_ ?_
  · intro n h c hc; simp at hc; subst hc; obtain ⟨a, b, _⟩ := digH_ok n h; exact ⟨b, by omega⟩
  · intro n _ ih c hc
    simp only [List.mem_append, List.mem_singleton] at hc
    rcases hc with hc | rfl
    · exact ih c hc
    · obtain ⟨a, b, _⟩ := digH_ok _ (Nat.mod_lt n (by decide : 16 > 0)); exact ⟨b, by omega⟩
theorem hexL_last (n : Nat) : ∃ c, (hexL n).getLast? = some c ∧ shiftOf c = 0 := by
  have h16 := fun m (h : m < 16) => (digH_ok m h).2.2
  by_cases h : n < 16
  · rw [hexL_small h]; exact ⟨_, rfl, h16 n h⟩
  · rw [hexL_big (by omega)]
    exact ⟨_, by rw [List.getLast?_append]; rfl, h16 _ (Nat.mod_lt _ (by decide))⟩
/-- What such a numeral is worth. -/
theorem numeral_hex (x : Nat) : numeral ([48, 120] ++ hexL x) = if most < (x : Int) then (0, 6) else ((x : Int), 0) := by
  obtain ⟨c, hl, hc⟩ := hexL_last x
  have hl' : ([48, 120] ++ hexL x).getLast? = some c := by rw [List.getLast?_append, hl]; rfl
  have hs := suf_body hl' hc (k := 0) (by decide)
  rw [show sufL 0 = [] from rfl, List.append_nil] at hs
  obtain ⟨h1, h2⟩ := hs
  have hhx : isHexL ([48, 120] ++ hexL x) = true := rfl
  have hb : badDigits (baseOf (sufBody ([48, 120] ++ hexL x))) (digitsOf (sufBody ([48, 120] ++ hexL x))) = false := by
    rw [h2, baseOf_hex hhx, digitsOf_hex hhx]
    refine badDigits_false ?_ (fun c hc => (hexL_all x c hc).2)
    unfold badLead
    have hne := hexL_ne x
    show (hexL x == [] || _) = false
    cases hd : hexL x with
    | nil => exact absurd hd hne
    | cons a r => rfl
  have hv : numV (baseOf (sufBody ([48, 120] ++ hexL x))) (digitsOf (sufBody ([48, 120] ++ hexL x))) = x := by
    rw [h2, baseOf_hex hhx, digitsOf_hex hhx]
    exact hexL_val x
  unfold numeral
  rw [hb, hv, h1, if_neg (by decide)]
  simp
theorem hex_alnum (x : Nat) : ∀ c ∈ [48, 120] ++ hexL x, alnumB c.toNat = true := by
  intro c hc
  rw [List.mem_append] at hc
  rcases hc with hc | hc
  · simp at hc; rcases hc with rfl | rfl <;> decide
  · exact (hexL_all x c hc).1
end Go.Proofs.YtemigcdieghkfaaDoor
