/- Numerals: what decimal and hexadecimal numerals are worth. Plain. -/
import Derived.Test.YtmeicjndfblglaaDoorPosPlain
set_option linter.unusedVariables false
set_option linter.unusedSimpArgs false
set_option linter.unusedSectionVars false
namespace Go.Proofs.YtmeicjndfblglaaDoor
open Go

def digC (b n : Nat) : UInt8 := if b = 10 then UInt8.ofNat (48 + n) else (([48, 49, 50, 51, 52, 53, 54, 55, 56, 57, 97, 98, 99, 68, 69, 70] : List UInt8).getD n 0)
/-- The numeral of n in base b (10 or 16). -/
def numL (b : Nat) (n : Nat) : List UInt8 := if _h : n < b ∨ b < 2 then [digC b n] else numL b (n / b) ++ [digC b (n % b)]
  termination_by n
  decreasing_by exact Nat.div_lt_self (by omega) (by omega)
theorem numL_small {b n : Nat} (h : n < b) : numL b n = [digC b n] := by rw [numL, dif_pos (.inl h)]
theorem numL_big {b n : Nat} (h : b ≤ n) (hb : 2 ≤ b) : numL b n = numL b (n / b) ++ [digC b (n % b)] := by rw [numL, dif_neg (by omega)]
theorem digC10 : ∀ n < 10, digV (digC 10 n).toNat 10 = n ∧ alnumB (digC 10 n).toNat = true ∧ digitB (digC 10 n).toNat = true ∧ shiftOf (digC 10 n) = 0 ∧ ((digC 10 n).toNat = 48 → n = 0) := by decide
theorem digC16 : ∀ n < 16, digV (digC 16 n).toNat 16 = n ∧ alnumB (digC 16 n).toNat = true ∧ shiftOf (digC 16 n) = 0 := by decide

/-- An induction on numerals. -/
theorem numL_ind {b : Nat} (hb : 2 ≤ b) (P : Nat → List UInt8 → Prop) (h0 : ∀ n, n < b → P n [digC b n]) (h1 : ∀ n, b ≤ n → P (n / b) (numL b (n / b)) → P n (numL b (n / b) ++ [digC b (n % b)])) : ∀ n, P n (numL b n) := by
  intro n
  induction n using Nat.strongRecOn with
  | ind n ih =>
    by_cases h : n < b
    · rw [numL_small h]; exact h0 n h
    · rw [numL_big (by omega) hb]
      exact h1 n (by omega) (ih (n / b) (Nat.div_lt_self (by omega) (by omega)))
theorem numL_ne {b : Nat} (hb : 2 ≤ b) (n : Nat) : numL b n ≠ [] := by
  by_cases h : n < b
  · rw [numL_small h]; simp
  · rw [numL_big (by omega) hb]; simp
theorem div_mod_cast (n b : Nat) (v : Int) (h : v = ((n / b : Nat) : Int)) : v * b + ((n % b : Nat) : Int) = n := by
  subst h
  have := Nat.div_add_mod n b
  rw [← Int.natCast_mul, ← Int.natCast_add, Nat.mul_comm, this]
theorem numV10 : ∀ n, numV 10 (numL 10 n) = n := by
  refine numL_ind (by decide) (fun n l => numV 10 l = n) ?_ ?_
  · intro n h; simp [numV, (digC10 n h).1]
  · intro n _ ih
    rw [numV_snoc, (digC10 _ (Nat.mod_lt _ (by decide))).1]
    exact div_mod_cast n 10 _ ih
theorem numV16 : ∀ n, numV 16 (numL 16 n) = n := by
  refine numL_ind (by decide) (fun n l => numV 16 l = n) ?_ ?_
  · intro n h; simp [numV, (digC16 n h).1]
  · intro n _ ih
    rw [numV_snoc, (digC16 _ (Nat.mod_lt _ (by decide))).1]
    exact div_mod_cast n 16 _ ih
theorem all10 : ∀ n, ∀ c ∈ numL 10 n, digitB c.toNat = true ∧ alnumB c.toNat = true ∧ 0 ≤ digV c.toNat 10 := by
  refine numL_ind (by decide) (fun n l => ∀ c ∈ l, digitB c.toNat = true ∧ alnumB c.toNat = true ∧ 0 ≤ digV c.toNat 10) ?_ ?_
  · intro n h c hc; simp at hc; subst hc; obtain ⟨a, b, c, _⟩ := digC10 n h; exact ⟨c, b, by omega⟩
  · intro n _ ih c hc
    simp only [List.mem_append, List.mem_singleton] at hc
    rcases hc with hc | rfl
    · exact ih c hc
    · obtain ⟨a, b, c, _⟩ := digC10 _ (Nat.mod_lt n (by decide : 10 > 0)); exact ⟨c, b, by omega⟩
theorem all16 : ∀ n, ∀ c ∈ numL 16 n, alnumB c.toNat = true ∧ 0 ≤ digV c.toNat 16 := by
  refine numL_ind (by decide) (fun n l => ∀ c ∈ l, alnumB c.toNat = true ∧ 0 ≤ digV c.toNat 16) ?_ ?_
  · intro n h c hc; simp at hc; subst hc; obtain ⟨a, b, _⟩ := digC16 n h; exact ⟨b, by omega⟩
  · intro n _ ih c hc
    simp only [List.mem_append, List.mem_singleton] at hc
    rcases hc with hc | rfl
    · exact ih c hc
    · obtain ⟨a, b, _⟩ := digC16 _ (Nat.mod_lt n (by decide : 16 > 0)); exact ⟨b, by omega⟩
/-- No zero ahead, but in the numeral of zero. -/
theorem head10 : ∀ n, ((numL 10 n).head? = some 48 → (numL 10 n).length = 1) := by
  have key : ∀ n, (numL 10 n).head? = some 48 → n = 0 := by
    refine numL_ind (by decide) (fun n l => l.head? = some 48 → n = 0) ?_ ?_
    · intro n h hh
      simp at hh
      exact (digC10 n h).2.2.2.2 (by rw [hh]; rfl)
    · intro n hn ih hh
      have hne := numL_ne (by decide : 2 ≤ 10) (n / 10)
      rw [List.head?_append, List.head?_eq_some_head hne] at hh
      have := ih (by rw [List.head?_eq_some_head hne]; simpa using hh)
      omega
  intro n h
  rw [key n h, numL_small (by decide)]; rfl
theorem last_shift {b : Nat} (hb : b = 10 ∨ b = 16) (n : Nat) : ∃ c, (numL b n).getLast? = some c ∧ shiftOf c = 0 := by
  have h10 := fun m (h : m < 10) => (digC10 m h).2.2.2.1
  have h16 := fun m (h : m < 16) => (digC16 m h).2.2
  by_cases h : n < b
  · rw [numL_small h]
    rcases hb with rfl | rfl
    · exact ⟨_, rfl, h10 n h⟩
    · exact ⟨_, rfl, h16 n h⟩
  · rw [numL_big (by omega) (by omega)]
    rcases hb with rfl | rfl
    · exact ⟨_, by rw [List.getLast?_append]; rfl, h10 _ (Nat.mod_lt _ (by decide))⟩
    · exact ⟨_, by rw [List.getLast?_append]; rfl, h16 _ (Nat.mod_lt _ (by decide))⟩

theorem numL_len {b : Nat} (hb : 2 ≤ b) : ∀ (k n : Nat), n < b ^ (k + 1) → (numL b n).length ≤ k + 1
  | 0, n, h => by rw [numL_small (by simpa using h)]; simp
  | k + 1, n, h => by
    by_cases hs : n < b
    · rw [numL_small hs]; simp
    · rw [numL_big (by omega) hb, List.length_append]
      have h2 : n / b < b ^ (k + 1) := by rw [Nat.div_lt_iff_lt_mul (by omega)]; rw [Nat.pow_succ] at h; exact h
      have := numL_len hb k (n / b) h2
      simp only [List.length_cons, List.length_nil]; omega
theorem numL_len10 {n : Nat} (h : (n : Int) ≤ 18446744073709551615) : (numL 10 n).length ≤ 20 := by
  refine numL_len (by decide) 19 n ?_
  have : (10 : Nat) ^ (19 + 1) = 100000000000000000000 := by decide
  rw [this]; omega
theorem numL_len16 {n : Nat} (h : (n : Int) ≤ 18446744073709551615) : (numL 16 n).length ≤ 16 := by
  refine numL_len (by decide) 15 n ?_
  have : (16 : Nat) ^ (15 + 1) = 18446744073709551616 := by decide
  rw [this]; omega
theorem tmod_bd (v b : Int) (hb : 0 < b) : -b < v.tmod b ∧ v.tmod b < b := by
  have h1 := Int.tmod_lt_of_pos v hb
  have h2 := Int.tmod_lt_of_pos (-v) hb
  rw [Int.neg_tmod] at h2
  omega
def sufL (k : Nat) : List UInt8 := [[], [75], [77], [71]].getD k []
theorem suf_body {l : List UInt8} {c : UInt8} (hl : l.getLast? = some c) (hc : shiftOf c = 0) {k : Nat} (hk : k < 4) : sufShift (l ++ sufL k) = 10 * k ∧ sufBody (l ++ sufL k) = l := by
  have h4 : k = 0 ∨ k = 1 ∨ k = 2 ∨ k = 3 := by omega
  rcases h4 with rfl | rfl | rfl | rfl
  · have e : l ++ sufL 0 = l := by simp [sufL]
    have hs : sufShift l = 0 := by unfold sufShift; rw [hl]; exact hc
    rw [e]; exact ⟨hs, by unfold sufBody; rw [if_pos hs]⟩
  all_goals
    have hs : ∀ (x : UInt8), sufShift (l ++ [x]) = shiftOf x := fun x => by unfold sufShift; rw [List.getLast?_append]; rfl
    refine ⟨by show sufShift (l ++ [_]) = _; rw [hs]; rfl, ?_⟩
    show sufBody (l ++ [_]) = l
    unfold sufBody
    rw [hs, if_neg (by decide), List.dropLast_concat]

/-- The numeral's text. -/
def numText (hx : Bool) (x : Nat) : List UInt8 := if hx then [48, 120] ++ numL 16 x else numL 10 x
theorem isHex10 (n : Nat) : isHexL (numL 10 n) = false := by
  rw [Bool.eq_false_iff]
  intro h
  have hp := List.isPrefixOf_iff_prefix.1 h
  obtain ⟨r, hr⟩ := hp
  have := (all10 n 120 (by rw [← hr]; simp)).1
  revert this; decide
theorem numeral_text (hx : Bool) (x : Nat) {k : Nat} (hk : k < 4) : numeral (numText hx x ++ sufL k) = if most / 2 ^ (10 * k) < (x : Int) then (0, 6) else ((x : Int) * 2 ^ (10 * k), 0) := by
  cases hx with
  | false =>
    have e : numText false x = numL 10 x := rfl
    rw [e]
    obtain ⟨c, hl, hc⟩ := last_shift (.inl rfl) x
    obtain ⟨h1, h2⟩ := suf_body hl hc hk
    have hb : badDigits (baseOf (sufBody (numL 10 x ++ sufL k))) (digitsOf (sufBody (numL 10 x ++ sufL k))) = false := by
      rw [h2, baseOf_dec (isHex10 x), digitsOf_dec (isHex10 x)]
      refine badDigits_false ?_ (fun c hc => (all10 x c hc).2.2)
      unfold badLead
      have hne := numL_ne (by decide : 2 ≤ 10) x
      have hh := head10 x
      cases hd : numL 10 x with
      | nil => exact absurd hd hne
      | cons a r =>
        rw [hd] at hh
        by_cases ha : a = 48
        · subst ha
          have := hh rfl
          simp only [List.length_cons] at this
          simp only [List.length_cons]
          rw [decide_eq_false (by omega)]; rfl
        · simp [ha]
    have hv : numV (baseOf (sufBody (numL 10 x ++ sufL k))) (digitsOf (sufBody (numL 10 x ++ sufL k))) = x := by
      rw [h2, baseOf_dec (isHex10 x), digitsOf_dec (isHex10 x), numV10]
    unfold numeral
    rw [hb, hv, h1, if_neg (by decide)]
  | true =>
    have e : numText true x = [48, 120] ++ numL 16 x := rfl
    rw [e]
    obtain ⟨c, hl, hc⟩ := last_shift (.inr rfl) x
    have hl' : ([48, 120] ++ numL 16 x).getLast? = some c := by rw [List.getLast?_append, hl]; rfl
    obtain ⟨h1, h2⟩ := suf_body hl' hc hk
    have hhx : isHexL ([48, 120] ++ numL 16 x) = true := rfl
    have hb : badDigits (baseOf (sufBody (([48, 120] ++ numL 16 x) ++ sufL k))) (digitsOf (sufBody (([48, 120] ++ numL 16 x) ++ sufL k))) = false := by
      rw [h2, baseOf_hex hhx, digitsOf_hex hhx]
      refine badDigits_false ?_ (fun c hc => (all16 x c hc).2)
      unfold badLead
      have hne := numL_ne (by decide : 2 ≤ 16) x
      show (numL 16 x == [] || _) = false
      cases hd : numL 16 x with
      | nil => exact absurd hd hne
      | cons a r => rfl
    have hv : numV (baseOf (sufBody (([48, 120] ++ numL 16 x) ++ sufL k))) (digitsOf (sufBody (([48, 120] ++ numL 16 x) ++ sufL k))) = x := by
      rw [h2, baseOf_hex hhx, digitsOf_hex hhx]
      exact numV16 x
    unfold numeral
    rw [hb, hv, h1, if_neg (by decide)]
theorem text_alnum (hx : Bool) (x : Nat) {k : Nat} (hk : k < 4) : ∀ c ∈ numText hx x ++ sufL k, alnumB c.toNat = true := by
  intro c hc
  rw [List.mem_append] at hc
  rcases hc with hc | hc
  · cases hx with
    | false => exact (all10 x c hc).2.1
    | true =>
      have e : numText true x = [48, 120] ++ numL 16 x := rfl
      rw [e, List.mem_append] at hc
      rcases hc with hc | hc
      · simp at hc; rcases hc with rfl | rfl <;> decide
      · exact (all16 x c hc).1
  · have h4 : k = 0 ∨ k = 1 ∨ k = 2 ∨ k = 3 := by omega
    rcases h4 with rfl | rfl | rfl | rfl <;> simp [sufL] at hc <;> subst hc <;> decide
theorem text_head (hx : Bool) (x : Nat) (k : Nat) : ∃ c r, numText hx x ++ sufL k = c :: r ∧ letterB c.toNat = false ∧ digitB c.toNat = true := by
  have h : ∃ c r, numText hx x = c :: r ∧ digitB c.toNat = true := by
    cases hx with
    | false =>
      cases hd : numL 10 x with
      | nil => exact absurd hd (numL_ne (by decide) x)
      | cons a r => exact ⟨a, r, hd, (all10 x a (by rw [hd]; simp)).1⟩
    | true => exact ⟨48, 120 :: numL 16 x, rfl, by decide⟩
  obtain ⟨c, r, h1, h2⟩ := h
  refine ⟨c, r ++ sufL k, by rw [h1]; rfl, ?_, h2⟩
  simp [digitB] at h2
  simp [letterB]; omega
/-- Scanning two blanks and a numeral. -/
theorem scan_text (hx : Bool) (x : Nat) {k : Nat} (hk : k < 4) (hlen : (numText hx x ++ sufL k).length ≤ 60000) : scanRes ([32, 32] ++ (numText hx x ++ sufL k)) =
    if most / 2 ^ (10 * k) < (x : Int) then ([], 1, 3, 6) else ([⟨⟨2, [], (x : Int) * 2 ^ (10 * k)⟩, 1, 3⟩], 0, 0, 0) := by
  obtain ⟨c, r, hcr, hl, hd⟩ := text_head hx x k
  have hall := text_alnum hx x hk
  have hnum := numeral_text hx x hk
  rw [hcr] at hall hnum hlen ⊢
  have hrun : runLen (c :: r) = (c :: r).length := by
    unfold runLen
    exact (all_iff_run _).1 (List.all_eq_true.2 hall)
  have hlz : ¬ c.toNat = 10 ∧ ¬ (c.toNat = 32 ∨ c.toNat = 9 ∨ c.toNat = 13) ∧ ¬ c.toNat = 35 := by simp [digitB] at hd; omega
  have hsc : scan ([32, 32] ++ c :: r) 1 1 = scan (c :: r) 1 3 := by
    show scan (32 :: 32 :: c :: r) 1 1 = _
    rw [scan_cons, if_neg (by decide), if_pos (by decide), scan_cons, if_neg (by decide), if_pos (by decide)]; rfl
  by_cases hb : most / 2 ^ (10 * k) < (x : Int)
  · rw [if_pos hb] at hnum ⊢
    have hn : numeral ((c :: r).take (runLen (c :: r))) = (0, 6) := by rw [hrun, List.take_length]; exact hnum
    have hlex := lexOne_numbad hl hd (by rw [hn]; decide)
    rw [hn] at hlex
    refine scanRes_err (d := []) (by simp only [List.length_append, List.length_cons, List.length_nil] at hlen ⊢; omega) ?_
    rw [hsc, scan_cons, if_neg hlz.1, if_neg hlz.2.1, if_neg hlz.2.2, hlex, if_neg (by decide)]
  · rw [if_neg hb] at hnum ⊢
    have hn : numeral ((c :: r).take (runLen (c :: r))) = ((x : Int) * 2 ^ (10 * k), 0) := by rw [hrun, List.take_length]; exact hnum
    have hlex := lexOne_num hl hd (by rw [hn])
    rw [hn, hrun] at hlex
    refine scanRes_ok (by simp only [List.length_append, List.length_cons, List.length_nil] at hlen ⊢; omega) ?_
    rw [hsc, scan_cons, if_neg hlz.1, if_neg hlz.2.1, if_neg hlz.2.2, hlex, if_pos rfl]
    have : r.drop ((c :: r).length - 1) = [] := by simp
    simp only [this, scan_nil]
    rfl
end Go.Proofs.YtmeicjndfblglaaDoor
