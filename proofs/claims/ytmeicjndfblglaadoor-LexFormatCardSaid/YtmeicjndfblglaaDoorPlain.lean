/- Plain definitions for the lexer's proofs: what a letter, a digit, a run, a punctuation mark, a numeral are. Nothing of the program is imported. -/
import Derived.Test.YtmeicjndfblglaaDoorStr
import Derived.Below
import Derived.Lib.Bytealg
set_option linter.unusedVariables false
set_option linter.unusedSimpArgs false
set_option linter.unusedSectionVars false
namespace Go.Proofs.YtmeicjndfblglaaDoor
open Go

def letterB (n : Int) : Bool := (decide (97 ≤ n) && decide (n ≤ 122)) || (decide (65 ≤ n) && decide (n ≤ 90)) || (n == 95)
def digitB (n : Int) : Bool := decide (48 ≤ n) && decide (n ≤ 57)
def alnumB (n : Int) : Bool := letterB n || digitB n
def plainB (n : Int) : Bool := decide (32 ≤ n) && decide (n ≤ 126) && !(n == 34) && !(n == 92)
/-- The value of a hexadecimal digit, or -1. -/
def hexV (n : Int) : Int := if digitB n = true then n - 48 else if 97 ≤ n ∧ n ≤ 102 then n - 87 else if 65 ≤ n ∧ n ≤ 70 then n - 55 else -1
def digV (n b : Int) : Int := if hexV n < b then hexV n else -1
/-- A byte as the walk has it. -/
abbrev bv (c : UInt8) : Int := (c.toNat : Int)
def notNl (n : Int) : Bool := !(n == 10)
def runLen (l : List UInt8) : Nat := (l.takeWhile fun c => alnumB c.toNat).length
def strLen (l : List UInt8) : Nat := (l.takeWhile fun c => plainB c.toNat).length
def wordB : List UInt8 → Bool
  | [] => false
  | c :: l => letterB c.toNat && l.all fun c => alnumB c.toNat

/-- The two-byte punctuation marks. -/
def two (l : List UInt8) : Bool := l == [60, 61] || l == [62, 61] || l == [33, 61] || l == [46, 46] || l == [45, 62]
def marks1 : List UInt8 := [123, 125, 40, 41, 91, 93, 44, 59, 58, 61, 60, 62, 33, 43, 45, 42, 63, 46, 47]
def punctLen (l : List UInt8) : Nat :=
  if 2 ≤ l.length ∧ two (l.take 2) = true then 2 else
    match l with
    | [] => 0
    | c :: _ => if 0 ≤ Lib.indexByte marks1 c then 1 else 0

def shiftOf (c : UInt8) : Nat := if c.toNat = 71 then 30 else if c.toNat = 77 then 20 else if c.toNat = 75 then 10 else 0
def sufShift (l : List UInt8) : Nat := match l.getLast? with | some c => shiftOf c | none => 0
def sufBody (l : List UInt8) : List UInt8 := if sufShift l = 0 then l else l.dropLast
def isHexL (l : List UInt8) : Bool := ([48, 120] : List UInt8).isPrefixOf l
def baseOf (l : List UInt8) : Int := if isHexL l = true then 16 else 10
def digitsOf (l : List UInt8) : List UInt8 := if isHexL l = true then l.drop 2 else l
/-- The value of digits in a base. -/
def numV (b : Int) (l : List UInt8) : Int := l.foldl (fun v c => v * b + digV c.toNat b) 0
/-- No digits, or a zero ahead of decimal digits. -/
def badLead (b : Int) (l : List UInt8) : Bool := l == [] || (b == 10 && decide (1 < l.length) && l.head? == some 48)
def badDigits (b : Int) (l : List UInt8) : Bool := badLead b l || l.any fun c => decide (digV c.toNat b < 0)
/-- The greatest uint64, behind a name. -/
def most : Int := 18446744073709551615
/-- What a numeral comes to: the value and the error's number. -/
def numeral (l : List UInt8) : Int × Int :=
  if badDigits (baseOf (sufBody l)) (digitsOf (sufBody l)) = true then (0, 50)
  else if most / 2 ^ sufShift l < numV (baseOf (sufBody l)) (digitsOf (sufBody l)) then (0, 6)
  else (numV (baseOf (sufBody l)) (digitsOf (sufBody l)) * 2 ^ sufShift l, 0)

theorem digV_lt (n b : Int) (hb : 1 ≤ b) : digV n b < b := by unfold digV; split <;> omega
theorem numV_nil (b : Int) : numV b [] = 0 := rfl
theorem numV_snoc (b : Int) (l : List UInt8) (c : UInt8) : numV b (l ++ [c]) = numV b l * b + digV c.toNat b := by simp [numV]
theorem badDigits_lead {b : Int} {l : List UInt8} (h : badLead b l = true) : badDigits b l = true := by simp [badDigits, h]
theorem badDigits_any {b : Int} {l : List UInt8} {c : UInt8} (h : c ∈ l) (hc : digV c.toNat b < 0) : badDigits b l = true := by
  simp only [badDigits, Bool.or_eq_true, List.any_eq_true, decide_eq_true_eq]; exact .inr ⟨c, h, hc⟩
theorem badDigits_false {b : Int} {l : List UInt8} (h : badLead b l = false) (hc : ∀ c ∈ l, 0 ≤ digV c.toNat b) : badDigits b l = false := by
  simp only [badDigits, h, Bool.false_or, List.any_eq_false, decide_eq_true_eq]; intro c hl; have := hc c hl; omega
theorem foldl_numV_ge (b : Int) (hb : 1 ≤ b) : ∀ (m : List UInt8) (v : Int), (∀ c ∈ m, 0 ≤ digV c.toNat b) → 0 ≤ v →
    v ≤ m.foldl (fun v c => v * b + digV c.toNat b) v
  | [], v, _, _ => Int.le_refl _
  | c :: m, v, h, hv => by
    have h1 := h c (by simp)
    have h2 : v ≤ v * b := by have := Int.mul_le_mul_of_nonneg_left hb hv; rwa [Int.mul_one] at this
    exact Int.le_trans (by omega) (foldl_numV_ge b hb m (v * b + digV c.toNat b) (fun c hc => h c (by simp [hc])) (by omega))
theorem numV_take_le (b : Int) (hb : 1 ≤ b) (l : List UInt8) (k : Nat) (h : ∀ c ∈ l, 0 ≤ digV c.toNat b) (h0 : 0 ≤ numV b (l.take k)) : numV b (l.take k) ≤ numV b l := by
  have := foldl_numV_ge b hb (l.drop k) (numV b (l.take k)) (fun c hc => h c (List.mem_of_mem_drop hc)) h0
  have e : numV b l = (l.drop k).foldl (fun v c => v * b + digV c.toNat b) (numV b (l.take k)) := by
    unfold numV; rw [← List.foldl_append, List.take_append_drop]
  rw [e]; exact this
theorem pow_shift_pos (k : Nat) : 1 ≤ (2 : Int) ^ k := by have : 0 < (2 : Int) ^ k := Int.pow_pos (by decide); omega
theorem most_div_le (k : Nat) : most / 2 ^ k ≤ most := by
  have := pow_shift_pos k; exact Int.ediv_le_self _ (by unfold most; omega)
theorem numeral_bad {l : List UInt8} (h : badDigits (baseOf (sufBody l)) (digitsOf (sufBody l)) = true) : numeral l = (0, 50) := by unfold numeral; rw [if_pos h]
theorem numeral_big {l : List UInt8} (h : badDigits (baseOf (sufBody l)) (digitsOf (sufBody l)) = false) (hv : most / 2 ^ sufShift l < numV (baseOf (sufBody l)) (digitsOf (sufBody l))) : numeral l = (0, 6) := by
  unfold numeral; rw [if_neg (by rw [h]; decide), if_pos hv]
theorem numeral_ok {l : List UInt8} (h : badDigits (baseOf (sufBody l)) (digitsOf (sufBody l)) = false) (hv : ¬ most / 2 ^ sufShift l < numV (baseOf (sufBody l)) (digitsOf (sufBody l))) :
    numeral l = (numV (baseOf (sufBody l)) (digitsOf (sufBody l)) * 2 ^ sufShift l, 0) := by
  unfold numeral; rw [if_neg (by rw [h]; decide), if_neg hv]

theorem shift_cases (l : List UInt8) : sufShift l = 0 ∨ sufShift l = 10 ∨ sufShift l = 20 ∨ sufShift l = 30 := by
  unfold sufShift
  split
  · unfold shiftOf; split
    · simp
    · split
      · simp
      · split <;> simp
  · simp
theorem numeral_over {l d : List UInt8} {b v x : Int} {k : Nat} (hd : d = digitsOf (sufBody l)) (hb : b = baseOf (sufBody l)) (hb1 : 1 ≤ b) (hl : badLead b d = false) (hc : ∀ c ∈ d, 0 ≤ digV c.toNat b)
    (h : numV b (d.take k) = v) (hv : most < v) (hx : x = 6) : numeral l = (0, x) := by
  subst hx hd hb
  refine numeral_big (badDigits_false hl hc) ?_
  have h1 := numV_take_le _ hb1 _ k hc (by rw [h]; unfold most at hv; omega)
  have h2 := most_div_le (sufShift l)
  omega

theorem most_0 : most / 2 ^ 0 = 18446744073709551615 := by decide
theorem most_10 : most / 2 ^ 10 = 18014398509481983 := by decide
theorem most_20 : most / 2 ^ 20 = 17592186044415 := by decide
theorem most_30 : most / 2 ^ 30 = 17179869183 := by decide
theorem p2_0 : (2 : Int) ^ 0 = 1 := by decide
theorem p2_10 : (2 : Int) ^ 10 = 1024 := by decide
theorem p2_20 : (2 : Int) ^ 20 = 1048576 := by decide
theorem p2_30 : (2 : Int) ^ 30 = 1073741824 := by decide

theorem hexV_bd (n : Int) : -1 ≤ hexV n ∧ hexV n ≤ 15 := by
  unfold hexV
  split
  · rename_i h; simp [digitB] at h; omega
  · split
    · omega
    · split <;> omega
theorem digV_bad {n b : Int} (h : hexV n < 0 ∨ b ≤ hexV n) : digV n b < 0 := by unfold digV; have := hexV_bd n; split <;> omega
theorem digV_good {n b : Int} (h : ¬ (hexV n < 0 ∨ b ≤ hexV n)) : digV n b = hexV n := by unfold digV; rw [if_pos (by omega)]
theorem numeral_over2 {l d : List UInt8} {b x : Int} (hd : d = digitsOf (sufBody l)) (hb : b = baseOf (sufBody l)) (hb1 : 1 ≤ b) (hl : badLead b d = false) (hc : ∀ c ∈ d, 0 ≤ digV c.toNat b)
    (h : ∃ j, most < numV b (d.take j)) (hx : x = 6) : numeral l = (0, x) := by
  obtain ⟨j, hj⟩ := h
  exact numeral_over hd hb hb1 hl hc rfl hj hx
theorem baseOf_hex {l : List UInt8} (h : isHexL l = true) : baseOf l = 16 := by unfold baseOf; rw [if_pos h]
theorem baseOf_dec {l : List UInt8} (h : isHexL l = false) : baseOf l = 10 := by unfold baseOf; rw [if_neg (by rw [h]; decide)]
theorem digitsOf_hex {l : List UInt8} (h : isHexL l = true) : digitsOf l = l.drop 2 := by unfold digitsOf; rw [if_pos h]
theorem digitsOf_dec {l : List UInt8} (h : isHexL l = false) : digitsOf l = l := by unfold digitsOf; rw [if_neg (by rw [h]; decide)]

theorem takeWhile_len {α : Type} (p : α → Bool) : ∀ (l : List α) (k : Nat), k ≤ l.length → (∀ x ∈ l.take k, p x = true) →
    (∀ h : k < l.length, p l[k] = false) → (l.takeWhile p).length = k
  | [], k, hk, _, _ => by simp at hk; subst hk; rfl
  | a :: l, 0, _, _, he => by have := he (by simp); simp at this; simp [this]
  | a :: l, k + 1, hk, ha, he => by
    have h1 : p a = true := ha a (by simp)
    rw [List.takeWhile_cons_of_pos h1, List.length_cons]
    rw [takeWhile_len p l k (by simpa using hk) (fun x hx => ha x (by simp [hx])) (fun h => by have := he (by simp; omega); simpa using this)]
theorem takeWhile_le {α : Type} (p : α → Bool) : ∀ (l : List α), (l.takeWhile p).length ≤ l.length
  | [] => by simp
  | a :: l => by
    by_cases h : p a = true
    · rw [List.takeWhile_cons_of_pos h]; have := takeWhile_le p l; simp; omega
    · rw [List.takeWhile_cons_of_neg h]; simp
/-- All bytes of l are such that p. -/
def AllP (p : Int → Bool) (l : List UInt8) : Prop := ∀ x ∈ l, p x.toNat = true
theorem AllP.nil (p : Int → Bool) : AllP p [] := by simp [AllP]
theorem AllP.snoc {p : Int → Bool} {s : ByteArray} {k : Nat} (h : AllP p (s.data.toList.take k)) (hk : k < s.size) (hp : p s[k].toNat = true) : AllP p (s.data.toList.take (k + 1)) := by
  intro x hx
  rw [take_snoc s k hk] at hx
  simp only [List.mem_append, List.mem_singleton] at hx
  rcases hx with hx | rfl
  · exact h x hx
  · exact hp
theorem AllP.snoc1 {p : Int → Bool} {s : ByteArray} {k : Nat} (h : AllP p ((s.data.toList.take k).drop 1)) (h1 : 1 ≤ k) (hk : k < s.size) (hp : p s[k].toNat = true) :
    AllP p ((s.data.toList.take (k + 1)).drop 1) := by
  intro x hx
  rw [take_snoc s k hk, List.drop_append_of_le_length (by simp; have : s.size = s.data.toList.length := rfl; omega)] at hx
  simp only [List.mem_append, List.mem_singleton] at hx
  rcases hx with hx | rfl
  · exact h x hx
  · exact hp
theorem prefixLen_eq {p : Int → Bool} {s : ByteArray} {k : Nat} (hk : k ≤ s.size) (ha : AllP p (s.data.toList.take k))
    (he : ∀ h : k < s.size, p s[k].toNat = false) : (s.data.toList.takeWhile fun c => p c.toNat).length = k :=
  takeWhile_len _ _ _ (by simpa using hk) ha (fun h => he (by simpa using h))
theorem runLen_le (l : List UInt8) : runLen l ≤ l.length := takeWhile_le _ _
theorem strLen_le (l : List UInt8) : strLen l ≤ l.length := takeWhile_le _ _
theorem runLen_eq {s : ByteArray} {k : Nat} (hk : k ≤ s.size) (ha : AllP alnumB (s.data.toList.take k))
    (he : ∀ h : k < s.size, alnumB s[k].toNat = false) : runLen s.data.toList = k := prefixLen_eq hk ha he
theorem strLen_eq {s : ByteArray} {k : Nat} (hk : k ≤ s.size) (ha : AllP plainB (s.data.toList.take k))
    (he : ∀ h : k < s.size, plainB s[k].toNat = false) : strLen s.data.toList = k := prefixLen_eq hk ha he

theorem strLen_from {s : ByteArray} {k : Nat} (h1 : 1 ≤ k) (hk : k ≤ s.size) (ha : AllP plainB ((s.data.toList.take k).drop 1)) (he : ∀ h : k < s.size, plainB s[k].toNat = false) :
    strLen (s.data.toList.drop 1) = k - 1 := by
  have hl : s.data.toList.length = s.size := rfl
  refine takeWhile_len _ _ _ (by rw [List.length_drop]; omega) ?_ ?_
  · intro x hx
    refine ha x ?_
    rw [List.drop_take]; exact hx
  · intro h
    rw [List.length_drop] at h
    have := he (by omega)
    rw [List.getElem_drop]
    simp only [show 1 + (k - 1) = k from by omega]
    exact this

theorem AllP.snocK {p : Int → Bool} {s : ByteArray} {k j : Nat} (h : AllP p ((s.data.toList.take j).drop k)) (h1 : k ≤ j) (hj : j < s.size) (hp : p s[j].toNat = true) :
    AllP p ((s.data.toList.take (j + 1)).drop k) := by
  intro x hx
  rw [take_snoc s j hj, List.drop_append_of_le_length (by simp; have : s.size = s.data.toList.length := rfl; omega)] at hx
  simp only [List.mem_append, List.mem_singleton] at hx
  rcases hx with hx | rfl
  · exact h x hx
  · exact hp
theorem AllP.start (p : Int → Bool) (l : List UInt8) (k : Nat) : AllP p ((l.take k).drop k) := by
  rw [List.drop_of_length_le (by simp; omega)]; exact AllP.nil p
theorem seg_len {p : Int → Bool} {s : ByteArray} {k j : Nat} (h1 : k ≤ j) (hj : j ≤ s.size) (ha : AllP p ((s.data.toList.take j).drop k)) (he : ∀ h : j < s.size, p s[j].toNat = false) :
    ((s.data.toList.drop k).takeWhile fun c => p c.toNat).length = j - k := by
  have hl : s.data.toList.length = s.size := rfl
  refine takeWhile_len _ _ _ (by rw [List.length_drop]; omega) ?_ ?_
  · intro x hx
    refine ha x ?_
    rw [List.drop_take]; exact hx
  · intro h
    rw [List.length_drop] at h
    have := he (by omega)
    rw [List.getElem_drop]
    simp only [show k + (j - k) = j from by omega]
    exact this

end Go.Proofs.YtmeicjndfblglaaDoor
