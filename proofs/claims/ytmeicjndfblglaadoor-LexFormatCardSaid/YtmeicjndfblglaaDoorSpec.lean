/- Scanning a text: the plain definition, by fuel (which may be any number from the text's length on). -/
import Derived.Test.YtmeicjndfblglaaDoorLexOne
set_option linter.unusedVariables false
set_option linter.unusedSimpArgs false
set_option linter.unusedSectionVars false
namespace Go.Proofs.YtmeicjndfblglaaDoor
open Go

structure Tok where
  raw : Raw
  line : Int
  col : Int
def Tok.cells (t : Tok) : Array Value := t.raw.cells t.line t.col
def flat (l : List Tok) : List Value := l.flatMap fun t => t.cells.toList
/-- The tokens, and where an error stands and its number. -/
abbrev Res := List Tok × Option (Int × Int × Int)
def Res.pre (d : List Tok) (r : Res) : Res := (d ++ r.1, r.2)
def cmtLen (l : List UInt8) : Nat := (l.takeWhile fun c => notNl c.toNat).length

def scanF : Nat → List UInt8 → Int → Int → Res
  | 0, _, _, _ => ([], none)
  | _ + 1, [], _, _ => ([], none)
  | n + 1, c :: r, line, col =>
    if c.toNat = 10 then scanF n r (line + 1) 1
    else if c.toNat = 32 ∨ c.toNat = 9 ∨ c.toNat = 13 then scanF n r line (col + 1)
    else if c.toNat = 35 then scanF n (r.drop (cmtLen r)) line (col + 1 + cmtLen r)
    else if (lexOne (c :: r)).2.2 = 0 then Res.pre [⟨(lexOne (c :: r)).1, line, col⟩] (scanF n (r.drop ((lexOne (c :: r)).2.1 - 1)) line (col + (lexOne (c :: r)).2.1))
    else ([], some (line, col, (lexOne (c :: r)).2.2))
def scan (l : List UInt8) (line col : Int) : Res := scanF l.length l line col

theorem scanF_fuel : ∀ (n m : Nat) (l : List UInt8) (line col : Int), l.length ≤ n → l.length ≤ m → scanF n l line col = scanF m l line col
  | 0, m, l, line, col, h, _ => by
    have : l = [] := List.eq_nil_of_length_eq_zero (by omega)
    subst this
    cases m <;> rfl
  | n + 1, 0, l, line, col, _, h => by
    have : l = [] := List.eq_nil_of_length_eq_zero (by omega)
    subst this; rfl
  | n + 1, m + 1, [], line, col, _, _ => rfl
  | n + 1, m + 1, c :: r, line, col, h, g => by
    simp only [List.length_cons] at h g
    simp only [scanF]
    rw [scanF_fuel n m r _ _ (by omega) (by omega), scanF_fuel n m r _ _ (by omega) (by omega), scanF_fuel n m (r.drop (cmtLen r)) _ _ (by rw [List.length_drop]; omega) (by rw [List.length_drop]; omega),
      scanF_fuel n m (r.drop ((lexOne (c :: r)).2.1 - 1)) _ _ (by rw [List.length_drop]; omega) (by rw [List.length_drop]; omega)]

theorem scan_nil (line col : Int) : scan [] line col = ([], none) := rfl
theorem scan_cons (c : UInt8) (r : List UInt8) (line col : Int) : scan (c :: r) line col =
    if c.toNat = 10 then scan r (line + 1) 1
    else if c.toNat = 32 ∨ c.toNat = 9 ∨ c.toNat = 13 then scan r line (col + 1)
    else if c.toNat = 35 then scan (r.drop (cmtLen r)) line (col + 1 + cmtLen r)
    else if (lexOne (c :: r)).2.2 = 0 then Res.pre [⟨(lexOne (c :: r)).1, line, col⟩] (scan (r.drop ((lexOne (c :: r)).2.1 - 1)) line (col + (lexOne (c :: r)).2.1))
    else ([], some (line, col, (lexOne (c :: r)).2.2)) := by
  show scanF (r.length + 1) (c :: r) line col = _
  simp only [scanF]
  rw [scanF_fuel r.length (r.drop (cmtLen r)).length (r.drop (cmtLen r)) _ _ (by rw [List.length_drop]; omega) (Nat.le_refl _),
    scanF_fuel r.length (r.drop ((lexOne (c :: r)).2.1 - 1)).length (r.drop ((lexOne (c :: r)).2.1 - 1)) _ _ (by rw [List.length_drop]; omega) (Nat.le_refl _)]
  rfl

section
variable {s : ByteArray} {k : Nat} {line col : Int}
theorem drop_at (h : k < s.size) : s.data.toList.drop k = s[k] :: s.data.toList.drop (k + 1) := List.drop_eq_getElem_cons (l := s.data.toList) h
theorem scan_nl (h : k < s.size) (hc : s[k].toNat = 10) : scan (s.data.toList.drop k) line col = scan (s.data.toList.drop (k + 1)) (line + 1) 1 := by
  rw [drop_at h, scan_cons, if_pos hc]
theorem scan_ws (h : k < s.size) (hc : s[k].toNat = 32 ∨ s[k].toNat = 9 ∨ s[k].toNat = 13) : scan (s.data.toList.drop k) line col = scan (s.data.toList.drop (k + 1)) line (col + 1) := by
  rw [drop_at h, scan_cons, if_neg (by omega), if_pos hc]
theorem scan_cmt (h : k < s.size) (hc : s[k].toNat = 35) : scan (s.data.toList.drop k) line col = scan (s.data.toList.drop (k + cmtLen (s.data.toList.drop k))) line (col + cmtLen (s.data.toList.drop k)) := by
  rw [drop_at h, scan_cons, if_neg (by omega), if_neg (by omega), if_pos hc, List.drop_drop]
  have e : cmtLen (s[k] :: s.data.toList.drop (k + 1)) = cmtLen (s.data.toList.drop (k + 1)) + 1 := by
    simp only [cmtLen, List.takeWhile_cons, notNl, hc, List.length_cons]; rfl
  rw [e]
  congr 1
  · rw [show k + (cmtLen (s.data.toList.drop (k + 1)) + 1) = k + 1 + cmtLen (s.data.toList.drop (k + 1)) from by omega]
  · omega
theorem scan_err {r : Raw} {n : Nat} {e : Int} (h : k < s.size) (h0 : ¬ s[k].toNat = 10) (h1 : ¬ (s[k].toNat = 32 ∨ s[k].toNat = 9 ∨ s[k].toNat = 13)) (h2 : ¬ s[k].toNat = 35)
    (hl : lexOne (s.data.toList.drop k) = (r, n, e)) (he : ¬ e = 0) : scan (s.data.toList.drop k) line col = ([], some (line, col, e)) := by
  rw [drop_at h] at hl ⊢
  rw [scan_cons, if_neg h0, if_neg h1, if_neg h2, hl, if_neg he]
theorem scan_tok {r : Raw} {n : Nat} {e : Int} (h : k < s.size) (h0 : ¬ s[k].toNat = 10) (h1 : ¬ (s[k].toNat = 32 ∨ s[k].toNat = 9 ∨ s[k].toNat = 13)) (h2 : ¬ s[k].toNat = 35)
    (hl : lexOne (s.data.toList.drop k) = (r, n, e)) (he : e = 0) (hn : 1 ≤ n) : scan (s.data.toList.drop k) line col = Res.pre [⟨r, line, col⟩] (scan (s.data.toList.drop (k + n)) line (col + n)) := by
  rw [drop_at h] at hl ⊢
  rw [scan_cons, if_neg h0, if_neg h1, if_neg h2, hl, if_pos he, List.drop_drop]
  rw [show k + 1 + (n - 1) = k + n from by omega]
end
theorem pre_pre (a b : List Tok) (r : Res) : Res.pre a (Res.pre b r) = Res.pre (a ++ b) r := by simp [Res.pre]
theorem pre_end (d : List Tok) : Res.pre d ([], none) = (d, none) := by simp [Res.pre]
theorem pre_nil (r : Res) : Res.pre [] r = r := rfl
theorem flat_snoc (d : List Tok) (t : Tok) : flat (d ++ [t]) = flat d ++ t.cells.toList := by simp [flat]
theorem flat_length (d : List Tok) : (flat d).length = d.length * 5 := by
  induction d with
  | nil => rfl
  | cons t d ih => rw [flat, List.flatMap_cons, List.length_append, ← flat, ih, List.length_cons]; show 5 + _ = _; omega

/-- What Scan returns: the tokens, and the position and the number of the error. -/
def scanRes (l : List UInt8) : List Tok × Int × Int × Int :=
  if 65536 < l.length then ([], 0, 0, 15) else
    match scan l 1 1 with
    | (d, none) => (d, 0, 0, 0)
    | (_, some (a, b, e)) => ([], a, b, e)
theorem scanRes_ok {l : List UInt8} {d : List Tok} (h : ¬ 65536 < l.length) (hs : scan l 1 1 = (d, none)) : scanRes l = (d, 0, 0, 0) := by
  unfold scanRes; rw [if_neg h, hs]
theorem scanRes_err {l : List UInt8} {d : List Tok} {a b e : Int} (h : ¬ 65536 < l.length) (hs : scan l 1 1 = (d, some (a, b, e))) : scanRes l = ([], a, b, e) := by
  unfold scanRes; rw [if_neg h, hs]
theorem scanRes_long {l : List UInt8} (h : 65536 < l.length) : scanRes l = ([], 0, 0, 15) := by
  unfold scanRes; rw [if_pos h]

theorem runLen_pos {c : UInt8} {r : List UInt8} (h : alnumB c.toNat = true) : 0 < runLen (c :: r) := by
  simp only [runLen, List.takeWhile_cons, h, if_true, List.length_cons]; omega
/-- A token has a byte, and no more bytes than there are. -/
theorem lexOne_len (l : List UInt8) (h : (lexOne l).2.2 = 0) : 1 ≤ (lexOne l).2.1 ∧ (lexOne l).2.1 ≤ l.length := by
  cases l with
  | nil => exact absurd h (by decide)
  | cons c r =>
    have h0 := runLen_le (c :: r)
    rcases Bool.eq_false_or_eq_true (letterB c.toNat) with h1 | h1
    · have := runLen_pos (c := c) (r := r) (by simp [alnumB, h1])
      rw [lexOne_letter h1]; exact ⟨this, h0⟩
    · rcases Bool.eq_false_or_eq_true (digitB c.toNat) with h2 | h2
      · have := runLen_pos (c := c) (r := r) (by simp [alnumB, h2])
        by_cases h3 : (numeral ((c :: r).take (runLen (c :: r)))).2 = 0
        · rw [lexOne_num h1 h2 h3]; exact ⟨this, h0⟩
        · rw [lexOne_numbad h1 h2 h3] at h; exact absurd h h3
      · by_cases h3 : c.toNat = 34
        · by_cases h4 : (r.drop (strLen r)).head? = some 34
          · rw [lexOne_str h1 h2 h3 h4]
            rw [List.head?_drop] at h4
            have := (List.getElem?_eq_some_iff.1 h4).1
            simp only [List.length_cons]
            omega
          · rw [lexOne_strbad h1 h2 h3 h4] at h; exact absurd h (by decide)
        · have h5 := punctLen_le (c :: r)
          by_cases h4 : punctLen (c :: r) = 0
          · rw [lexOne_bad h1 h2 h3 h4] at h; exact absurd h (by decide)
          · rw [lexOne_punct h1 h2 h3 h4]; simp only; omega
end Go.Proofs.YtmeicjndfblglaaDoor
