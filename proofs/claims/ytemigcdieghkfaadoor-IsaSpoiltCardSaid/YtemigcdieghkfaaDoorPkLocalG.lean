/- Merged: ScanK, Local, Offset. -/
import Derived.Test.YtemigcdieghkfaaDoorPkScanR
set_option linter.unusedVariables false
set_option linter.unusedSimpArgs false
set_option linter.unusedSectionVars false
namespace Go.Proofs.YtemigcdieghkfaaDoor
section
open Go

abbrev ResK := List (Nat × Raw) × Option (Nat × Int)
def ResK.shift (n : Nat) (r : ResK) : ResK := (r.1.map fun x => (x.1 + n, x.2), r.2.map fun x => (x.1 + n, x.2))
def ResK.cons (x : Nat × Raw) (r : ResK) : ResK := (x :: r.1, r.2)
def ResK.pre (d : List (Nat × Raw)) (r : ResK) : ResK := (d ++ r.1, r.2)
def wsB (c : UInt8) : Bool := c.toNat == 10 || c.toNat == 32 || c.toNat == 9 || c.toNat == 13

def scanKF : Nat → List UInt8 → ResK
  | 0, _ => ([], none)
  | _ + 1, [] => ([], none)
  | n + 1, c :: r =>
    if wsB c = true then (scanKF n r).shift 1
    else if c.toNat = 35 then (scanKF n (r.drop (cmtLen r))).shift (1 + cmtLen r)
    else if (lexOne (c :: r)).2.2 = 0 then ResK.cons (0, (lexOne (c :: r)).1) ((scanKF n (r.drop ((lexOne (c :: r)).2.1 - 1))).shift (lexOne (c :: r)).2.1)
    else ([], some (0, (lexOne (c :: r)).2.2))
def scanK (l : List UInt8) : ResK := scanKF l.length l
theorem scanKF_fuel : ∀ (n m : Nat) (l : List UInt8), l.length ≤ n → l.length ≤ m → scanKF n l = scanKF m l
  | 0, m, l, h, _ => by
    have : l = [] := List.eq_nil_of_length_eq_zero (by omega)
    subst this
    cases m <;> rfl
  | n + 1, 0, l, _, h => by
    have : l = [] := List.eq_nil_of_length_eq_zero (by omega)
    subst this; rfl
  | n + 1, m + 1, [], _, _ => rfl
  | n + 1, m + 1, c :: r, h, g => by
    simp only [List.length_cons] at h g
    simp only [scanKF]
    rw [scanKF_fuel n m r (by omega) (by omega), scanKF_fuel n m (r.drop (cmtLen r)) (by rw [List.length_drop]; omega) (by rw [List.length_drop]; omega),
      scanKF_fuel n m (r.drop ((lexOne (c :: r)).2.1 - 1)) (by rw [List.length_drop]; omega) (by rw [List.length_drop]; omega)]
theorem scanK_nil : scanK [] = ([], none) := rfl
theorem scanK_cons (c : UInt8) (r : List UInt8) : scanK (c :: r) =
    if wsB c = true then (scanK r).shift 1
    else if c.toNat = 35 then (scanK (r.drop (cmtLen r))).shift (1 + cmtLen r)
    else if (lexOne (c :: r)).2.2 = 0 then ResK.cons (0, (lexOne (c :: r)).1) ((scanK (r.drop ((lexOne (c :: r)).2.1 - 1))).shift (lexOne (c :: r)).2.1)
    else ([], some (0, (lexOne (c :: r)).2.2)) := by
  show scanKF (r.length + 1) (c :: r) = _
  simp only [scanKF]
  rw [scanKF_fuel r.length (r.drop (cmtLen r)).length (r.drop (cmtLen r)) (by rw [List.length_drop]; omega) (Nat.le_refl _),
    scanKF_fuel r.length (r.drop ((lexOne (c :: r)).2.1 - 1)).length (r.drop ((lexOne (c :: r)).2.1 - 1)) (by rw [List.length_drop]; omega) (Nat.le_refl _)]
  rfl
theorem cmtLen_le (l : List UInt8) : cmtLen l ≤ l.length := takeWhile_le _ _

/-- An induction for what is proved of scanning: by the length of what is left. -/
theorem scan_ind (P : List UInt8 → Prop) (h0 : P []) (h1 : ∀ c r, (∀ k, P (r.drop k)) → P (c :: r)) : ∀ l, P l := by
  have : ∀ n l, l.length ≤ n → P l := by
    intro n
    induction n with
    | zero => intro l hl; have : l = [] := List.eq_nil_of_length_eq_zero (by omega); subst this; exact h0
    | succ n ih =>
      intro l hl
      cases l with
      | nil => exact h0
      | cons c r => exact h1 c r fun k => ih _ (by rw [List.length_drop]; simp at hl; omega)
  exact fun l => this l.length l (Nat.le_refl _)

theorem end_of_ok {l : List UInt8} (h : (lexOne l).2.2 = 0) : (lexOne l).2.1 = endLen l := by
  cases l with
  | nil => exact absurd h (by decide)
  | cons c r =>
    by_cases he : endLen (c :: r) = 0
    · rw [endLen_zero rfl he] at h; exact absurd h (by decide)
    · rcases Bool.eq_false_or_eq_true (letterB c.toNat) with h1 | h1
      · rw [lex_letter rfl h1]
      · rcases Bool.eq_false_or_eq_true (digitB c.toNat) with h2 | h2
        · by_cases h3 : (numeral ((c :: r).take (endLen (c :: r)))).2 = 0
          · rw [lex_num rfl h1 h2 h3]
          · rw [lex_numbad rfl h1 h2 h3] at h; exact absurd h h3
        · by_cases h3 : c.toNat = 34
          · rw [(lex_str rfl h1 h2 h3 (by omega)).1]
          · rw [lex_punct rfl h1 h2 h3 (by omega)]

/-- The tokens at the positions that their offsets have. -/
def place (l : List UInt8) (p : Int × Int) (r : ResK) : Res :=
  (r.1.map fun x => ⟨x.2, (adv (l.take x.1) p).1, (adv (l.take x.1) p).2⟩, r.2.map fun x => ((adv (l.take x.1) p).1, (adv (l.take x.1) p).2, x.2))
theorem place_shift (l : List UInt8) (n : Nat) (p : Int × Int) (r : ResK) : place l p (r.shift n) = place (l.drop n) (adv (l.take n) p) r := by
  have e : ∀ k, adv (l.take (k + n)) p = adv ((l.drop n).take k) (adv (l.take n) p) := by
    intro k
    rw [← adv_append]
    congr 1
    rw [Nat.add_comm, List.take_add]
  unfold place ResK.shift
  simp only [List.map_map, Option.map_map, Prod.mk.injEq]
  constructor
  · apply List.map_congr_left
    intro x _
    simp only [Function.comp, e]
  · congr 1
    funext x
    simp only [Function.comp, e]
theorem adv_cmt {r : List UInt8} {c : UInt8} (hc : ¬ c.toNat = 10) (p : Int × Int) : adv ((c :: r).take (1 + cmtLen r)) p = (p.1, p.2 + 1 + cmtLen r) := by
  rw [Nat.add_comm, List.take_succ_cons, adv, if_neg hc, adv_plain _ _ (cmt_plain r), List.length_take]
  have := cmtLen_le r
  simp only [Prod.mk.injEq, true_and]
  omega
theorem scan_place (l : List UInt8) : ∀ (p : Int × Int), scan l p.1 p.2 = place l p (scanK l) := by
  induction l using scan_ind with
  | h0 => intro p; rfl
  | h1 c r ih =>
    intro p
    rw [scan_cons, scanK_cons]
    by_cases hw : wsB c = true
    · rw [if_pos hw, place_shift]
      have i0 := ih 0
      rw [List.drop_zero] at i0
      show _ = place r (adv [c] p) (scanK r)
      by_cases h10 : c.toNat = 10
      · rw [if_pos h10, ← i0]; simp only [adv, h10, if_true]
      · rw [if_neg h10, if_pos (by simp [wsB] at hw; omega), ← i0]; simp only [adv, h10, if_false]
    · have hn : ¬ c.toNat = 10 ∧ ¬ (c.toNat = 32 ∨ c.toNat = 9 ∨ c.toNat = 13) := by simp [wsB] at hw; omega
      rw [if_neg hw, if_neg hn.1, if_neg hn.2]
      by_cases h35 : c.toNat = 35
      · rw [if_pos h35, if_pos h35, place_shift, adv_cmt hn.1]
        have := ih (cmtLen r) (p.1, p.2 + 1 + cmtLen r)
        rw [this, Nat.add_comm, List.drop_succ_cons]
      · rw [if_neg h35, if_neg h35]
        by_cases he : (lexOne (c :: r)).2.2 = 0
        · rw [if_pos he, if_pos he]
          obtain ⟨n1, n2⟩ := lexOne_len _ he
          have hplain : adv ((c :: r).take (lexOne (c :: r)).2.1) p = (p.1, p.2 + (lexOne (c :: r)).2.1) := by
            rw [adv_plain _ _ (by rw [end_of_ok he]; exact end_plain _), List.length_take]
            simp only [Prod.mk.injEq, true_and]; omega
          have hd : (c :: r).drop (lexOne (c :: r)).2.1 = r.drop ((lexOne (c :: r)).2.1 - 1) := by
            rw [show (lexOne (c :: r)).2.1 = (lexOne (c :: r)).2.1 - 1 + 1 from by omega, List.drop_succ_cons]; rfl
          have hpc : ∀ (x : Nat × Raw) (q : ResK), place (c :: r) p (ResK.cons x q) = Res.pre [⟨x.2, (adv ((c :: r).take x.1) p).1, (adv ((c :: r).take x.1) p).2⟩] (place (c :: r) p q) := fun _ _ => rfl
          rw [hpc, place_shift, hplain, hd]
          have := ih ((lexOne (c :: r)).2.1 - 1) (p.1, p.2 + (lexOne (c :: r)).2.1)
          rw [this]
          rfl
        · rw [if_neg he, if_neg he]
          rfl

/-- Positions tell offsets apart. -/
theorem adv_lt : ∀ (l : List UInt8) (p : Int × Int), l ≠ [] → 1 ≤ p.2 → (p.1 < (adv l p).1 ∨ (p.1 = (adv l p).1 ∧ p.2 < (adv l p).2)) ∧ 1 ≤ (adv l p).2
  | [], _, h, _ => absurd rfl h
  | [c], p, _, hp => by simp only [adv]; split <;> simp <;> omega
  | c :: d :: l, p, _, hp => by
    have h := adv_lt (d :: l) (if c.toNat = 10 then (p.1 + 1, 1) else (p.1, p.2 + 1)) (by simp) (by split <;> simp <;> omega)
    rw [adv]
    split at h <;> split <;> first | contradiction | skip
    · refine ⟨?_, h.2⟩; have := h.1; simp only at this; omega
    · refine ⟨?_, h.2⟩; have := h.1; simp only at this; omega
theorem adv_inj {l : List UInt8} {i j : Nat} (hi : i ≤ l.length) (hj : j ≤ l.length) (h : adv (l.take i) (1, 1) = adv (l.take j) (1, 1)) : i = j := by
  have key : ∀ a b, a < b → b ≤ l.length → adv (l.take a) (1, 1) ≠ adv (l.take b) (1, 1) := by
    intro a b hab hb e
    have h1 : l.take b = l.take a ++ (l.drop a).take (b - a) := by
      rw [← List.take_add, show a + (b - a) = b from by omega]
    have hne : (l.drop a).take (b - a) ≠ [] := by
      intro h0
      have := congrArg List.length h0
      rw [List.length_take, List.length_drop] at this
      simp at this; omega
    have h2 : 1 ≤ (adv (l.take a) (1, 1)).2 := by
      by_cases h0 : l.take a = []
      · rw [h0]; simp [adv]
      · exact (adv_lt _ _ h0 (by decide)).2
    rw [h1, adv_append] at e
    have h3 := (adv_lt _ (adv (l.take a) (1, 1)) hne h2).1
    rw [← e] at h3
    omega
  rcases Nat.lt_trichotomy i j with h1 | h1 | h1
  · exact absurd h (key i j h1 hj)
  · exact h1
  · exact absurd h.symm (key j i h1 hi)
end
section
open Go

theorem tw_take (p : UInt8 → Bool) : ∀ (l : List UInt8) (m : Nat), (l.takeWhile p).length ≤ m → (l.take m).takeWhile p = l.takeWhile p
  | [], m, _ => by simp
  | c :: l, 0, h => by
    rw [List.takeWhile_cons] at h ⊢
    split at h
    · simp at h
    · rename_i hc; simp [hc]
  | c :: l, m + 1, h => by
    rw [List.take_succ_cons, List.takeWhile_cons, List.takeWhile_cons]
    rw [List.takeWhile_cons] at h
    split
    · rename_i hc
      rw [if_pos hc] at h
      rw [tw_take p l m (by simpa using h)]
    · rfl
theorem tw_app (p : UInt8 → Bool) (x : UInt8) (b : List UInt8) (hx : p x = false) : ∀ (a : List UInt8), (a ++ x :: b).takeWhile p = a.takeWhile p
  | [] => by simp [hx]
  | c :: a => by
    rw [List.cons_append, List.takeWhile_cons, List.takeWhile_cons, tw_app p x b hx a]
theorem run_take {l : List UInt8} {m : Nat} (h : runLen l ≤ m) : runLen (l.take m) = runLen l := by unfold runLen at *; rw [tw_take _ _ _ h]
theorem str_take {l : List UInt8} {m : Nat} (h : strLen l ≤ m) : strLen (l.take m) = strLen l := by unfold strLen at *; rw [tw_take _ _ _ h]
theorem run_nl (a b : List UInt8) : runLen (a ++ 10 :: b) = runLen a := by unfold runLen; rw [tw_app _ _ _ (by decide)]
theorem str_nl (a b : List UInt8) : strLen (a ++ 10 :: b) = strLen a := by unfold strLen; rw [tw_app _ _ _ (by decide)]
theorem cmt_nl (a b : List UInt8) : cmtLen (a ++ 10 :: b) = cmtLen a := by unfold cmtLen; rw [tw_app _ _ _ (by decide)]
theorem cmt_take {l : List UInt8} {m : Nat} (h : cmtLen l ≤ m) : cmtLen (l.take m) = cmtLen l := by unfold cmtLen at *; rw [tw_take _ _ _ h]

theorem punct_cases (c : UInt8) (r : List UInt8) : punctLen (c :: r) = if 1 ≤ r.length ∧ two ((c :: r).take 2) = true then 2 else if 0 ≤ Lib.indexByte marks1 c then 1 else 0 := by
  unfold punctLen
  simp only [List.length_cons]
  by_cases h : 1 ≤ r.length ∧ two ((c :: r).take 2) = true
  · rw [if_pos ⟨by omega, h.2⟩, if_pos h]
  · rw [if_neg (fun g => h ⟨by omega, g.2⟩), if_neg h]
theorem punct_take {c : UInt8} {r : List UInt8} {m : Nat} (h : punctLen (c :: r) ≤ m + 1) : punctLen (c :: r.take m) = punctLen (c :: r) := by
  rw [punct_cases] at h ⊢
  rw [punct_cases]
  by_cases h2 : 1 ≤ r.length ∧ two ((c :: r).take 2) = true
  · rw [if_pos h2] at h ⊢
    have e : (c :: r.take m).take 2 = (c :: r).take 2 := by
      show c :: (r.take m).take 1 = c :: r.take 1
      rw [List.take_take, Nat.min_eq_left (by omega)]
    rw [if_pos ⟨by rw [List.length_take]; omega, by rw [e]; exact h2.2⟩]
  · rw [if_neg h2]
    by_cases hm : m = 0
    · subst hm; rw [if_neg (by simp)]
    · have e : (c :: r.take m).take 2 = (c :: r).take 2 := by
        show c :: (r.take m).take 1 = c :: r.take 1
        rw [List.take_take, Nat.min_eq_left (by omega)]
      rw [if_neg (by rw [e, List.length_take]; intro g; exact h2 ⟨by omega, g.2⟩)]
theorem punct_nl (c : UInt8) (a b : List UInt8) : punctLen (c :: (a ++ 10 :: b)) = punctLen (c :: a) := by
  rw [punct_cases, punct_cases]
  cases a with
  | nil =>
    have e1 : ¬ (1 ≤ (([] : List UInt8) ++ 10 :: b).length ∧ two ((c :: (([] : List UInt8) ++ 10 :: b)).take 2) = true) := by intro g; have h := g.2; simp [two] at h
    have e2 : ¬ (1 ≤ ([] : List UInt8).length ∧ two ([c].take 2) = true) := by simp
    rw [if_neg e1, if_neg e2]
  | cons d a =>
    show (if 1 ≤ ((d :: a) ++ 10 :: b).length ∧ two [c, d] = true then 2 else _) = if 1 ≤ (d :: a).length ∧ two [c, d] = true then 2 else _
    simp only [List.length_append, List.length_cons]
    by_cases h : two [c, d] = true
    · rw [if_pos ⟨by omega, h⟩, if_pos ⟨by omega, h⟩]
    · have e1 : ¬ (1 ≤ a.length + 1 + (b.length + 1) ∧ two [c, d] = true) := fun g => h g.2
      have e2 : ¬ (1 ≤ a.length + 1 ∧ two [c, d] = true) := fun g => h g.2
      rw [if_neg e1, if_neg e2]

theorem head_drop_nl {a b : List UInt8} {k : Nat} (hk : k ≤ a.length) : ((a ++ 10 :: b).drop k).head? = some 34 ↔ (a.drop k).head? = some 34 := by
  rw [List.head?_drop, List.head?_drop]
  by_cases h : k < a.length
  · rw [List.getElem?_append_left h]
  · rw [List.getElem?_append_right (by omega), show k - a.length = 0 from by omega, List.getElem?_eq_none (l := a) (by omega)]
    simp

theorem lexOne_nl (c : UInt8) (a b : List UInt8) : lexOne (c :: (a ++ 10 :: b)) = lexOne (c :: a) := by
  have hr : runLen (c :: (a ++ 10 :: b)) = runLen (c :: a) := run_nl (c :: a) b
  have hle := runLen_le (c :: a)
  have ht : (c :: (a ++ 10 :: b)).take (runLen (c :: a)) = (c :: a).take (runLen (c :: a)) := by
    rw [← List.cons_append, List.take_append_of_le_length hle]
  rcases Bool.eq_false_or_eq_true (letterB c.toNat) with h1 | h1
  · rw [lexOne_letter h1, lexOne_letter h1, hr, ht]
  · rcases Bool.eq_false_or_eq_true (digitB c.toNat) with h2 | h2
    · by_cases h3 : (numeral ((c :: a).take (runLen (c :: a)))).2 = 0
      · rw [lexOne_num h1 h2 h3, lexOne_num h1 h2 (by rw [hr, ht]; exact h3), hr, ht]
      · rw [lexOne_numbad h1 h2 h3, lexOne_numbad h1 h2 (by rw [hr, ht]; exact h3), hr, ht]
    · by_cases h3 : c.toNat = 34
      · have hs := str_nl a b
        have hsl := strLen_le a
        have hh := head_drop_nl (b := b) hsl
        by_cases h4 : (a.drop (strLen a)).head? = some 34
        · rw [lexOne_str h1 h2 h3 h4, lexOne_str h1 h2 h3 (by rw [hs]; exact hh.2 h4), hs, List.take_append_of_le_length hsl]
        · rw [lexOne_strbad h1 h2 h3 h4, lexOne_strbad h1 h2 h3 (by rw [hs]; exact fun g => h4 (hh.1 g))]
      · have hp := punct_nl c a b
        have hpl := (punctLen_le (c :: a)).1
        by_cases h4 : punctLen (c :: a) = 0
        · rw [lexOne_bad h1 h2 h3 h4, lexOne_bad h1 h2 h3 (by rw [hp]; exact h4)]
        · rw [lexOne_punct h1 h2 h3 h4, lexOne_punct h1 h2 h3 (by rw [hp]; exact h4), hp]
          rw [← List.cons_append, List.take_append_of_le_length hpl]

theorem lexOne_take {c : UInt8} {r : List UInt8} {m : Nat} (he : (lexOne (c :: r)).2.2 = 0) (hm : (lexOne (c :: r)).2.1 ≤ m + 1) : lexOne (c :: r.take m) = lexOne (c :: r) := by
  have hc : c :: r.take m = (c :: r).take (m + 1) := rfl
  rcases Bool.eq_false_or_eq_true (letterB c.toNat) with h1 | h1
  · rw [lexOne_letter h1] at hm
    have hr := run_take hm
    rw [lexOne_letter h1, lexOne_letter h1, hc, hr, List.take_take, Nat.min_eq_left hm]
  · rcases Bool.eq_false_or_eq_true (digitB c.toNat) with h2 | h2
    · by_cases h3 : (numeral ((c :: r).take (runLen (c :: r)))).2 = 0
      · rw [lexOne_num h1 h2 h3] at hm
        have hr := run_take hm
        have ht : (c :: r.take m).take (runLen (c :: r.take m)) = (c :: r).take (runLen (c :: r)) := by rw [hc, hr, List.take_take, Nat.min_eq_left hm]
        rw [lexOne_num h1 h2 h3, lexOne_num h1 h2 (by rw [ht]; exact h3), ht, hc, hr]
      · rw [lexOne_numbad h1 h2 h3] at he; exact absurd he h3
    · by_cases h3 : c.toNat = 34
      · by_cases h4 : (r.drop (strLen r)).head? = some 34
        · rw [lexOne_str h1 h2 h3 h4] at hm
          have hm' : strLen r + 2 ≤ m + 1 := hm
          have hs := str_take (l := r) (m := m) (by omega)
          have hh : ((r.take m).drop (strLen (r.take m))).head? = some 34 := by
            rw [hs, List.head?_drop, List.getElem?_take, if_pos (by omega), ← List.head?_drop]; exact h4
          rw [lexOne_str h1 h2 h3 h4, lexOne_str h1 h2 h3 hh, hs, List.take_take, Nat.min_eq_left (by omega)]
        · rw [lexOne_strbad h1 h2 h3 h4] at he; exact absurd he (by decide)
      · by_cases h4 : punctLen (c :: r) = 0
        · rw [lexOne_bad h1 h2 h3 h4] at he; exact absurd he (by decide)
        · rw [lexOne_punct h1 h2 h3 h4] at hm
          have hp := punct_take (m := m) hm
          rw [lexOne_punct h1 h2 h3 h4, lexOne_punct h1 h2 h3 (by rw [hp]; exact h4), hp, hc, List.take_take, Nat.min_eq_left hm]

/-! ### B: an error; C: two texts joined by a newline -/
theorem shift_none {n : Nat} {r : ResK} (h : r.2 = none) : (r.shift n).2 = none := by simp [ResK.shift, h]
theorem scanK_err (l : List UInt8) : ∀ (d : List (Nat × Raw)) (k : Nat) (e : Int), scanK l = (d, some (k, e)) → ¬ e = 0 ∧ k < l.length ∧ scanK (l.take k) = (d, none) ∧ scanK (l.drop k) = ([], some (0, e)) := by
  induction l using scan_ind with
  | h0 => intro d k e h; simp [scanK_nil] at h
  | h1 c r ih =>
    intro d k e h
    have step : ∀ (n : Nat) (d' : List (Nat × Raw)) (k' : Nat), scanK (r.drop (n - 1)) = (d', some (k', e)) → 1 ≤ n → n ≤ r.length + 1 → (∀ m, scanK (c :: r.take (n - 1 + m)) = ResK.pre [] (scanK (c :: r.take (n - 1 + m)))) →
        ¬ e = 0 ∧ k' + n < r.length + 1 ∧ scanK ((r.drop (n - 1)).take k') = (d', none) ∧ scanK ((c :: r).drop (k' + n)) = ([], some (0, e)) := by
      intro n d' k' hs hn1 hn2 _
      obtain ⟨g0, g1, g2, g3⟩ := ih (n - 1) d' k' e hs
      rw [List.length_drop] at g1
      refine ⟨g0, by omega, g2, ?_⟩
      rw [show k' + n = (n - 1 + k') + 1 from by omega, List.drop_succ_cons, ← List.drop_drop]
      exact g3
    rw [scanK_cons] at h
    by_cases hw : wsB c = true
    · rw [if_pos hw] at h
      cases hs : scanK r with
      | mk d' er =>
        rw [hs] at h
        cases er with
        | none => simp [ResK.shift] at h
        | some x =>
          obtain ⟨k', e'⟩ := x
          simp only [ResK.shift, Option.map_some, Prod.mk.injEq, Option.some.injEq] at h
          obtain ⟨hd, hk, rfl⟩ := h
          obtain ⟨g0, g1, g2, g3⟩ := step 1 d' k' (by simpa using hs) (by omega) (by omega) (fun _ => rfl)
          subst hk hd
          refine ⟨g0, g1, ?_, g3⟩
          rw [List.take_succ_cons, scanK_cons, if_pos hw]
          simp at g2
          rw [g2]; rfl
    · rw [if_neg hw] at h
      by_cases h35 : c.toNat = 35
      · rw [if_pos h35] at h
        cases hs : scanK (r.drop (cmtLen r)) with
        | mk d' er =>
          rw [hs] at h
          cases er with
          | none => simp [ResK.shift] at h
          | some x =>
            obtain ⟨k', e'⟩ := x
            simp only [ResK.shift, Option.map_some, Prod.mk.injEq, Option.some.injEq] at h
            obtain ⟨hd, hk, rfl⟩ := h
            have hcl := cmtLen_le r
            obtain ⟨g0, g1, g2, g3⟩ := step (1 + cmtLen r) d' k' (by rw [show 1 + cmtLen r - 1 = cmtLen r from by omega]; exact hs) (by omega) (by omega) (fun _ => rfl)
            subst hk hd
            refine ⟨g0, g1, ?_, g3⟩
            rw [show k' + (1 + cmtLen r) = (cmtLen r + k') + 1 from by omega, List.take_succ_cons, scanK_cons, if_neg hw, if_pos h35, cmt_take (by omega), List.drop_take, show cmtLen r + k' - cmtLen r = k' from by omega]
            rw [show 1 + cmtLen r - 1 = cmtLen r from by omega] at g2
            rw [g2]; rfl
      · rw [if_neg h35] at h
        by_cases he : (lexOne (c :: r)).2.2 = 0
        · rw [if_pos he] at h
          obtain ⟨n1, n2⟩ := lexOne_len _ he
          generalize hn : (lexOne (c :: r)).2.1 = n at *
          cases hs : scanK (r.drop (n - 1)) with
          | mk d' er =>
            rw [hs] at h
            cases er with
            | none => simp [ResK.shift, ResK.cons] at h
            | some x =>
              obtain ⟨k', e'⟩ := x
              simp only [ResK.shift, ResK.cons, Option.map_some, Prod.mk.injEq, Option.some.injEq] at h
              obtain ⟨hd, hk, rfl⟩ := h
              obtain ⟨g0, g1, g2, g3⟩ := step n d' k' hs n1 (by simpa using n2) (fun _ => rfl)
              subst hk hd
              refine ⟨g0, g1, ?_, g3⟩
              have ht : lexOne (c :: r.take (n - 1 + k')) = lexOne (c :: r) := lexOne_take he (by rw [hn]; omega)
              rw [show k' + n = (n - 1 + k') + 1 from by omega, List.take_succ_cons, scanK_cons, if_neg hw, if_neg h35, ht, if_pos he, hn, List.drop_take, show n - 1 + k' - (n - 1) = k' from by omega, g2]
              rfl
        · rw [if_neg he] at h
          simp only [Prod.mk.injEq, Option.some.injEq] at h
          obtain ⟨rfl, rfl, rfl⟩ := h
          refine ⟨he, by simp, rfl, ?_⟩
          rw [List.drop_zero, scanK_cons, if_neg hw, if_neg h35, if_neg he]

theorem pre_shift (d : List (Nat × Raw)) (n : Nat) (r : ResK) : ResK.shift n (ResK.pre d r) = ResK.pre (d.map fun x => (x.1 + n, x.2)) (ResK.shift n r) := by simp [ResK.shift, ResK.pre]
theorem shift_shift (m n : Nat) (r : ResK) : ResK.shift n (ResK.shift m r) = ResK.shift (m + n) r := by
  simp only [ResK.shift, List.map_map, Option.map_map, Prod.mk.injEq]
  constructor
  · apply List.map_congr_left; intro x _; simp [Function.comp, Nat.add_assoc]
  · congr 1; funext x; simp [Function.comp, Nat.add_assoc]
/-- What the tokens of 'a, newline, b' come to. -/
def join (n : Nat) (ra rb : ResK) : ResK := match ra with
  | (d, some x) => (d, some x)
  | (d, none) => ResK.pre d (ResK.shift (n + 1) rb)
theorem join_shift (n m : Nat) (ra rb : ResK) : (join n ra rb).shift m = join (n + m) (ra.shift m) rb := by
  obtain ⟨d, x⟩ := ra
  cases x with
  | none =>
    show ResK.shift m (ResK.pre d (ResK.shift (n + 1) rb)) = ResK.pre (d.map fun x => (x.1 + m, x.2)) (ResK.shift (n + m + 1) rb)
    rw [pre_shift, shift_shift, show n + 1 + m = n + m + 1 from by omega]
  | some x => rfl
theorem join_cons (n : Nat) (x : Nat × Raw) (ra rb : ResK) : ResK.cons x (join n ra rb) = join n (ResK.cons x ra) rb := by
  obtain ⟨d, y⟩ := ra
  cases y <;> rfl
theorem scanK_join (b : List UInt8) (a : List UInt8) : scanK (a ++ 10 :: b) = join a.length (scanK a) (scanK b) := by
  induction a using scan_ind with
  | h0 => rw [List.nil_append, scanK_cons, if_pos (by decide)]; rfl
  | h1 c r ih =>
    rw [List.cons_append, scanK_cons, scanK_cons c r]
    by_cases hw : wsB c = true
    · have i0 := ih 0
      rw [List.drop_zero] at i0
      rw [if_pos hw, if_pos hw, i0, join_shift, List.length_cons]
    · rw [if_neg hw, if_neg hw]
      by_cases h35 : c.toNat = 35
      · have hcl := cmtLen_le r
        rw [if_pos h35, if_pos h35, cmt_nl, List.drop_append_of_le_length hcl, ih (cmtLen r), join_shift, List.length_drop, List.length_cons]
        rw [show r.length - cmtLen r + (1 + cmtLen r) = r.length + 1 from by omega]
      · rw [if_neg h35, if_neg h35, lexOne_nl]
        by_cases he : (lexOne (c :: r)).2.2 = 0
        · obtain ⟨n1, n2⟩ := lexOne_len _ he
          simp only [List.length_cons] at n2
          rw [if_pos he, if_pos he, List.drop_append_of_le_length (by omega), ih, join_shift, join_cons, List.length_drop, List.length_cons]
          rw [show r.length - ((lexOne (c :: r)).2.1 - 1) + (lexOne (c :: r)).2.1 = r.length + 1 from by omega]
        · rw [if_neg he, if_neg he]; rfl
end
section
open Go.RowKit

/-- Two blocks of two numbers, behind which the world is as it was. -/
structure Two (w : World) (a b c d : Int) (wr : World) : Prop where
  one : wr.heap[w.heap.size]? = some (.cells #[.int .i64 a, .int .i64 b] 25)
  two : wr.heap[w.heap.size + 1]? = some (.cells #[.int .i64 c, .int .i64 d] 25)
  bel : Below w.heap.size w wr
section
variable {w wr : World} {a b c d : Int}
theorem Two.cells (h : Two w a b c d wr) : wr.cell? ⟨w.heap.size, 0, none⟩ = some (.int .i64 a) ∧ wr.cell? ⟨w.heap.size, 1, none⟩ = some (.int .i64 b) ∧
    wr.cell? ⟨w.heap.size + 1, 0, none⟩ = some (.int .i64 c) ∧ wr.cell? ⟨w.heap.size + 1, 1, none⟩ = some (.int .i64 d) ∧
    wr.frozen? ⟨w.heap.size + 1, 0, none⟩ = false ∧ wr.frozen? ⟨w.heap.size + 1, 1, none⟩ = false ∧ wr.frozen? ⟨w.heap.size, 0, none⟩ = false ∧ wr.frozen? ⟨w.heap.size, 1, none⟩ = false :=
  ⟨by simp [World.cell?, h.one], by simp [World.cell?, h.one], by simp [World.cell?, h.two], by simp [World.cell?, h.two], by simp [World.frozen?, h.two], by simp [World.frozen?, h.two], by simp [World.frozen?, h.one], by simp [World.frozen?, h.one]⟩
theorem Two.setD (h : Two w a b c d wr) (x : Int) : Two w a b c x (wr.setCell ⟨w.heap.size + 1, 1, none⟩ (.int .i64 x)) :=
  ⟨by rw [Below.heap_setCell _ _ _ _ (Nat.ne_of_lt (Nat.lt_succ_self _))]; exact h.one, by rw [heap_setCell_at _ _ _ _ _ _ h.two]; rfl, h.bel.setCell (Nat.le_succ _) _⟩
theorem Two.setC (h : Two w a b c d wr) (x : Int) : Two w a b x d (wr.setCell ⟨w.heap.size + 1, 0, none⟩ (.int .i64 x)) :=
  ⟨by rw [Below.heap_setCell _ _ _ _ (Nat.ne_of_lt (Nat.lt_succ_self _))]; exact h.one, by rw [heap_setCell_at _ _ _ _ _ _ h.two]; rfl, h.bel.setCell (Nat.le_succ _) _⟩
theorem Two.start (w : World) (a b c d : Int) : Two w a b c d ((w.alloc (.cells #[.int .i64 a, .int .i64 b] 25)).alloc (.cells #[.int .i64 c, .int .i64 d] 25)) :=
  ⟨by rw [Below.heap_alloc _ _ _ (by simp)]; exact heap_alloc_new w _, by have h := heap_alloc_new (w.alloc (.cells #[.int .i64 a, .int .i64 b] 25)) (.cells #[.int .i64 c, .int .i64 d] 25); rw [show (w.alloc (.cells #[.int .i64 a, .int .i64 b] 25)).heap.size = w.heap.size + 1 from by simp] at h; exact h,
    ((Below.refl _ _).alloc (Nat.le_refl _) _).alloc (by simp) _⟩
end
theorem adv_snoc {s : ByteArray} {j : Nat} (h : j < s.size) {l c : Int} (he : adv (s.data.toList.take j) (1, 1) = (l, c)) : adv (s.data.toList.take (j + 1)) (1, 1) = if s[j].toNat = 10 then (l + 1, 1) else (l, c + 1) := by
  rw [take_snoc s j h, adv_append, he]; rfl
theorem adv_bd (s : ByteArray) : ∀ (j : Nat), j ≤ s.size → 1 ≤ (adv (s.data.toList.take j) (1, 1)).1 ∧ (adv (s.data.toList.take j) (1, 1)).1 ≤ j + 1 ∧ 1 ≤ (adv (s.data.toList.take j) (1, 1)).2 ∧ (adv (s.data.toList.take j) (1, 1)).2 ≤ j + 1
  | 0, _ => by simp [adv]
  | j + 1, h => by
    have ih := adv_bd s j (by omega)
    rw [adv_snoc (s := s) (j := j) (by omega) rfl]
    split <;> simp only <;> omega

set_option maxHeartbeats 1000000 in
theorem At_any (s : ByteArray) (k : Nat) (w : World) (hs : s.size ≤ 65536) (hk : k ≤ s.size) {a b : Int} (hp : Hid (adv (s.data.toList.take k) (1, 1) = (a, b))) :
    Calls Tryd.prog 76 #[.string s, .int .i64 k] w fun e w' => e = .returned (.agg #[.int .i64 a, .int .i64 b]) ∧ Below w.heap.size w w' := by
  go_enter Tryd.func76, Tryd.ntmps76
  go_wp2_with fail
  go_loopw [6] (fun i wr => ∃ (j : Nat) (l c : Int), j ≤ k ∧ adv (s.data.toList.take j) (1, 1) = (l, c) ∧ i = .int .i64 j ∧ Two w 0 0 l c wr) (fun i _ => k - (intOf i).toNat)
  case atStart => exact ⟨0, 1, 1, Nat.zero_le _, rfl, rfl, Two.start _ _ _ _ _⟩
  case round =>
    obtain ⟨j, l, c, hj, hadv, rfl, htw⟩ := hrel
    obtain ⟨x0, x1, x2, x3, f0, f1, f2, f3⟩ := htw.cells
    have hbd := adv_bd s j (by omega)
    rw [hadv] at hbd
    obtain ⟨q1, q2, q3, q4⟩ := hbd
    simp only at q1 q2 q3 q4
    have HTW := Lib.hid htw
    have HADV := Lib.hid hadv
    clear htw
    by_cases hjk : j < k
    · have hlt : j < s.size := by omega
      have hst := adv_snoc hlt hadv
      have HST := Lib.hid hst
      clear hadv hst
      by_cases h10 : s[j].toNat = 10
      · have b10 : ((s[j].toNat : Int) == 10) = true := beqc (by rw [h10]; rfl)
        have H10 := Lib.hid h10
        clear h10
        go_wp2
        go_roundw
        case rel => exact ⟨j + 1, l + 1, 1, by omega, by rw [HST.out, if_pos H10.out], by go_num, (HTW.out.setD _).setC _ |>.setD _⟩
        case measure => simp [intOf]; omega
      · have b10 : ((s[j].toNat : Int) == 10) = false := beqc (by symm; rw [decide_eq_false_iff_not]; omega)
        go_wp2
        go_roundw
        case rel => exact ⟨j + 1, l, c + 1, by omega, by rw [HST.out, if_neg h10], by go_num, HTW.out.setD _⟩
        case measure => simp [intOf]; omega
    · have he : l = a ∧ c = b := by
        have h1 := hp.out
        rw [show k = j from by omega, hadv] at h1
        exact Prod.mk.inj h1
      obtain ⟨rfl, rfl⟩ := he
      clear hadv
      go_wp2
      refine bodyPost_ret (v := .agg #[.int .i64 l, .int .i64 c]) ?_ rfl ⟨rfl, ?_⟩
      · simp [results, Tryd.results76, go_sem, x0, x1]
      · exact (HTW.out.bel.setCell (Nat.le_refl _) _).setCell (Nat.le_refl _) _
end
end Go.Proofs.YtemigcdieghkfaaDoor
