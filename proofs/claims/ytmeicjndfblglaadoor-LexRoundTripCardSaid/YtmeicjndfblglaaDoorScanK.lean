/- Scanning by offsets: where a token stands is how many bytes are ahead of it. Plain. -/
import Derived.Test.YtmeicjndfblglaaDoorScanR
set_option linter.unusedVariables false
set_option linter.unusedSimpArgs false
set_option linter.unusedSectionVars false
namespace Go.Proofs.YtmeicjndfblglaaDoor
open Go

abbrev ResK := List (Nat × Raw) × Option (Nat × Int)
def ResK.shift (n : Nat) (r : ResK) : ResK := (r.1.map fun x => (x.1 + n, x.2), r.2.map fun x => (x.1 + n, x.2))
def ResK.cons (x : Nat × Raw) (r : ResK) : ResK := (x :: r.1, r.2)
def ResK.pre (d : List (Nat × Raw)) (r : ResK) : ResK := (d ++ r.1, r.2)
def wsB (c : UInt8) : Bool := c.toNat == 10 || c.toNat == 32 || c.toNat == 9 || c.toNat == 13

def scanKF : Nat → List UInt8 → ResK
  | 0, _ => ([], none)
  | _ + 1, [] => ([], none)
  | n + 1, c :: r =>
    if wsB c = true then (scanKF n r).shift 1
    else if c.toNat = 35 then (scanKF n (r.drop (cmtLen r))).shift (1 + cmtLen r)
    else if (lexOne (c :: r)).2.2 = 0 then ResK.cons (0, (lexOne (c :: r)).1) ((scanKF n (r.drop ((lexOne (c :: r)).2.1 - 1))).shift (lexOne (c :: r)).2.1)
    else ([], some (0, (lexOne (c :: r)).2.2))
def scanK (l : List UInt8) : ResK := scanKF l.length l
theorem scanKF_fuel : ∀ (n m : Nat) (l : List UInt8), l.length ≤ n → l.length ≤ m → scanKF n l = scanKF m l
  | 0, m, l, h, _ => by
    have : l = [] := List.eq_nil_of_length_eq_zero (by omega)
    subst this
    cases m <;> rfl
  | n + 1, 0, l, _, h => by
    have : l = [] := List.eq_nil_of_length_eq_zero (by omega)
    subst this; rfl
  | n + 1, m + 1, [], _, _ => rfl
  | n + 1, m + 1, c :: r, h, g => by
    simp only [List.length_cons] at h g
    simp only [scanKF]
    rw [scanKF_fuel n m r (by omega) (by omega), scanKF_fuel n m (r.drop (cmtLen r)) (by rw [List.length_drop]; omega) (by rw [List.length_drop]; omega),
      scanKF_fuel n m (r.drop ((lexOne (c :: r)).2.1 - 1)) (by rw [List.length_drop]; omega) (by rw [List.length_drop]; omega)]
theorem scanK_nil : scanK [] = ([], none) := rfl
theorem scanK_cons (c : UInt8) (r : List UInt8) : scanK (c :: r) =
    if wsB c = true then (scanK r).shift 1
    else if c.toNat = 35 then (scanK (r.drop (cmtLen r))).shift (1 + cmtLen r)
    else if (lexOne (c :: r)).2.2 = 0 then ResK.cons (0, (lexOne (c :: r)).1) ((scanK (r.drop ((lexOne (c :: r)).2.1 - 1))).shift (lexOne (c :: r)).2.1)
    else ([], some (0, (lexOne (c :: r)).2.2)) := by
  show scanKF (r.length + 1) (c :: r) = _
  simp only [scanKF]
  rw [scanKF_fuel r.length (r.drop (cmtLen r)).length (r.drop (cmtLen r)) (by rw [List.length_drop]; omega) (Nat.le_refl _),
    scanKF_fuel r.length (r.drop ((lexOne (c :: r)).2.1 - 1)).length (r.drop ((lexOne (c :: r)).2.1 - 1)) (by rw [List.length_drop]; omega) (Nat.le_refl _)]
  rfl
theorem cmtLen_le (l : List UInt8) : cmtLen l ≤ l.length := takeWhile_le _ _

/-- An induction for what is proved of scanning: by the length of what is left. -/
theorem scan_ind (P : List UInt8 → Prop) (h0 : P []) (h1 : ∀ c r, (∀ k, P (r.drop k)) → P (c :: r)) : ∀ l, P l := by
  have : ∀ n l, l.length ≤ n → P l := by
    intro n
    induction n with
    | zero => intro l hl; have : l = [] := List.eq_nil_of_length_eq_zero (by omega); subst this; exact h0
    | succ n ih =>
      intro l hl
      cases l with
      | nil => exact h0
      | cons c r => exact h1 c r fun k => ih _ (by rw [List.length_drop]; simp at hl; omega)
  exact fun l => this l.length l (Nat.le_refl _)

theorem end_of_ok {l : List UInt8} (h : (lexOne l).2.2 = 0) : (lexOne l).2.1 = endLen l := by
  cases l with
  | nil => exact absurd h (by decide)
  | cons c r =>
    by_cases he : endLen (c :: r) = 0
    · rw [endLen_zero rfl he] at h; exact absurd h (by decide)
    · rcases Bool.eq_false_or_eq_true (letterB c.toNat) with h1 | h1
      · rw [lex_letter rfl h1]
      · rcases Bool.eq_false_or_eq_true (digitB c.toNat) with h2 | h2
        · by_cases h3 : (numeral ((c :: r).take (endLen (c :: r)))).2 = 0
          · rw [lex_num rfl h1 h2 h3]
          · rw [lex_numbad rfl h1 h2 h3] at h; exact absurd h h3
        · by_cases h3 : c.toNat = 34
          · rw [(lex_str rfl h1 h2 h3 (by omega)).1]
          · rw [lex_punct rfl h1 h2 h3 (by omega)]

/-- The tokens at the positions that their offsets have. -/
def place (l : List UInt8) (p : Int × Int) (r : ResK) : Res :=
  (r.1.map fun x => ⟨x.2, (adv (l.take x.1) p).1, (adv (l.take x.1) p).2⟩, r.2.map fun x => ((adv (l.take x.1) p).1, (adv (l.take x.1) p).2, x.2))
theorem place_shift (l : List UInt8) (n : Nat) (p : Int × Int) (r : ResK) : place l p (r.shift n) = place (l.drop n) (adv (l.take n) p) r := by
  have e : ∀ k, adv (l.take (k + n)) p = adv ((l.drop n).take k) (adv (l.take n) p) := by
    intro k
    rw [← adv_append]
    congr 1
    rw [Nat.add_comm, List.take_add]
  unfold place ResK.shift
  simp only [List.map_map, Option.map_map, Prod.mk.injEq]
  constructor
  · apply List.map_congr_left
    intro x _
    simp only [Function.comp, e]
  · congr 1
    funext x
    simp only [Function.comp, e]
theorem adv_cmt {r : List UInt8} {c : UInt8} (hc : ¬ c.toNat = 10) (p : Int × Int) : adv ((c :: r).take (1 + cmtLen r)) p = (p.1, p.2 + 1 + cmtLen r) := by
  rw [Nat.add_comm, List.take_succ_cons, adv, if_neg hc, adv_plain _ _ (cmt_plain r), List.length_take]
  have := cmtLen_le r
  simp only [Prod.mk.injEq, true_and]
  omega
theorem scan_place (l : List UInt8) : ∀ (p : Int × Int), scan l p.1 p.2 = place l p (scanK l) := by
  induction l using scan_ind with
  | h0 => intro p; rfl
  | h1 c r ih =>
    intro p
    rw [scan_cons, scanK_cons]
    by_cases hw : wsB c = true
    · rw [if_pos hw, place_shift]
      have i0 := ih 0
      rw [List.drop_zero] at i0
      show _ = place r (adv [c] p) (scanK r)
      by_cases h10 : c.toNat = 10
      · rw [if_pos h10, ← i0]; simp only [adv, h10, if_true]
      · rw [if_neg h10, if_pos (by simp [wsB] at hw; omega), ← i0]; simp only [adv, h10, if_false]
    · have hn : ¬ c.toNat = 10 ∧ ¬ (c.toNat = 32 ∨ c.toNat = 9 ∨ c.toNat = 13) := by simp [wsB] at hw; omega
      rw [if_neg hw, if_neg hn.1, if_neg hn.2]
      by_cases h35 : c.toNat = 35
      · rw [if_pos h35, if_pos h35, place_shift, adv_cmt hn.1]
        have := ih (cmtLen r) (p.1, p.2 + 1 + cmtLen r)
        rw [this, Nat.add_comm, List.drop_succ_cons]
      · rw [if_neg h35, if_neg h35]
        by_cases he : (lexOne (c :: r)).2.2 = 0
        · rw [if_pos he, if_pos he]
          obtain ⟨n1, n2⟩ := lexOne_len _ he
          have hplain : adv ((c :: r).take (lexOne (c :: r)).2.1) p = (p.1, p.2 + (lexOne (c :: r)).2.1) := by
            rw [adv_plain _ _ (by rw [end_of_ok he]; exact end_plain _), List.length_take]
            simp only [Prod.mk.injEq, true_and]; omega
          have hd : (c :: r).drop (lexOne (c :: r)).2.1 = r.drop ((lexOne (c :: r)).2.1 - 1) := by
            rw [show (lexOne (c :: r)).2.1 = (lexOne (c :: r)).2.1 - 1 + 1 from by omega, List.drop_succ_cons]; rfl
          have hpc : ∀ (x : Nat × Raw) (q : ResK), place (c :: r) p (ResK.cons x q) = Res.pre [⟨x.2, (adv ((c :: r).take x.1) p).1, (adv ((c :: r).take x.1) p).2⟩] (place (c :: r) p q) := fun _ _ => rfl
          rw [hpc, place_shift, hplain, hd]
          have := ih ((lexOne (c :: r)).2.1 - 1) (p.1, p.2 + (lexOne (c :: r)).2.1)
          rw [this]
          rfl
        · rw [if_neg he, if_neg he]
          rfl

/-- Positions tell offsets apart. -/
theorem adv_lt : ∀ (l : List UInt8) (p : Int × Int), l ≠ [] → 1 ≤ p.2 → (p.1 < (adv l p).1 ∨ (p.1 = (adv l p).1 ∧ p.2 < (adv l p).2)) ∧ 1 ≤ (adv l p).2
  | [], _, h, _ => absurd rfl h
  | [c], p, _, hp => by simp only [adv]; split <;> simp <;> omega
  | c :: d :: l, p, _, hp => by
    have h := adv_lt (d :: l) (if c.toNat = 10 then (p.1 + 1, 1) else (p.1, p.2 + 1)) (by simp) (by split <;> simp <;> omega)
    rw [adv]
    split at h <;> split <;> first | contradiction | skip
    · refine ⟨?_, h.2⟩; have := h.1; simp only at this; omega
    · refine ⟨?_, h.2⟩; have := h.1; simp only at this; omega
theorem adv_inj {l : List UInt8} {i j : Nat} (hi : i ≤ l.length) (hj : j ≤ l.length) (h : adv (l.take i) (1, 1) = adv (l.take j) (1, 1)) : i = j := by
  have key : ∀ a b, a < b → b ≤ l.length → adv (l.take a) (1, 1) ≠ adv (l.take b) (1, 1) := by
    intro a b hab hb e
    have h1 : l.take b = l.take a ++ (l.drop a).take (b - a) := by
      rw [← List.take_add, show a + (b - a) = b from by omega]
    have hne : (l.drop a).take (b - a) ≠ [] := by
      intro h0
      have := congrArg List.length h0
      rw [List.length_take, List.length_drop] at this
      simp at this; omega
    have h2 : 1 ≤ (adv (l.take a) (1, 1)).2 := by
      by_cases h0 : l.take a = []
      · rw [h0]; simp [adv]
      · exact (adv_lt _ _ h0 (by decide)).2
    rw [h1, adv_append] at e
    have h3 := (adv_lt _ (adv (l.take a) (1, 1)) hne h2).1
    rw [← e] at h3
    omega
  rcases Nat.lt_trichotomy i j with h1 | h1 | h1
  · exact absurd h (key i j h1 hj)
  · exact h1
  · exact absurd h.symm (key j i h1 hi)
end Go.Proofs.YtmeicjndfblglaaDoor
