/- The text of a token; scanning a text that is made of tokens' texts and gaps. Plain. -/
import Derived.Test.YtmeicjndfblglaaDoorNumPlain
set_option linter.unusedVariables false
set_option linter.unusedSimpArgs false
set_option linter.unusedSectionVars false
namespace Go.Proofs.YtmeicjndfblglaaDoor
open Go

/-- The text of a token and whether it is well formed. -/
def textOf (r : Raw) : List UInt8 × Bool :=
  if ¬ r.kind = 2 ∧ ¬ r.value = 0 then ([], false)
  else if r.kind = 1 then (r.text, wordB r.text)
  else if r.kind = 2 then (numL 10 r.value.toNat, decide (r.text = []))
  else if r.kind = 3 then ([34] ++ r.text ++ [34], r.text.all fun c => plainB c.toNat)
  else if r.kind = 4 then (r.text, decide (¬ r.text = []) && decide (markOf r.text = r.text))
  else ([], false)

/-- A gap's first byte: white space or the sign of a comment. -/
def gapB (c : UInt8) : Bool := wsB c || c.toNat == 35
theorem gap_not (c : UInt8) (h : gapB c = true) : alnumB c.toNat = false ∧ ∀ a, two [a, c] = false := by
  have hc : c.toNat = 10 ∨ c.toNat = 32 ∨ c.toNat = 9 ∨ c.toNat = 13 ∨ c.toNat = 35 := by simp [gapB, wsB] at h; omega
  have h2 : ∀ (b : UInt8), (b.toNat = 61 ∨ b.toNat = 46 ∨ b.toNat = 62) → c ≠ b := by intro b hb e; subst e; omega
  constructor
  · rcases hc with h | h | h | h | h <;> rw [h] <;> decide
  · intro a
    have h61 := h2 61 (by decide)
    have h46 := h2 46 (by decide)
    have h62 := h2 62 (by decide)
    simp [two, h61, h46, h62]
theorem run_all {l : List UInt8} (h : ∀ c ∈ l, alnumB c.toNat = true) {g : UInt8} {b : List UInt8} (hg : alnumB g.toNat = false) : runLen (l ++ g :: b) = l.length := by
  unfold runLen
  rw [tw_app _ _ _ hg]
  exact (all_iff_run l).1 (List.all_eq_true.2 h)
theorem numeral10 (n : Nat) (h : (n : Int) ≤ most) : numeral (numL 10 n) = ((n : Int), 0) := by
  have h1 := numeral_text false n (k := 0) (by decide)
  have e : numText false n ++ sufL 0 = numL 10 n := by show numL 10 n ++ [] = _; simp
  rw [e, if_neg (by rw [show 2 ^ (10 * 0) = (2 : Int) ^ 0 from rfl, most_0]; unfold most at h; omega)] at h1
  rw [h1]
  simp
theorem takeWhile_all {p : UInt8 → Bool} : ∀ {l : List UInt8}, l.all p = true → l.takeWhile p = l
  | [], _ => rfl
  | c :: l, h => by
    simp only [List.all_cons, Bool.and_eq_true] at h
    rw [List.takeWhile_cons, if_pos h.1, takeWhile_all h.2]
theorem punct_text {t : List UInt8} (h0 : ¬ t = []) (h : markOf t = t) {g : UInt8} {b : List UInt8} (hg : ∀ a, two [a, g] = false) : punctLen (t ++ g :: b) = t.length ∧ 0 < t.length := by
  have hp := punct_mark t
  rw [h] at hp
  have hl := punctLen_le t
  cases t with
  | nil => exact absurd rfl h0
  | cons a r =>
    cases r with
    | nil =>
      rw [punct_cases] at hp
      rw [List.cons_append, punct_cases]
      have e1 : ¬ (1 ≤ (([] : List UInt8) ++ g :: b).length ∧ two ((a :: (([] : List UInt8) ++ g :: b)).take 2) = true) := by
        intro q; have := q.2; simp [hg a] at this
      have e2 : ¬ (1 ≤ ([] : List UInt8).length ∧ two ([a].take 2) = true) := by simp
      rw [if_neg e2] at hp
      rw [if_neg e1, ← hp]; simp
    | cons d r =>
      cases r with
      | nil =>
        rw [punct_cases] at hp
        rw [List.cons_append, punct_cases]
        by_cases e2 : 1 ≤ ([d] : List UInt8).length ∧ two ([a, d].take 2) = true
        · have e1 : 1 ≤ ([d] ++ g :: b).length ∧ two ((a :: ([d] ++ g :: b)).take 2) = true := ⟨by simp, e2.2⟩
          rw [if_pos e1]; simp
        · rw [if_neg e2] at hp
          simp only [List.length_cons, List.length_nil] at hp
          split at hp <;> omega
      | cons e r => simp only [List.length_cons] at hp; omega
/-- A well-formed token's text, and a gap behind it, is lexed as that token. -/
theorem lexOne_text (r : Raw) (hv : r.value ≤ most ∧ 0 ≤ r.value) (h : (textOf r).2 = true) {g : UInt8} {b : List UInt8} (hg : gapB g = true) : ∃ c q, (textOf r).1 = c :: q ∧ wsB c = false ∧ ¬ c.toNat = 35 ∧ lexOne (c :: (q ++ g :: b)) = (r, q.length + 1, 0) := by
  obtain ⟨ga, gt⟩ := gap_not g hg
  obtain ⟨kind, text, value⟩ := r
  unfold textOf at h ⊢
  simp only at h ⊢ hv
  by_cases h0 : ¬ kind = 2 ∧ ¬ value = 0
  · rw [if_pos h0] at h; exact absurd h (by decide)
  rw [if_neg h0] at h ⊢
  by_cases h1 : kind = 1
  · rw [if_pos h1] at h ⊢
    simp only at h ⊢
    cases text with
    | nil => exact absurd h (by decide)
    | cons c q =>
      simp only [wordB, Bool.and_eq_true, List.all_eq_true] at h
      have hall : ∀ x ∈ c :: q, alnumB x.toNat = true := by
        intro x hx
        rcases List.mem_cons.1 hx with rfl | hx
        · simp [alnumB, h.1]
        · exact h.2 x hx
      have hr := run_all hall (b := b) ga
      refine ⟨c, q, rfl, ?_, ?_, ?_⟩
      · have := h.1; simp [letterB] at this; simp [wsB]; omega
      · have := h.1; simp [letterB] at this; omega
      · rw [lexOne_letter h.1, show c :: (q ++ g :: b) = (c :: q) ++ g :: b from rfl, hr]
        have hv0 : value = 0 := by omega
        subst h1 hv0
        rw [List.take_left]; rfl
  rw [if_neg h1] at h ⊢
  by_cases h2 : kind = 2
  · rw [if_pos h2] at h ⊢
    simp only [decide_eq_true_eq] at h ⊢
    subst h h2
    obtain ⟨n, rfl⟩ := Int.eq_ofNat_of_zero_le hv.2
    simp only [Int.toNat_natCast]
    have hall := all10 n
    cases hd : numL 10 n with
    | nil => exact absurd hd (numL_ne (by decide) n)
    | cons c q =>
      have hc := (hall c (by rw [hd]; simp)).1
      have hr := run_all (l := c :: q) (fun x hx => (hall x (by rw [hd]; exact hx)).2.1) (b := b) ga
      have hl : letterB c.toNat = false := by simp [digitB] at hc; simp [letterB]; omega
      refine ⟨c, q, rfl, ?_, ?_, ?_⟩
      · simp [digitB] at hc; simp [wsB]; omega
      · simp [digitB] at hc; omega
      · have hn := numeral10 n hv.1
        have ht : (c :: (q ++ g :: b)).take (runLen (c :: (q ++ g :: b))) = numL 10 n := by
          rw [show c :: (q ++ g :: b) = (c :: q) ++ g :: b from rfl, hr, List.take_left, hd]
        rw [lexOne_num hl hc (by rw [ht, hn]), ht, hn, show c :: (q ++ g :: b) = (c :: q) ++ g :: b from rfl, hr]
        rfl
  rw [if_neg h2] at h ⊢
  have hv0 : value = 0 := by omega
  by_cases h3 : kind = 3
  · rw [if_pos h3] at h ⊢
    simp only at h ⊢
    have hs : strLen (text ++ 34 :: g :: b) = text.length := by
      unfold strLen
      rw [tw_app _ _ _ (by decide)]
      rw [takeWhile_all h]
    refine ⟨34, text ++ [34], rfl, by decide, by decide, ?_⟩
    have he : text ++ [34] ++ g :: b = text ++ 34 :: g :: b := by simp
    rw [he, lexOne_str (by decide) (by decide) (by decide) (by rw [hs, List.drop_left]; rfl), hs, List.take_left]
    subst h3 hv0
    simp
  rw [if_neg h3] at h ⊢
  by_cases h4 : kind = 4
  · rw [if_pos h4] at h ⊢
    simp only [Bool.and_eq_true, decide_eq_true_eq] at h ⊢
    obtain ⟨hp, hpos⟩ := punct_text h.1 h.2 (b := b) gt
    have hmem : text ∈ marksL := by
      have h5 := h.2
      unfold markOf at h5
      cases hf : marksL.find? (fun m => m.isPrefixOf text) with
      | none => rw [hf] at h5; exact absurd h5.symm h.1
      | some m => rw [hf] at h5; exact h5 ▸ List.mem_of_find?_eq_some hf
    have hch : ∀ m ∈ marksL, ∀ c ∈ m.head?, letterB c.toNat = false ∧ digitB c.toNat = false ∧ ¬ c.toNat = 34 ∧ ¬ c.toNat = 35 ∧ wsB c = false := by decide
    cases text with
    | nil => exact absurd rfl h.1
    | cons c q =>
      obtain ⟨c1, c2, c3, c4, c5⟩ := hch _ hmem c rfl
      refine ⟨c, q, rfl, c5, c4, ?_⟩
      rw [lexOne_punct c1 c2 c3 (by rw [show c :: (q ++ g :: b) = (c :: q) ++ g :: b from rfl, hp]; simp), show c :: (q ++ g :: b) = (c :: q) ++ g :: b from rfl, hp, List.take_left]
      subst h4 hv0; rfl
  · rw [if_neg h4] at h; exact absurd h (by decide)

/-- A piece of text that comes to these tokens, whatever stands behind it. -/
def Seg (t : List UInt8) (rs : List Raw) : Prop := ∃ D : List (Nat × Raw), D.map (·.2) = rs ∧ ∀ rest, scanK (t ++ rest) = ResK.pre D (ResK.shift t.length (scanK rest))
theorem shift_zero (r : ResK) : ResK.shift 0 r = r := by
  obtain ⟨a, b⟩ := r
  simp only [ResK.shift, Nat.add_zero, Prod.mk.injEq]
  exact ⟨List.map_id' a, by cases b <;> rfl⟩
theorem Seg.nil : Seg [] [] := ⟨[], rfl, fun rest => by simp [shift_zero, ResK.pre]⟩
theorem Seg.append {a b : List UInt8} {ra rb : List Raw} (ha : Seg a ra) (hb : Seg b rb) : Seg (a ++ b) (ra ++ rb) := by
  obtain ⟨Da, e1, h1⟩ := ha
  obtain ⟨Db, e2, h2⟩ := hb
  refine ⟨Da ++ Db.map (fun x => (x.1 + a.length, x.2)), by simp [e1, ← e2], fun rest => ?_⟩
  rw [List.append_assoc, h1, h2, pre_shift, shift_shift]
  simp only [ResK.pre, List.append_assoc, Prod.mk.injEq, List.length_append]
  rw [Nat.add_comm a.length]
  exact ⟨rfl, rfl⟩
theorem Seg.ws {c : UInt8} (h : wsB c = true) : Seg [c] [] := ⟨[], rfl, fun rest => by
  show scanK (c :: rest) = _
  rw [scanK_cons, if_pos h]; rfl⟩
/-- A comment and its newline. -/
theorem Seg.comment {t : List UInt8} (h : ∀ c ∈ t, notNl c.toNat = true) : Seg (35 :: (t ++ [10])) [] := ⟨[], rfl, fun rest => by
  have e : 35 :: (t ++ [10]) ++ rest = 35 :: (t ++ 10 :: rest) := by simp
  have hc : cmtLen (t ++ 10 :: rest) = t.length := by
    rw [cmt_nl]; unfold cmtLen; rw [takeWhile_all (List.all_eq_true.2 h)]
  rw [e, scanK_cons, if_neg (by decide), if_pos (by decide), hc, List.drop_left, scanK_cons, if_pos (by decide), shift_shift]
  rw [show (35 :: (t ++ [10])).length = 1 + (1 + t.length) from by simp; omega]
  rfl⟩
/-- A well-formed token's text with a gap behind it. -/
theorem Seg.tok (r : Raw) (hv : r.value ≤ most ∧ 0 ≤ r.value) (h : (textOf r).2 = true) {g : List UInt8} (hg : Seg g []) (hh : ∃ c q, g = c :: q ∧ gapB c = true) : Seg ((textOf r).1 ++ g) [r] := by
  obtain ⟨x, b, rfl, hx⟩ := hh
  obtain ⟨Dg, eg, hg⟩ := hg
  have hd : Dg = [] := by simpa using eg
  subst hd
  refine ⟨[(0, r)], rfl, fun rest => ?_⟩
  obtain ⟨c, q, e, hw, h35, hl⟩ := lexOne_text r hv h (g := x) (b := b ++ rest) hx
  rw [e]
  have e2 : c :: q ++ x :: b ++ rest = c :: (q ++ x :: (b ++ rest)) := by simp
  rw [e2, scanK_cons, if_neg (by rw [hw]; decide), if_neg h35, hl, if_pos rfl]
  simp only [Nat.add_sub_cancel, List.drop_left]
  have := hg rest
  rw [List.cons_append] at this
  rw [this]
  simp only [ResK.pre, List.nil_append, ResK.cons, ResK.shift, List.length_append, List.length_cons, List.map_map, Option.map_map, Prod.mk.injEq]
  refine ⟨?_, ?_⟩
  · congr 1
    apply List.map_congr_left; intro y _; simp only [Function.comp, Prod.mk.injEq, and_true]; omega
  · congr 1; funext y; simp only [Function.comp, Prod.mk.injEq, and_true]; omega
/-- What scanning a whole piece comes to, with something tokenless behind it. -/
theorem Seg.scan {t e : List UInt8} {rs : List Raw} (h : Seg t rs) (he : scanK e = ([], none)) (hl : (t ++ e).length ≤ 65536) : ∃ d : List Tok, scanRes (t ++ e) = (d, 0, 0, 0) ∧ d.map (·.raw) = rs := by
  obtain ⟨D, e1, h1⟩ := h
  have hs := h1 e
  rw [he] at hs
  refine ⟨_, by rw [scanRes_place hl, hs]; rfl, ?_⟩
  simp only [place, ResK.shift, List.map_nil, List.append_nil, List.map_map, ← e1]
  apply List.map_congr_left; intro y _; rfl
end Go.Proofs.YtmeicjndfblglaaDoor
