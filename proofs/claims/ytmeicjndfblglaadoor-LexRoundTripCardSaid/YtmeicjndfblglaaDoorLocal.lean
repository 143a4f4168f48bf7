/- A token hangs on its own bytes and the byte behind them. Plain. -/
import Derived.Test.YtmeicjndfblglaaDoorScanK
set_option linter.unusedVariables false
set_option linter.unusedSimpArgs false
set_option linter.unusedSectionVars false
namespace Go.Proofs.YtmeicjndfblglaaDoor
open Go

theorem tw_take (p : UInt8 → Bool) : ∀ (l : List UInt8) (m : Nat), (l.takeWhile p).length ≤ m → (l.take m).takeWhile p = l.takeWhile p
  | [], m, _ => by simp
  | c :: l, 0, h => by
    rw [List.takeWhile_cons] at h ⊢
    split at h
    · simp at h
    · rename_i hc; simp [hc]
  | c :: l, m + 1, h => by
    rw [List.take_succ_cons, List.takeWhile_cons, List.takeWhile_cons]
    rw [List.takeWhile_cons] at h
    split
    · rename_i hc
      rw [if_pos hc] at h
      rw [tw_take p l m (by simpa using h)]
    · rfl
theorem tw_app (p : UInt8 → Bool) (x : UInt8) (b : List UInt8) (hx : p x = false) : ∀ (a : List UInt8), (a ++ x :: b).takeWhile p = a.takeWhile p
  | [] => by simp [hx]
  | c :: a => by
    rw [List.cons_append, List.takeWhile_cons, List.takeWhile_cons, tw_app p x b hx a]
theorem run_take {l : List UInt8} {m : Nat} (h : runLen l ≤ m) : runLen (l.take m) = runLen l := by unfold runLen at *; rw [tw_take _ _ _ h]
theorem str_take {l : List UInt8} {m : Nat} (h : strLen l ≤ m) : strLen (l.take m) = strLen l := by unfold strLen at *; rw [tw_take _ _ _ h]
theorem run_nl (a b : List UInt8) : runLen (a ++ 10 :: b) = runLen a := by unfold runLen; rw [tw_app _ _ _ (by decide)]
theorem str_nl (a b : List UInt8) : strLen (a ++ 10 :: b) = strLen a := by unfold strLen; rw [tw_app _ _ _ (by decide)]
theorem cmt_nl (a b : List UInt8) : cmtLen (a ++ 10 :: b) = cmtLen a := by unfold cmtLen; rw [tw_app _ _ _ (by decide)]
theorem cmt_take {l : List UInt8} {m : Nat} (h : cmtLen l ≤ m) : cmtLen (l.take m) = cmtLen l := by unfold cmtLen at *; rw [tw_take _ _ _ h]

theorem punct_cases (c : UInt8) (r : List UInt8) : punctLen (c :: r) = if 1 ≤ r.length ∧ two ((c :: r).take 2) = true then 2 else if 0 ≤ Lib.indexByte marks1 c then 1 else 0 := by
  unfold punctLen
  simp only [List.length_cons]
  by_cases h : 1 ≤ r.length ∧ two ((c :: r).take 2) = true
  · rw [if_pos ⟨by omega, h.2⟩, if_pos h]
  · rw [if_neg (fun g => h ⟨by omega, g.2⟩), if_neg h]
theorem punct_take {c : UInt8} {r : List UInt8} {m : Nat} (h : punctLen (c :: r) ≤ m + 1) : punctLen (c :: r.take m) = punctLen (c :: r) := by
  rw [punct_cases] at h ⊢
  rw [punct_cases]
  by_cases h2 : 1 ≤ r.length ∧ two ((c :: r).take 2) = true
  · rw [if_pos h2] at h ⊢
    have e : (c :: r.take m).take 2 = (c :: r).take 2 := by
      show c :: (r.take m).take 1 = c :: r.take 1
      rw [List.take_take, Nat.min_eq_left (by omega)]
    rw [if_pos ⟨by rw [List.length_take]; omega, by rw [e]; exact h2.2⟩]
  · rw [if_neg h2]
    by_cases hm : m = 0
    · subst hm; rw [if_neg (by simp)]
    · have e : (c :: r.take m).take 2 = (c :: r).take 2 := by
        show c :: (r.take m).take 1 = c :: r.take 1
        rw [List.take_take, Nat.min_eq_left (by omega)]
      rw [if_neg (by rw [e, List.length_take]; intro g; exact h2 ⟨by omega, g.2⟩)]
theorem punct_nl (c : UInt8) (a b : List UInt8) : punctLen (c :: (a ++ 10 :: b)) = punctLen (c :: a) := by
  rw [punct_cases, punct_cases]
  cases a with
  | nil =>
    have e1 : ¬ (1 ≤ (([] : List UInt8) ++ 10 :: b).length ∧ two ((c :: (([] : List UInt8) ++ 10 :: b)).take 2) = true) := by intro g; have h := g.2; simp [two] at h
    have e2 : ¬ (1 ≤ ([] : List UInt8).length ∧ two ([c].take 2) = true) := by simp
    rw [if_neg e1, if_neg e2]
  | cons d a =>
    show (if 1 ≤ ((d :: a) ++ 10 :: b).length ∧ two [c, d] = true then 2 else _) = if 1 ≤ (d :: a).length ∧ two [c, d] = true then 2 else _
    simp only [List.length_append, List.length_cons]
    by_cases h : two [c, d] = true
    · rw [if_pos ⟨by omega, h⟩, if_pos ⟨by omega, h⟩]
    · have e1 : ¬ (1 ≤ a.length + 1 + (b.length + 1) ∧ two [c, d] = true) := fun g => h g.2
      have e2 : ¬ (1 ≤ a.length + 1 ∧ two [c, d] = true) := fun g => h g.2
      rw [if_neg e1, if_neg e2]

theorem head_drop_nl {a b : List UInt8} {k : Nat} (hk : k ≤ a.length) : ((a ++ 10 :: b).drop k).head? = some 34 ↔ (a.drop k).head? = some 34 := by
  rw [List.head?_drop, List.head?_drop]
  by_cases h : k < a.length
  · rw [List.getElem?_append_left h]
  · rw [List.getElem?_append_right (by omega), show k - a.length = 0 from by omega, List.getElem?_eq_none (l := a) (by omega)]
    simp

theorem lexOne_nl (c : UInt8) (a b : List UInt8) : lexOne (c :: (a ++ 10 :: b)) = lexOne (c :: a) := by
  have hr : runLen (c :: (a ++ 10 :: b)) = runLen (c :: a) := run_nl (c :: a) b
  have hle := runLen_le (c :: a)
  have ht : (c :: (a ++ 10 :: b)).take (runLen (c :: a)) = (c :: a).take (runLen (c :: a)) := by
    rw [← List.cons_append, List.take_append_of_le_length hle]
  rcases Bool.eq_false_or_eq_true (letterB c.toNat) with h1 | h1
  · rw [lexOne_letter h1, lexOne_letter h1, hr, ht]
  · rcases Bool.eq_false_or_eq_true (digitB c.toNat) with h2 | h2
    · by_cases h3 : (numeral ((c :: a).take (runLen (c :: a)))).2 = 0
      · rw [lexOne_num h1 h2 h3, lexOne_num h1 h2 (by rw [hr, ht]; exact h3), hr, ht]
      · rw [lexOne_numbad h1 h2 h3, lexOne_numbad h1 h2 (by rw [hr, ht]; exact h3), hr, ht]
    · by_cases h3 : c.toNat = 34
      · have hs := str_nl a b
        have hsl := strLen_le a
        have hh := head_drop_nl (b := b) hsl
        by_cases h4 : (a.drop (strLen a)).head? = some 34
        · rw [lexOne_str h1 h2 h3 h4, lexOne_str h1 h2 h3 (by rw [hs]; exact hh.2 h4), hs, List.take_append_of_le_length hsl]
        · rw [lexOne_strbad h1 h2 h3 h4, lexOne_strbad h1 h2 h3 (by rw [hs]; exact fun g => h4 (hh.1 g))]
      · have hp := punct_nl c a b
        have hpl := (punctLen_le (c :: a)).1
        by_cases h4 : punctLen (c :: a) = 0
        · rw [lexOne_bad h1 h2 h3 h4, lexOne_bad h1 h2 h3 (by rw [hp]; exact h4)]
        · rw [lexOne_punct h1 h2 h3 h4, lexOne_punct h1 h2 h3 (by rw [hp]; exact h4), hp]
          rw [← List.cons_append, List.take_append_of_le_length hpl]

theorem lexOne_take {c : UInt8} {r : List UInt8} {m : Nat} (he : (lexOne (c :: r)).2.2 = 0) (hm : (lexOne (c :: r)).2.1 ≤ m + 1) : lexOne (c :: r.take m) = lexOne (c :: r) := by
  have hc : c :: r.take m = (c :: r).take (m + 1) := rfl
  rcases Bool.eq_false_or_eq_true (letterB c.toNat) with h1 | h1
  · rw [lexOne_letter h1] at hm
    have hr := run_take hm
    rw [lexOne_letter h1, lexOne_letter h1, hc, hr, List.take_take, Nat.min_eq_left hm]
  · rcases Bool.eq_false_or_eq_true (digitB c.toNat) with h2 | h2
    · by_cases h3 : (numeral ((c :: r).take (runLen (c :: r)))).2 = 0
      · rw [lexOne_num h1 h2 h3] at hm
        have hr := run_take hm
        have ht : (c :: r.take m).take (runLen (c :: r.take m)) = (c :: r).take (runLen (c :: r)) := by rw [hc, hr, List.take_take, Nat.min_eq_left hm]
        rw [lexOne_num h1 h2 h3, lexOne_num h1 h2 (by rw [ht]; exact h3), ht, hc, hr]
      · rw [lexOne_numbad h1 h2 h3] at he; exact absurd he h3
    · by_cases h3 : c.toNat = 34
      · by_cases h4 : (r.drop (strLen r)).head? = some 34
        · rw [lexOne_str h1 h2 h3 h4] at hm
          have hm' : strLen r + 2 ≤ m + 1 := hm
          have hs := str_take (l := r) (m := m) (by omega)
          have hh : ((r.take m).drop (strLen (r.take m))).head? = some 34 := by
            rw [hs, List.head?_drop, List.getElem?_take, if_pos (by omega), ← List.head?_drop]; exact h4
          rw [lexOne_str h1 h2 h3 h4, lexOne_str h1 h2 h3 hh, hs, List.take_take, Nat.min_eq_left (by omega)]
        · rw [lexOne_strbad h1 h2 h3 h4] at he; exact absurd he (by decide)
      · by_cases h4 : punctLen (c :: r) = 0
        · rw [lexOne_bad h1 h2 h3 h4] at he; exact absurd he (by decide)
        · rw [lexOne_punct h1 h2 h3 h4] at hm
          have hp := punct_take (m := m) hm
          rw [lexOne_punct h1 h2 h3 h4, lexOne_punct h1 h2 h3 (by rw [hp]; exact h4), hp, hc, List.take_take, Nat.min_eq_left hm]

/-! ### B: an error; C: two texts joined by a newline -/
theorem shift_none {n : Nat} {r : ResK} (h : r.2 = none) : (r.shift n).2 = none := by simp [ResK.shift, h]
theorem scanK_err (l : List UInt8) : ∀ (d : List (Nat × Raw)) (k : Nat) (e : Int), scanK l = (d, some (k, e)) → ¬ e = 0 ∧ k < l.length ∧ scanK (l.take k) = (d, none) ∧ scanK (l.drop k) = ([], some (0, e)) := by
  induction l using scan_ind with
  | h0 => intro d k e h; simp [scanK_nil] at h
  | h1 c r ih =>
    intro d k e h
    have step : ∀ (n : Nat) (d' : List (Nat × Raw)) (k' : Nat), scanK (r.drop (n - 1)) = (d', some (k', e)) → 1 ≤ n → n ≤ r.length + 1 → (∀ m, scanK (c :: r.take (n - 1 + m)) = ResK.pre [] (scanK (c :: r.take (n - 1 + m)))) →
        ¬ e = 0 ∧ k' + n < r.length + 1 ∧ scanK ((r.drop (n - 1)).take k') = (d', none) ∧ scanK ((c :: r).drop (k' + n)) = ([], some (0, e)) := by
      intro n d' k' hs hn1 hn2 _
      obtain ⟨g0, g1, g2, g3⟩ := ih (n - 1) d' k' e hs
      rw [List.length_drop] at g1
      refine ⟨g0, by omega, g2, ?_⟩
      rw [show k' + n = (n - 1 + k') + 1 from by omega, List.drop_succ_cons, ← List.drop_drop]
      exact g3
    rw [scanK_cons] at h
    by_cases hw : wsB c = true
    · rw [if_pos hw] at h
      cases hs : scanK r with
      | mk d' er =>
        rw [hs] at h
        cases er with
        | none => simp [ResK.shift] at h
        | some x =>
          obtain ⟨k', e'⟩ := x
          simp only [ResK.shift, Option.map_some, Prod.mk.injEq, Option.some.injEq] at h
          obtain ⟨hd, hk, rfl⟩ := h
          obtain ⟨g0, g1, g2, g3⟩ := step 1 d' k' (by simpa using hs) (by omega) (by omega) (fun _ => rfl)
          subst hk hd
          refine ⟨g0, g1, ?_, g3⟩
          rw [List.take_succ_cons, scanK_cons, if_pos hw]
          simp at g2
          rw [g2]; rfl
    · rw [if_neg hw] at h
      by_cases h35 : c.toNat = 35
      · rw [if_pos h35] at h
        cases hs : scanK (r.drop (cmtLen r)) with
        | mk d' er =>
          rw [hs] at h
          cases er with
          | none => simp [ResK.shift] at h
          | some x =>
            obtain ⟨k', e'⟩ := x
            simp only [ResK.shift, Option.map_some, Prod.mk.injEq, Option.some.injEq] at h
            obtain ⟨hd, hk, rfl⟩ := h
            have hcl := cmtLen_le r
            obtain ⟨g0, g1, g2, g3⟩ := step (1 + cmtLen r) d' k' (by rw [show 1 + cmtLen r - 1 = cmtLen r from by omega]; exact hs) (by omega) (by omega) (fun _ => rfl)
            subst hk hd
            refine ⟨g0, g1, ?_, g3⟩
            rw [show k' + (1 + cmtLen r) = (cmtLen r + k') + 1 from by omega, List.take_succ_cons, scanK_cons, if_neg hw, if_pos h35, cmt_take (by omega), List.drop_take, show cmtLen r + k' - cmtLen r = k' from by omega]
            rw [show 1 + cmtLen r - 1 = cmtLen r from by omega] at g2
            rw [g2]; rfl
      · rw [if_neg h35] at h
        by_cases he : (lexOne (c :: r)).2.2 = 0
        · rw [if_pos he] at h
          obtain ⟨n1, n2⟩ := lexOne_len _ he
          generalize hn : (lexOne (c :: r)).2.1 = n at *
          cases hs : scanK (r.drop (n - 1)) with
          | mk d' er =>
            rw [hs] at h
            cases er with
            | none => simp [ResK.shift, ResK.cons] at h
            | some x =>
              obtain ⟨k', e'⟩ := x
              simp only [ResK.shift, ResK.cons, Option.map_some, Prod.mk.injEq, Option.some.injEq] at h
              obtain ⟨hd, hk, rfl⟩ := h
              obtain ⟨g0, g1, g2, g3⟩ := step n d' k' hs n1 (by simpa using n2) (fun _ => rfl)
              subst hk hd
              refine ⟨g0, g1, ?_, g3⟩
              have ht : lexOne (c :: r.take (n - 1 + k')) = lexOne (c :: r) := lexOne_take he (by rw [hn]; omega)
              rw [show k' + n = (n - 1 + k') + 1 from by omega, List.take_succ_cons, scanK_cons, if_neg hw, if_neg h35, ht, if_pos he, hn, List.drop_take, show n - 1 + k' - (n - 1) = k' from by omega, g2]
              rfl
        · rw [if_neg he] at h
          simp only [Prod.mk.injEq, Option.some.injEq] at h
          obtain ⟨rfl, rfl, rfl⟩ := h
          refine ⟨he, by simp, rfl, ?_⟩
          rw [List.drop_zero, scanK_cons, if_neg hw, if_neg h35, if_neg he]

theorem pre_shift (d : List (Nat × Raw)) (n : Nat) (r : ResK) : ResK.shift n (ResK.pre d r) = ResK.pre (d.map fun x => (x.1 + n, x.2)) (ResK.shift n r) := by simp [ResK.shift, ResK.pre]
theorem shift_shift (m n : Nat) (r : ResK) : ResK.shift n (ResK.shift m r) = ResK.shift (m + n) r := by
  simp only [ResK.shift, List.map_map, Option.map_map, Prod.mk.injEq]
  constructor
  · apply List.map_congr_left; intro x _; simp [Function.comp, Nat.add_assoc]
  · congr 1; funext x; simp [Function.comp, Nat.add_assoc]
/-- What the tokens of 'a, newline, b' come to. -/
def join (n : Nat) (ra rb : ResK) : ResK := match ra with
  | (d, some x) => (d, some x)
  | (d, none) => ResK.pre d (ResK.shift (n + 1) rb)
theorem join_shift (n m : Nat) (ra rb : ResK) : (join n ra rb).shift m = join (n + m) (ra.shift m) rb := by
  obtain ⟨d, x⟩ := ra
  cases x with
  | none =>
    show ResK.shift m (ResK.pre d (ResK.shift (n + 1) rb)) = ResK.pre (d.map fun x => (x.1 + m, x.2)) (ResK.shift (n + m + 1) rb)
    rw [pre_shift, shift_shift, show n + 1 + m = n + m + 1 from by omega]
  | some x => rfl
theorem join_cons (n : Nat) (x : Nat × Raw) (ra rb : ResK) : ResK.cons x (join n ra rb) = join n (ResK.cons x ra) rb := by
  obtain ⟨d, y⟩ := ra
  cases y <;> rfl
theorem scanK_join (b : List UInt8) (a : List UInt8) : scanK (a ++ 10 :: b) = join a.length (scanK a) (scanK b) := by
  induction a using scan_ind with
  | h0 => rw [List.nil_append, scanK_cons, if_pos (by decide)]; rfl
  | h1 c r ih =>
    rw [List.cons_append, scanK_cons, scanK_cons c r]
    by_cases hw : wsB c = true
    · have i0 := ih 0
      rw [List.drop_zero] at i0
      rw [if_pos hw, if_pos hw, i0, join_shift, List.length_cons]
    · rw [if_neg hw, if_neg hw]
      by_cases h35 : c.toNat = 35
      · have hcl := cmtLen_le r
        rw [if_pos h35, if_pos h35, cmt_nl, List.drop_append_of_le_length hcl, ih (cmtLen r), join_shift, List.length_drop, List.length_cons]
        rw [show r.length - cmtLen r + (1 + cmtLen r) = r.length + 1 from by omega]
      · rw [if_neg h35, if_neg h35, lexOne_nl]
        by_cases he : (lexOne (c :: r)).2.2 = 0
        · obtain ⟨n1, n2⟩ := lexOne_len _ he
          simp only [List.length_cons] at n2
          rw [if_pos he, if_pos he, List.drop_append_of_le_length (by omega), ih, join_shift, join_cons, List.length_drop, List.length_cons]
          rw [show r.length - ((lexOne (c :: r)).2.1 - 1) + (lexOne (c :: r)).2.1 = r.length + 1 from by omega]
        · rw [if_neg he, if_neg he]; rfl
end Go.Proofs.YtmeicjndfblglaaDoor
