/- The last token of a text. Plain. -/
import Derived.Test.YtmeicjndfblglaaDoorLawPrefix
set_option linter.unusedVariables false
set_option linter.unusedSimpArgs false
set_option linter.unusedSectionVars false
namespace Go.Proofs.YtmeicjndfblglaaDoor
open Go

theorem snoc_or (d : List (Nat × Raw)) : d = [] ∨ ∃ d1 x, d = d1 ++ [x] := by
  rcases List.eq_nil_or_concat d with h | ⟨d1, x, h⟩
  · exact .inl h
  · exact .inr ⟨d1, x, by simpa using h⟩
theorem shift_eq {q : ResK} {n : Nat} {d : List (Nat × Raw)} (h : q.shift n = (d, none)) : q.2 = none ∧ q.1.map (fun x => (x.1 + n, x.2)) = d := by
  obtain ⟨a, b⟩ := q
  simp only [ResK.shift, Prod.mk.injEq, Option.map_eq_none_iff] at h
  exact ⟨h.2, h.1⟩
theorem scanK_last (l : List UInt8) : ∀ (d : List (Nat × Raw)) (k : Nat) (r : Raw), scanK l = (d ++ [(k, r)], none) → k < l.length ∧ scanK (l.take k) = (d, none) ∧ scanK (l.drop k) = ([(0, r)], none) := by
  induction l using scan_ind with
  | h0 => intro d k r h; simp [scanK_nil] at h
  | h1 c q ih =>
    intro d k r h
    have step : ∀ (n : Nat), 1 ≤ n → n ≤ q.length + 1 → ∀ (d0 : List (Nat × Raw)), ResK.shift n (scanK (q.drop (n - 1))) = (d0 ++ [(k, r)], none) →
        ∃ d', d'.map (fun x => (x.1 + n, x.2)) = d0 ∧ n ≤ k ∧ k < q.length + 1 ∧ scanK ((q.drop (n - 1)).take (k - n)) = (d', none) ∧ scanK ((c :: q).drop k) = ([(0, r)], none) := by
      intro n hn1 hn2 d0 hs
      obtain ⟨hx, hm⟩ := shift_eq hs
      rcases snoc_or (scanK (q.drop (n - 1))).1 with h0 | ⟨d', ⟨k', r'⟩, h0⟩
      · rw [h0] at hm; simp at hm
      · rw [h0, List.map_append, List.map_cons, List.map_nil] at hm
        obtain ⟨g1, g2⟩ := List.append_inj' hm rfl
        simp only [List.cons.injEq, Prod.mk.injEq, and_true] at g2
        obtain ⟨gk, rfl⟩ := g2
        obtain ⟨f1, f2, f3⟩ := ih (n - 1) d' k' r' (by rw [← h0, ← hx])
        rw [List.length_drop] at f1
        refine ⟨d', g1, by omega, by omega, by rw [show k - n = k' from by omega]; exact f2, ?_⟩
        rw [show k = (n - 1 + k') + 1 from by omega, List.drop_succ_cons, ← List.drop_drop]
        exact f3
    rw [scanK_cons] at h
    by_cases hw : wsB c = true
    · rw [if_pos hw] at h
      obtain ⟨d', h1, h2, h3, h4, h5⟩ := step 1 (by omega) (by omega) d (by simpa using h)
      refine ⟨h3, ?_, h5⟩
      rw [show k = (k - 1) + 1 from by omega, List.take_succ_cons, scanK_cons, if_pos hw]
      simp at h4
      rw [h4, ← h1]; rfl
    · rw [if_neg hw] at h
      by_cases h35 : c.toNat = 35
      · rw [if_pos h35] at h
        have hcl := cmtLen_le q
        obtain ⟨d', h1, h2, h3, h4, h5⟩ := step (1 + cmtLen q) (by omega) (by omega) d (by rw [show 1 + cmtLen q - 1 = cmtLen q from by omega]; exact h)
        refine ⟨h3, ?_, h5⟩
        rw [show 1 + cmtLen q - 1 = cmtLen q from by omega] at h4
        rw [show k = (k - 1) + 1 from by omega, List.take_succ_cons, scanK_cons, if_neg hw, if_pos h35, cmt_take (by omega), List.drop_take, show k - 1 - cmtLen q = k - (1 + cmtLen q) from by omega, h4, ← h1]
        rfl
      · rw [if_neg h35] at h
        by_cases he : (lexOne (c :: q)).2.2 = 0
        · rw [if_pos he] at h
          obtain ⟨n1, n2⟩ := lexOne_len _ he
          simp only [List.length_cons] at n2
          cases d with
          | nil =>
            simp only [ResK.cons, List.nil_append, Prod.mk.injEq, List.cons.injEq] at h
            obtain ⟨⟨⟨hk, hr⟩, hrest⟩, hnone⟩ := h
            subst hk hr
            refine ⟨by simp, rfl, ?_⟩
            rw [List.drop_zero, scanK_cons, if_neg hw, if_neg h35, if_pos he]
            simp only [ResK.cons, hrest, hnone]
          | cons x d0 =>
            simp only [ResK.cons, List.cons_append, Prod.mk.injEq, List.cons.injEq] at h
            obtain ⟨⟨hx, hrest⟩, hnone⟩ := h
            obtain ⟨d', h1, h2, h3, h4, h5⟩ := step (lexOne (c :: q)).2.1 n1 n2 d0 (Prod.ext hrest hnone)
            refine ⟨h3, ?_, h5⟩
            have ht : lexOne (c :: q.take (k - 1)) = lexOne (c :: q) := lexOne_take he (by omega)
            rw [show k = (k - 1) + 1 from by omega, List.take_succ_cons, scanK_cons, if_neg hw, if_neg h35, ht, if_pos he, List.drop_take, show k - 1 - ((lexOne (c :: q)).2.1 - 1) = k - (lexOne (c :: q)).2.1 from by omega, h4, ← h1, ← hx]
            rfl
        · rw [if_neg he] at h; simp at h

/-- What the law asks of the text up to 'end', whose tokens are the first i + 1. -/
theorem pos_step {l : List UInt8} {m i : Nat} {d : List (Nat × Raw)} {k : Nat} {r : Raw} (hm : m ≤ l.length) (hl : l.length ≤ 1000) (h : scanK (l.take m) = (d.take (i + 1), none)) (hi : d[i]? = some (k, r)) :
    k < m ∧ scanK (l.take k) = (d.take i, none) ∧ scanRes ((l.take m).drop k) = ([⟨r, 1, 1⟩], 0, 0, 0) := by
  rw [List.take_add_one, hi] at h
  obtain ⟨h1, h2, h3⟩ := scanK_last _ _ _ _ h
  rw [List.length_take] at h1
  rw [List.take_take, Nat.min_eq_left (by omega)] at h2
  refine ⟨by omega, h2, ?_⟩
  rw [scanRes_place (by rw [List.length_drop, List.length_take]; omega), h3]
  rfl
end Go.Proofs.YtmeicjndfblglaaDoor
