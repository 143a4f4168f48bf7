/- The reference's Scan. -/
import Derived.Test.YtgeeklgojjcdmaaDoorPkMarkG
import Derived.Test.YtgeeklgojjcdmaaDoorPkNumR
set_option linter.unusedVariables false
set_option linter.unusedSimpArgs false
set_option linter.unusedSectionVars false
namespace Go.Proofs.YtgeeklgojjcdmaaDoor
open Go.RowKit

/-- The position behind some bytes. -/
def adv : List UInt8 → Int × Int → Int × Int
  | [], p => p
  | c :: l, p => adv l (if c.toNat = 10 then (p.1 + 1, 1) else (p.1, p.2 + 1))
theorem adv_append (a b : List UInt8) (p : Int × Int) : adv (a ++ b) p = adv b (adv a p) := by
  induction a generalizing p with
  | nil => rfl
  | cons c a ih => simp only [List.cons_append, adv, ih]
theorem adv_plain : ∀ (l : List UInt8) (p : Int × Int), (∀ c ∈ l, ¬ c.toNat = 10) → adv l p = (p.1, p.2 + l.length)
  | [], p, _ => by simp [adv]
  | c :: l, p, h => by
    rw [adv, if_neg (h c (by simp)), adv_plain l _ (fun c hc => h c (by simp [hc]))]
    simp only [List.length_cons, Prod.mk.injEq, true_and]
    omega

/-- What the loop holds of memory: the results' block, the position's block, the tokens. -/
structure RS (w : World) (d : List Tok) (v : Value) (line col : Int) (wr : World) : Prop where
  res : wr.heap[w.heap.size]? = some (.cells #[.int .i64 0, .int .i64 0] 25)
  pos : wr.heap[w.heap.size + 1]? = some (.cells #[.int .i64 line, .int .i64 col] 25)
  own : wr.ownsRow (w.heap.size + 2) 52 5 v d.length (flat d)
  bel : Below w.heap.size w wr

section
variable {w wr : World} {d : List Tok} {v : Value} {line col : Int}
theorem RS.size (h : RS w d v line col wr) : w.heap.size + 2 ≤ wr.heap.size := (Array.getElem?_eq_some_iff.1 h.pos).1
theorem RS.cells (h : RS w d v line col wr) : wr.cell? ⟨w.heap.size + 1, 0, none⟩ = some (.int .i64 line) ∧ wr.cell? ⟨w.heap.size + 1, 1, none⟩ = some (.int .i64 col) ∧
    wr.frozen? ⟨w.heap.size + 1, 0, none⟩ = false ∧ wr.frozen? ⟨w.heap.size + 1, 1, none⟩ = false :=
  ⟨by simp [World.cell?, h.pos], by simp [World.cell?, h.pos], by simp [World.frozen?, h.pos], by simp [World.frozen?, h.pos]⟩
theorem RS.below {w1 : World} (h : RS w d v line col wr) (hb : Below wr.heap.size wr w1) : RS w d v line col w1 := by
  have hz := h.size
  refine ⟨(hb.block _ (by omega)).trans h.res, (hb.block _ (by omega)).trans h.pos, ?_, h.bel.trans (hb.mono (by omega))⟩
  exact h.own.kept (row := none) ⟨hb.os, hb.tape, hb.output, hb.size, fun k hk _ => hb.block k hk⟩ (by cases hv : v.ownBlock <;> simp)
theorem RS.alloc (h : RS w d v line col wr) (o : Obj) : RS w d v line col (wr.alloc o) := h.below ((Below.refl _ _).alloc (Nat.le_refl _) o)
theorem RS.drewN (h : RS w d v line col wr) (n : Nat) : RS w d v line col (wr.drewN n) := h.below (below_drewN (Below.refl _ _) n)
theorem RS.drew (h : RS w d v line col wr) : RS w d v line col wr.drew := h.below (Below.refl _ _).drew
theorem RS.grown {w1 : World} {t : Tok} {v' : Value} (h : RS w d v line col wr) (ho : w1.ownsRow (w.heap.size + 2) 52 5 v' (d.length + 1) (flat d ++ t.cells.toList)) (hg : wr.grownBy w1 v.ownBlock) : RS w (d ++ [t]) v' line col w1 := by
  have hz := h.size
  have hb : ∀ k, k < w.heap.size + 2 → w1.heap[k]? = wr.heap[k]? := fun k hk => hg.block k (by omega) (fun e => by have := (h.own.lt k e.symm).1; omega)
  refine ⟨(hb _ (by omega)).trans h.res, (hb _ (by omega)).trans h.pos, ?_, h.bel.grown hg (by omega) (fun k hk => by have := (h.own.lt k hk).1; omega)⟩
  rw [flat_snoc, List.length_append]; exact ho
end

theorem mem_takeWhile {p : UInt8 → Bool} : ∀ {l : List UInt8} {x : UInt8}, x ∈ l.takeWhile p → p x = true
  | [], _, h => by simp at h
  | c :: l, x, h => by
    rw [List.takeWhile_cons] at h
    split at h
    · rcases List.mem_cons.1 h with rfl | h
      · assumption
      · exact mem_takeWhile h
    · simp at h
theorem take_takeWhile {p : UInt8 → Bool} : ∀ (l : List UInt8), l.take (l.takeWhile p).length = l.takeWhile p
  | [] => rfl
  | c :: l => by
    rw [List.takeWhile_cons]
    split
    · simp [take_takeWhile l]
    · rfl
theorem cmt_plain (l : List UInt8) : ∀ c ∈ l.take (cmtLen l), ¬ c.toNat = 10 := by
  intro c hc
  unfold cmtLen at hc
  rw [take_takeWhile] at hc
  have := mem_takeWhile hc
  simp [notNl] at this
  omega
section
variable {l : List UInt8} {c : UInt8} {r : List UInt8}
theorem endLen_zero (hl : l = c :: r) (h : endLen l = 0) : lexOne l = (Raw.bad, 0, 50) := by
  subst hl
  rcases Bool.eq_false_or_eq_true (alnumB c.toNat) with ha | ha
  · rw [endLen_run ha] at h; have := runLen_pos (c := c) (r := r) ha; omega
  · have h1 : letterB c.toNat = false ∧ digitB c.toNat = false := by simpa [alnumB] using ha
    by_cases h3 : c.toNat = 34
    · by_cases h4 : (r.drop (strLen r)).head? = some 34
      · rw [endLen_str ha h3 h4] at h; omega
      · exact lexOne_strbad h1.1 h1.2 h3 h4
    · rw [endLen_punct ha h3] at h; exact lexOne_bad h1.1 h1.2 h3 h
theorem lex_letter (hl : l = c :: r) (h : letterB c.toNat = true) : lexOne l = (⟨1, l.take (endLen l), 0⟩, endLen l, 0) := by
  subst hl; rw [lexOne_letter h, endLen_run (by simp [alnumB, h])]
theorem lex_num (hl : l = c :: r) (h0 : letterB c.toNat = false) (h : digitB c.toNat = true) (h1 : (numeral (l.take (endLen l))).2 = 0) : lexOne l = (⟨2, [], (numeral (l.take (endLen l))).1⟩, endLen l, 0) := by
  subst hl; rw [endLen_run (by simp [alnumB, h])] at h1 ⊢; exact lexOne_num h0 h h1
theorem lex_numbad (hl : l = c :: r) (h0 : letterB c.toNat = false) (h : digitB c.toNat = true) (h1 : ¬ (numeral (l.take (endLen l))).2 = 0) : lexOne l = (Raw.bad, 0, (numeral (l.take (endLen l))).2) := by
  subst hl; rw [endLen_run (by simp [alnumB, h])] at h1 ⊢; exact lexOne_numbad h0 h h1
theorem lex_str (hl : l = c :: r) (h0 : letterB c.toNat = false) (h : digitB c.toNat = false) (h3 : c.toNat = 34) (hp : 0 < endLen l) : lexOne l = (⟨3, r.take (endLen l - 2), 0⟩, endLen l, 0) ∧ 2 ≤ endLen l := by
  subst hl
  have ha : alnumB c.toNat = false := by simp [alnumB, h0, h]
  by_cases h4 : (r.drop (strLen r)).head? = some 34
  · rw [endLen_str ha h3 h4, lexOne_str h0 h h3 h4]; simp
  · rw [endLen_strbad ha h3 h4] at hp; omega
theorem lex_punct (hl : l = c :: r) (h0 : letterB c.toNat = false) (h : digitB c.toNat = false) (h3 : ¬ c.toNat = 34) (hp : 0 < endLen l) : lexOne l = (⟨4, l.take (endLen l), 0⟩, endLen l, 0) := by
  subst hl
  have ha : alnumB c.toNat = false := by simp [alnumB, h0, h]
  rw [endLen_punct ha h3] at hp ⊢; exact lexOne_punct h0 h h3 (by omega)
theorem run_plain (l : List UInt8) : ∀ c ∈ l.take (runLen l), ¬ c.toNat = 10 := by
  intro c hc h
  unfold runLen at hc
  rw [take_takeWhile] at hc
  have := mem_takeWhile hc
  rw [h] at this
  revert this; decide
theorem str_plain (l : List UInt8) : ∀ c ∈ l.take (strLen l), ¬ c.toNat = 10 := by
  intro c hc h
  unfold strLen at hc
  rw [take_takeWhile] at hc
  have := mem_takeWhile hc
  rw [h] at this
  revert this; decide
theorem marks_plain : ∀ m ∈ marksL, ∀ c ∈ m, ¬ c.toNat = 10 := by decide
theorem punct_plain (l : List UInt8) : ∀ c ∈ l.take (punctLen l), ¬ c.toNat = 10 := by
  rw [← mark_eq]
  unfold markOf
  cases h : marksL.find? (fun m => m.isPrefixOf l) with
  | none => intro c hc; simp at hc
  | some m => exact marks_plain m (List.mem_of_find?_eq_some h)
theorem end_plain (l : List UInt8) : ∀ c ∈ l.take (endLen l), ¬ c.toNat = 10 := by
  cases l with
  | nil => intro c hc; simp at hc
  | cons a r =>
    rcases Bool.eq_false_or_eq_true (alnumB a.toNat) with ha | ha
    · rw [endLen_run ha]; exact run_plain _
    · by_cases h3 : a.toNat = 34
      · by_cases h4 : (r.drop (strLen r)).head? = some 34
        · rw [endLen_str ha h3 h4]
          intro c hc
          have e : (a :: r).take (strLen r + 2) = a :: (r.take (strLen r) ++ [34]) := by
            rw [List.take_succ_cons, List.take_add_one]
            rw [List.head?_drop] at h4
            rw [h4]; rfl
          rw [e] at hc
          simp only [List.mem_cons, List.mem_append, List.not_mem_nil, or_false] at hc
          rcases hc with rfl | hc | rfl
          · omega
          · exact str_plain r c hc
          · decide
        · rw [endLen_strbad ha h3 h4]; intro c hc; simp at hc
      · rw [endLen_punct ha h3]; exact punct_plain _
end
end Go.Proofs.YtgeeklgojjcdmaaDoor
