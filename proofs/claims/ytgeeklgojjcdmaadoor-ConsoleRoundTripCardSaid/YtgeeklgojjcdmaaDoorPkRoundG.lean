/- Merged: SegB. -/
import Derived.Test.YtgeeklgojjcdmaaDoorPkLexP
set_option linter.unusedVariables false
set_option linter.unusedSimpArgs false
set_option linter.unusedSectionVars false
namespace Go.Proofs.YtgeeklgojjcdmaaDoor
section
open Go

/-- A piece that comes to these tokens where the byte behind it is such. -/
def SegB (ok : UInt8 → Bool) (t : List UInt8) (rs : List Raw) : Prop :=
  ∃ D : List (Nat × Raw), D.map (·.2) = rs ∧ ∀ g rest, ok g = true → scanK (t ++ g :: rest) = ResK.pre D (ResK.shift t.length (scanK (g :: rest)))
theorem Seg.toB {ok : UInt8 → Bool} {t : List UInt8} {rs : List Raw} (h : Seg t rs) : SegB ok t rs := by
  obtain ⟨D, e, h⟩ := h
  exact ⟨D, e, fun g rest _ => h (g :: rest)⟩
theorem SegB.mono {ok ok' : UInt8 → Bool} {t : List UInt8} {rs : List Raw} (h : SegB ok t rs) (hi : ∀ g, ok' g = true → ok g = true) : SegB ok' t rs := by
  obtain ⟨D, e, h⟩ := h
  exact ⟨D, e, fun g rest hg => h g rest (hi g hg)⟩
theorem SegB.append {ok1 ok2 : UInt8 → Bool} {a : List UInt8} {ra rb : List Raw} (ha : SegB ok1 a ra) {c : UInt8} {q : List UInt8} (hc : ok1 c = true) (hb : SegB ok2 (c :: q) rb) : SegB ok2 (a ++ c :: q) (ra ++ rb) := by
  obtain ⟨Da, e1, h1⟩ := ha
  obtain ⟨Db, e2, h2⟩ := hb
  refine ⟨Da ++ Db.map (fun x => (x.1 + a.length, x.2)), by simp [e1, ← e2], fun g rest hg => ?_⟩
  rw [List.append_assoc, List.cons_append, h1 c _ hc, ← List.cons_append, h2 g rest hg, pre_shift, shift_shift]
  simp only [ResK.pre, List.append_assoc, Prod.mk.injEq, List.length_append]
  rw [Nat.add_comm a.length]
  exact ⟨rfl, rfl⟩
theorem SegB.append' {ok1 ok2 : UInt8 → Bool} {a b : List UInt8} {ra rb : List Raw} (ha : SegB ok1 a ra) (hb : SegB ok2 b rb) (hc : ∃ c q, b = c :: q ∧ ok1 c = true) : SegB ok2 (a ++ b) (ra ++ rb) := by
  obtain ⟨c, q, rfl, hc⟩ := hc
  exact ha.append hc hb
theorem SegB.nil (ok : UInt8 → Bool) : SegB ok [] [] := Seg.nil.toB
theorem SegB.of {ok : UInt8 → Bool} {c : UInt8} {q : List UInt8} {r : Raw} (hw : wsB c = false) (h35 : ¬ c.toNat = 35) (h : ∀ g rest, ok g = true → lexOne (c :: (q ++ g :: rest)) = (r, q.length + 1, 0)) : SegB ok (c :: q) [r] := by
  refine ⟨[(0, r)], rfl, fun g rest hg => ?_⟩
  have hl := h g rest hg
  rw [List.cons_append, scanK_cons, if_neg (by rw [hw]; decide), if_neg h35, hl, if_pos rfl]
  simp only [Nat.add_sub_cancel, List.drop_left]
  simp only [ResK.pre, ResK.cons, ResK.shift, List.length_cons, List.nil_append, List.cons_append]
def noAl (g : UInt8) : Bool := !alnumB g.toNat
theorem SegB.word {c : UInt8} {q : List UInt8} (hc : letterB c.toNat = true) (h : ∀ x ∈ q, alnumB x.toNat = true) : SegB noAl (c :: q) [⟨1, c :: q, 0⟩] := by
  refine SegB.of (by simp [letterB] at hc; simp [wsB]; omega) (by simp [letterB] at hc; omega) fun g rest hg => ?_
  have hall : ∀ x ∈ c :: q, alnumB x.toNat = true := by
    intro x hx
    rcases List.mem_cons.1 hx with rfl | hx
    · simp [alnumB, hc]
    · exact h x hx
  have hr := run_all hall (g := g) (b := rest) (by simpa [noAl] using hg)
  rw [lexOne_letter hc, show c :: (q ++ g :: rest) = (c :: q) ++ g :: rest from rfl, hr, List.take_left]; rfl
theorem SegB.num {n : Nat} (hn : (n : Int) ≤ most) : SegB noAl (numL 10 n) [⟨2, [], n⟩] := by
  have hall := all10 n
  cases hd : numL 10 n with
  | nil => exact absurd hd (numL_ne (by decide) n)
  | cons c q =>
    have hc := (hall c (by rw [hd]; simp)).1
    have hl : letterB c.toNat = false := by simp [digitB] at hc; simp [letterB]; omega
    refine SegB.of (by simp [digitB] at hc; simp [wsB]; omega) (by simp [digitB] at hc; omega) fun g rest hg => ?_
    have hr := run_all (l := c :: q) (fun x hx => (hall x (by rw [hd]; exact hx)).2.1) (g := g) (b := rest) (by simpa [noAl] using hg)
    have h10 := numeral10 n hn
    have ht : (c :: (q ++ g :: rest)).take (runLen (c :: (q ++ g :: rest))) = numL 10 n := by
      rw [show c :: (q ++ g :: rest) = (c :: q) ++ g :: rest from rfl, hr, List.take_left, hd]
    rw [lexOne_num hl hc (by rw [ht, h10]), ht, h10, show c :: (q ++ g :: rest) = (c :: q) ++ g :: rest from rfl, hr]
    rfl
/-- A mark of one byte. -/
theorem SegB.punct {c : UInt8} (h1 : letterB c.toNat = false) (h2 : digitB c.toNat = false) (h3 : ¬ c.toNat = 34) (h4 : wsB c = false) (h5 : ¬ c.toNat = 35) (h6 : 0 ≤ Lib.indexByte marks1 c) : SegB (fun g => !two [c, g]) [c] [⟨4, [c], 0⟩] := by
  refine SegB.of h4 h5 fun g rest hg => ?_
  have hp : punctLen (c :: ([] ++ g :: rest)) = 1 := by
    rw [punct_cases, if_neg, if_pos h6]
    rintro ⟨_, h⟩
    simp only [List.nil_append, List.take_succ_cons, List.take_zero] at h
    rw [h] at hg; cases hg
  rw [lexOne_punct h1 h2 h3 (by rw [hp]; decide), hp]
  rfl
theorem SegB.ws {ok : UInt8 → Bool} {c : UInt8} (h : wsB c = true) : SegB ok [c] [] := (Seg.ws h).toB
/-- What scanning comes to where the piece ends in white space. -/
theorem SegB.scan {ok : UInt8 → Bool} {t : List UInt8} {rs : List Raw} {g : UInt8} (h : SegB ok t rs) (hg : ok g = true) (hw : wsB g = true) (hl : (t ++ [g]).length ≤ 65536) : ∃ d : List Tok, scanRes (t ++ [g]) = (d, 0, 0, 0) ∧ d.map (·.raw) = rs := by
  obtain ⟨D, e1, h1⟩ := h
  have hs := h1 g [] hg
  have hk : scanK [g] = ([], none) := by rw [scanK_cons, if_pos hw, scanK_nil]; rfl
  rw [hk] at hs
  refine ⟨(place (t ++ [g]) (1, 1) (ResK.pre D (ResK.shift t.length ([], none)))).1, by rw [scanRes_place hl, hs]; rfl, ?_⟩
  simp only [place, ResK.pre, ResK.shift, List.map_nil, List.append_nil, List.map_map, ← e1]
  apply List.map_congr_left; intro y _; rfl
end
end Go.Proofs.YtgeeklgojjcdmaaDoor
