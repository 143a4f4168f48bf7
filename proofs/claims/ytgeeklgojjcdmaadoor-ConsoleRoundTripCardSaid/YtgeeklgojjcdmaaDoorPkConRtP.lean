/- A script's text, read again: plain. -/
import Derived.Test.YtgeeklgojjcdmaaDoorPkConLineP
import Derived.Test.YtgeeklgojjcdmaaDoorPkLexP
set_option linter.unusedVariables false
set_option linter.unusedSimpArgs false
set_option linter.unusedSectionVars false
namespace Go.Proofs.YtgeeklgojjcdmaaDoor
open Go

theorem tk_of {d : List Tok} {i : Nat} {r : Raw} {rs : List Raw} (h : (d.map (·.raw)).drop i = r :: rs) : tk d i = r ∧ (d.map (·.raw)).drop (i + 1) = rs ∧ i < d.length := by
  have hi : i < (d.map (·.raw)).length := by
    rcases Nat.lt_or_ge i (d.map (·.raw)).length with hi | hi
    · exact hi
    · rw [List.drop_eq_nil_of_le hi] at h; cases h
  rw [List.drop_eq_getElem_cons hi] at h
  rw [List.length_map] at hi
  refine ⟨?_, (List.cons.inj h).2, hi⟩
  have := (List.cons.inj h).1
  unfold tk
  rw [List.getElem?_eq_getElem hi]
  simpa using this
theorem isP_of {d : List Tok} {i : Nat} {c : UInt8} (h : tk d i = cP c) : isP d i [c] = true := by unfold isP; rw [h]; simp [cP]
theorem sNum_of {d : List Tok} {i : Nat} {v : Int} (h : tk d i = cN v) (h1 : v ≤ 2147483647) : sNum d i = .ok v := by
  unfold sNum; rw [h]
  rw [if_neg (by simp [cN]), if_neg (by simp [cN]; omega)]
  rfl
theorem verbOf_at (k : Nat) (h1 : 1 ≤ k) (h8 : k ≤ 8) : verbOf (verbL.getD (k - 1) []) = k := by
  have : k = 1 ∨ k = 2 ∨ k = 3 ∨ k = 4 ∨ k = 5 ∨ k = 6 ∨ k = 7 ∨ k = 8 := by omega
  rcases this with rfl | rfl | rfl | rfl | rfl | rfl | rfl | rfl <;> decide
theorem numOk_no {v : Int} (h : numOk false v = true) : v = 0 := by unfold numOk at h; simpa using h
/-- The numbers behind the word, and the semicolon. -/
theorem sTail_of {d : List Tok} {e : Ev} {j : Nat} {rs : List Raw} (h1 : numOk (evCore e.kind) e.core = true) (h2 : numOk (evNum e.kind) e.n = true)
    (h : (d.map (·.raw)).drop j = (if evCore e.kind = true then [cN e.core] else []) ++ ((if evNum e.kind = true then [cN e.n] else []) ++ (cP 59 :: rs))) :
    ∃ j', sTail d e.kind j = .ok (e, j') ∧ (d.map (·.raw)).drop j' = rs ∧ j' ≤ d.length := by
  have hb1 := numOk_bd h1
  have hb2 := numOk_bd h2
  obtain ⟨k, x, y⟩ := e
  dsimp only at *
  unfold sTail
  cases hc : evCore k <;> cases hn : evNum k <;> rw [hc] at h h1 <;> rw [hn] at h h2
  · simp only [Bool.false_eq_true, if_false, List.nil_append] at h ⊢
    obtain ⟨a1, a2, a3⟩ := tk_of h
    have := numOk_no h1; subst this
    have := numOk_no h2; subst this
    refine ⟨j + 0 + 1, ?_, by simpa using a2, by omega⟩
    rw [if_pos (isP_of (by simpa using a1))]
  · simp only [Bool.false_eq_true, if_false, if_true, List.nil_append, List.cons_append] at h ⊢
    obtain ⟨a1, a2, a3⟩ := tk_of h
    obtain ⟨b1, b2, b3⟩ := tk_of a2
    have := numOk_no h1; subst this
    refine ⟨j + 1 + 1, ?_, b2, by omega⟩
    rw [sNum_of a1 hb2.2]
    dsimp only
    rw [if_pos (isP_of b1)]
  · simp only [Bool.false_eq_true, if_false, if_true, List.nil_append, List.cons_append] at h ⊢
    obtain ⟨a1, a2, a3⟩ := tk_of h
    obtain ⟨b1, b2, b3⟩ := tk_of a2
    have := numOk_no h2; subst this
    refine ⟨j + 1 + 0 + 1, ?_, by simpa using b2, by omega⟩
    rw [sNum_of a1 hb1.2]
    dsimp only
    rw [if_pos (isP_of (by simpa using b1))]
  · simp only [if_true, List.nil_append, List.cons_append] at h ⊢
    obtain ⟨a1, a2, a3⟩ := tk_of h
    obtain ⟨b1, b2, b3⟩ := tk_of a2
    obtain ⟨c1, c2, c3⟩ := tk_of b2
    refine ⟨j + 1 + 1 + 1, ?_, c2, by omega⟩
    rw [sNum_of a1 hb1.2, sNum_of b1 hb2.2]
    dsimp only
    rw [if_pos (isP_of c1)]
theorem sVerb_of {d : List Tok} {e : Ev} {n j : Nat} {c : Int} {rs : List Raw} (hk : 1 ≤ e.kind ∧ e.kind ≤ 8) (h1 : numOk (evCore e.kind) e.core = true) (h2 : numOk (evNum e.kind) e.n = true) (hn : (n : Int) + c ≤ 100000)
    (h : (d.map (·.raw)).drop j = cW (verbL.getD (e.kind - 1) []) :: ((if evCore e.kind = true then [cN e.core] else []) ++ ((if evNum e.kind = true then [cN e.n] else []) ++ (cP 59 :: rs)))) :
    ∃ j', sVerb d n c j = .ok (e, j') ∧ (d.map (·.raw)).drop j' = rs ∧ j' ≤ d.length := by
  obtain ⟨a1, a2, _⟩ := tk_of h
  unfold sVerb
  have hv : verbOf (tk d j).text = e.kind := by rw [a1]; exact verbOf_at _ hk.1 hk.2
  rw [if_pos ⟨by rw [a1]; rfl, by rw [hv]; omega⟩, if_neg (by omega), hv]
  exact sTail_of h1 h2 a2
theorem sItem_of {d : List Tok} {x : RawEv × Nat} {n i : Nat} {rs : List Raw} (hx : RunOk x) (hn : n + x.2 ≤ 100000) (h : (d.map (·.raw)).drop i = evToks x.1.ev x.2 ++ rs) :
    ∃ j, sItem d n i = .ok (x.1.ev, (x.2 : Int), j) ∧ (d.map (·.raw)).drop j = rs ∧ j ≤ d.length := by
  obtain ⟨h1, h2, h3⟩ := hx
  obtain ⟨a, b, c⟩ := rawOk_ev h1
  unfold evToks at h
  unfold sItem
  by_cases hc : 1 < x.2
  · rw [if_pos hc] at h
    simp only [List.cons_append, List.nil_append, List.append_assoc] at h
    obtain ⟨p1, p2, _⟩ := tk_of h
    obtain ⟨q1, q2, _⟩ := tk_of p2
    obtain ⟨j, hj, hd, hl⟩ := sVerb_of (n := n) (c := (x.2 : Int)) a b c (by omega) q2
    have hv : (tk d i).value = (x.2 : Int) := by rw [p1]; rfl
    rw [if_pos (by rw [p1]; rfl), hv, if_neg (by omega), if_pos (isP_of q1), hj]
    exact ⟨j, rfl, hd, hl⟩
  · rw [if_neg hc] at h
    simp only [List.cons_append, List.nil_append, List.append_assoc] at h
    obtain ⟨p1, p2, _⟩ := tk_of h
    obtain ⟨j, hj, hd, hl⟩ := sVerb_of (n := n) (c := 1) a b c (by omega) h
    have h1' : x.2 = 1 := by omega
    rw [if_neg (by rw [p1]; show ¬ (1 : Int) = 2; decide), hj, h1']
    exact ⟨j, rfl, hd, hl⟩
theorem evToks_pos (e : Ev) (c : Nat) : 1 ≤ (evToks e c).length := by unfold evToks; simp; omega
/-- All the lines. -/
theorem sAll_of {d : List Tok} : ∀ (l : List (RawEv × Nat)) (f i : Nat) (out : List Ev), (∀ x ∈ l, RunOk x) → out.length + (runL l).length ≤ 100000 → l.length ≤ f → (d.map (·.raw)).drop i = runK l → i ≤ d.length → sAll d f i out = .ok (out ++ (runL l).map RawEv.ev)
  | [], f, i, out, _, _, _, hd, hi => by
    have : d.length ≤ i := by
      have := congrArg List.length hd
      rw [List.length_drop, List.length_map] at this
      simp [runK] at this
      omega
    cases f with
    | zero => simp [sAll, runL]
    | succ f => simp only [sAll]; rw [if_neg (by omega)]; simp [runL]
  | x :: l, 0, _, _, _, _, hf, _, _ => by simp at hf
  | x :: l, f + 1, i, out, h, hn, hf, hd, hi => by
    have hx := h x (by simp)
    simp only [runL, List.length_append, List.length_replicate] at hn
    obtain ⟨j, hj, hdj, hl⟩ := sItem_of (n := out.length) hx (by omega) hd
    have hlt : i < d.length := by
      have := congrArg List.length hd
      rw [List.length_drop, List.length_map, runK, List.length_append] at this
      have := evToks_pos x.1.ev x.2
      omega
    simp only [sAll]
    rw [if_pos hlt, hj]
    dsimp only
    rw [sAll_of l f j _ (fun y hy => h y (List.mem_cons_of_mem _ hy)) (by rw [List.length_append, List.length_replicate]; simp; omega) (by simpa using hf) hdj hl]
    simp only [runL, List.map_append, List.map_replicate, Int.toNat_natCast, List.append_assoc]
theorem runK_len (l : List (RawEv × Nat)) : l.length ≤ (runK l).length := by
  induction l with
  | nil => exact Nat.le_refl _
  | cons x l ih => have := evToks_pos x.1.ev x.2; simp only [runK, List.length_cons, List.length_append]; omega
/-- The text of runs, read. -/
theorem script_runs {l : List (RawEv × Nat)} (h : ∀ x ∈ l, RunOk x) (hl : (runT l).length ≤ 65536) (hn : (runL l).length ≤ 100000) : script (runT l) = ((runL l).map RawEv.ev, (0, 0), 0) := by
  obtain ⟨d, hs, hd⟩ := runs_scan h hl
  unfold script
  rw [hs]
  dsimp only
  rw [if_neg (by decide), sAll_of l d.length 0 [] h (by simpa using hn) (by
    have := runK_len l
    rw [← hd, List.length_map] at this
    exact this) (by rw [List.drop_zero]; exact hd) (Nat.zero_le _)]
  rfl

/-! ### The runs of a list -/
/-- How often another event begins; p is the one ahead. -/
def chgS (p : Option RawEv) : List RawEv → Nat
  | [] => 0
  | x :: r => (if p = some x then 0 else 1) + chgS (some x) r
theorem chgS_snoc (l : List RawEv) (x : RawEv) : ∀ p, chgS p (l ++ [x]) = chgS p l + (if l.getLast?.or p = some x then 0 else 1) := by
  induction l with
  | nil => intro p; simp only [List.nil_append, chgS, List.getLast?_nil, Option.none_or, Nat.add_zero, Nat.zero_add]; congr
  | cons y l ih =>
    intro p
    simp only [List.cons_append, chgS, ih]
    rw [show ((y :: l).getLast?.or p) = (l.getLast?.or (some y)) from by
      cases l with
      | nil => rfl
      | cons z l => simp [List.getLast?_cons_cons, List.getLast?_cons]]
    omega
theorem chgS_rep (e : RawEv) (m : Nat) (l : List RawEv) : chgS (some e) (List.replicate m e ++ l) = chgS (some e) l := by
  induction m with
  | zero => rfl
  | succ m ih => rw [List.replicate_succ, List.cons_append, chgS, if_pos rfl, Nat.zero_add, ih]
theorem sameR_split (e : RawEv) : ∀ r : List RawEv, r = List.replicate (sameR e r) e ++ r.drop (sameR e r) ∧ (∀ x q, r.drop (sameR e r) = x :: q → ¬ x = e)
  | [] => ⟨rfl, fun x q h => by simp [sameR] at h⟩
  | x :: r => by
    unfold sameR
    by_cases h : x = e
    · rw [if_pos h]
      obtain ⟨h1, h2⟩ := sameR_split e r
      refine ⟨?_, ?_⟩
      · rw [Nat.add_comm 1, List.replicate_succ, List.cons_append, List.drop_succ_cons, ← h1, h]
      · rw [Nat.add_comm 1, List.drop_succ_cons]; exact h2
    · rw [if_neg h]
      exact ⟨rfl, fun y q hq => by rw [List.drop_zero] at hq; cases hq; exact h⟩
theorem chgS_other (e : RawEv) (l : List RawEv) (h : ∀ x q, l = x :: q → ¬ x = e) : chgS (some e) l = chgS none l := by
  cases l with
  | nil => rfl
  | cons x q => simp only [chgS]; rw [if_neg (by simpa using fun he => h x q rfl he.symm), if_neg (by simp)]
/-- The runs of a list that may be written. -/
theorem runs_of : ∀ (f : Nat) (l : List RawEv), l.length ≤ f → l.length ≤ 100000 → (∀ x ∈ l, rawOk x = true) → ∃ rs : List (RawEv × Nat), fmtFromR f l = some (runT rs) ∧ (∀ x ∈ rs, RunOk x) ∧ runL rs = l ∧ rs.length = chgS none l
  | 0, l, h, _, _ => by
    have : l = [] := List.eq_nil_of_length_eq_zero (by omega)
    subst this
    exact ⟨[], rfl, by simp, rfl, rfl⟩
  | f + 1, [], _, _, _ => ⟨[], rfl, by simp, rfl, rfl⟩
  | f + 1, e :: r, h, hn, hok => by
    simp only [List.length_cons] at h hn
    obtain ⟨h1, h2⟩ := sameR_split e r
    have hle := sameR_le e r
    obtain ⟨rs, hf, hr, hL, hc⟩ := runs_of f (r.drop (sameR e r)) (by rw [List.length_drop]; omega) (by rw [List.length_drop]; omega) (fun x hx => hok x (List.mem_cons_of_mem _ (List.mem_of_mem_drop hx)))
    refine ⟨(e, 1 + sameR e r) :: rs, ?_, ?_, ?_, ?_⟩
    · rw [fmtFromR, if_pos (hok e (by simp)), hf]; rfl
    · intro x hx
      rcases List.mem_cons.1 hx with rfl | hx
      · exact ⟨hok e (by simp), by show 1 ≤ 1 + sameR e r; omega, by show 1 + sameR e r ≤ 100000; omega⟩
      · exact hr x hx
    · rw [runL, hL, Nat.add_comm 1, List.replicate_succ, List.cons_append, ← h1]
    · rw [List.length_cons, hc, chgS, if_neg (by simp)]
      conv => rhs; rw [h1]
      rw [chgS_rep, chgS_other e _ h2, Nat.add_comm]
theorem evLine_len {x : RawEv × Nat} (h : RunOk x) : (evLine x.1.ev x.2).length ≤ 75 := by
  obtain ⟨h1, h2, h3⟩ := h
  obtain ⟨_, b, c⟩ := rawOk_ev h1
  have hb := numOk_bd b
  have hc := numOk_bd c
  have n1 : (numL 10 x.2).length ≤ 20 := numL_len10 (by omega)
  have n2 : (numT x.1.ev.core).length ≤ 20 := numL_len10 (by omega)
  have n3 : (numT x.1.ev.n).length ≤ 20 := numL_len10 (by omega)
  have n4 := verb_len (x.1.ev.kind - 1)
  unfold evLine
  simp only [List.length_append]
  have i1 : (if 1 < x.2 then numL 10 x.2 ++ [32, 42, 32] else []).length ≤ 23 := by split <;> simp <;> omega
  have i2 : (if evCore x.1.ev.kind = true then 32 :: numT x.1.ev.core else []).length ≤ 21 := by split <;> simp <;> omega
  have i3 : (if evNum x.1.ev.kind = true then 32 :: numT x.1.ev.n else []).length ≤ 21 := by split <;> simp <;> omega
  simp only [List.length_cons, List.length_nil] at *
  omega
theorem runT_len {l : List (RawEv × Nat)} (h : ∀ x ∈ l, RunOk x) : (runT l).length ≤ 75 * l.length := by
  induction l with
  | nil => exact Nat.le_refl _
  | cons x l ih =>
    have h1 := evLine_len (h x (by simp))
    have h2 := ih fun y hy => h y (List.mem_cons_of_mem _ hy)
    simp only [runT, List.length_append, List.length_cons]
    omega
/-- The text of a list, read again. -/
theorem fmt_read {l : List RawEv} (hok : ∀ x ∈ l, rawOk x = true) (hn : l.length ≤ 100000) (hc : chgS none l ≤ 800) : script (fmtR l) = (l.map RawEv.ev, (0, 0), 0) := by
  obtain ⟨rs, hf, hr, hL, hlen⟩ := runs_of l.length l (Nat.le_refl _) hn hok
  unfold fmtR
  rw [hf]
  show script (runT rs) = _
  rw [script_runs hr (by have := runT_len hr; omega) (by rw [hL]; exact hn), hL]
end Go.Proofs.YtgeeklgojjcdmaaDoor
