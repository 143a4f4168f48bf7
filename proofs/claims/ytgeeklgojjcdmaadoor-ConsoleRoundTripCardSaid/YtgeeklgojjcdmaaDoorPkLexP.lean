/- Merged: LawExact, LawPrefix, PosPlain, NumPlain, TextPlain, LawNumbers, SpacePlain, FormatPlain. -/
import Derived.Test.YtgeeklgojjcdmaaDoorPkSameG
import Derived.Test.YtgeeklgojjcdmaaDoorPkScanR
import Derived.Test.YtgeeklgojjcdmaaDoorPkLocalG
set_option linter.unusedVariables false
set_option linter.unusedSimpArgs false
set_option linter.unusedSectionVars false
namespace Go.Proofs.YtgeeklgojjcdmaaDoor
section
open Go.RowKit

theorem scanF_len : ∀ (n : Nat) (l : List UInt8) (a b : Int), (scanF n l a b).1.length ≤ l.length
  | 0, _, _, _ => by simp [scanF]
  | n + 1, [], _, _ => by simp [scanF]
  | n + 1, c :: r, a, b => by
    simp only [scanF, List.length_cons]
    have h := fun (k : Nat) (x y : Int) => scanF_len n (r.drop k) x y
    have h0 := fun (x y : Int) => scanF_len n r x y
    simp only [List.length_drop] at h
    split
    · exact Nat.le_succ_of_le (h0 _ _)
    · split
      · exact Nat.le_succ_of_le (h0 _ _)
      · split
        · have := h (cmtLen r) a (b + 1 + cmtLen r); omega
        · split
          · have := h ((lexOne (c :: r)).2.1 - 1) a (b + (lexOne (c :: r)).2.1)
            simp only [Res.pre, List.length_append, List.length_cons, List.length_nil]; omega
          · simp
theorem scanRes_len (l : List UInt8) : (scanRes l).1.length ≤ 65536 := by
  unfold scanRes
  split
  · simp
  · rename_i h
    have := scanF_len l.length l 1 1
    split
    · rename_i d hs; unfold scan at hs; rw [hs] at this; simp only at this ⊢; omega
    · simp
theorem scanRes_lenL (l : List UInt8) : (scanRes l).1.length ≤ l.length := by
  unfold scanRes
  split
  · simp
  · have := scanF_len l.length l 1 1
    split
    · rename_i d hs; unfold scan at hs; rw [hs] at this; exact this
    · simp
end
section
open Go.RowKit

theorem scanRes_place {l : List UInt8} (h : l.length ≤ 65536) : scanRes l = match scanK l with
    | (d, none) => ((place l (1, 1) (d, none)).1, 0, 0, 0)
    | (_, some (k, e)) => ([], (adv (l.take k) (1, 1)).1, (adv (l.take k) (1, 1)).2, e) := by
  have hs := scan_place l (1, 1)
  simp only at hs
  cases hk : scanK l with
  | mk d x =>
    rw [hk] at hs
    cases x with
    | none => exact scanRes_ok (by omega) hs
    | some x => obtain ⟨k, e⟩ := x; exact scanRes_err (by omega) hs
end
section
open Go

end
section
open Go

def digC (b n : Nat) : UInt8 := if b = 10 then UInt8.ofNat (48 + n) else (([48, 49, 50, 51, 52, 53, 54, 55, 56, 57, 97, 98, 99, 68, 69, 70] : List UInt8).getD n 0)
/-- The numeral of n in base b (10 or 16). -/
def numL (b : Nat) (n : Nat) : List UInt8 := if _h : n < b ∨ b < 2 then [digC b n] else numL b (n / b) ++ [digC b (n % b)]
  termination_by n
  decreasing_by exact Nat.div_lt_self (by omega) (by omega)
theorem numL_small {b n : Nat} (h : n < b) : numL b n = [digC b n] := by rw [numL, dif_pos (.inl h)]
theorem numL_big {b n : Nat} (h : b ≤ n) (hb : 2 ≤ b) : numL b n = numL b (n / b) ++ [digC b (n % b)] := by rw [numL, dif_neg (by omega)]
theorem digC10 : ∀ n < 10, digV (digC 10 n).toNat 10 = n ∧ alnumB (digC 10 n).toNat = true ∧ digitB (digC 10 n).toNat = true ∧ shiftOf (digC 10 n) = 0 ∧ ((digC 10 n).toNat = 48 → n = 0) := by decide
theorem digC16 : ∀ n < 16, digV (digC 16 n).toNat 16 = n ∧ alnumB (digC 16 n).toNat = true ∧ shiftOf (digC 16 n) = 0 := by decide

/-- An induction on numerals. -/
theorem numL_ind {b : Nat} (hb : 2 ≤ b) (P : Nat → List UInt8 → Prop) (h0 : ∀ n, n < b → P n [digC b n]) (h1 : ∀ n, b ≤ n → P (n / b) (numL b (n / b)) → P n (numL b (n / b) ++ [digC b (n % b)])) : ∀ n, P n (numL b n) := by
  intro n
  induction n using Nat.strongRecOn with
  | ind n ih =>
    by_cases h : n < b
    · rw [numL_small h]; exact h0 n h
    · rw [numL_big (by omega) hb]
      exact h1 n (by omega) (ih (n / b) (Nat.div_lt_self (by omega) (by omega)))
theorem numL_ne {b : Nat} (hb : 2 ≤ b) (n : Nat) : numL b n ≠ [] := by
  by_cases h : n < b
  · rw [numL_small h]; simp
  · rw [numL_big (by omega) hb]; simp
theorem div_mod_cast (n b : Nat) (v : Int) (h : v = ((n / b : Nat) : Int)) : v * b + ((n % b : Nat) : Int) = n := by
  subst h
  have := Nat.div_add_mod n b
  rw [← Int.natCast_mul, ← Int.natCast_add, Nat.mul_comm, this]
theorem numV10 : ∀ n, numV 10 (numL 10 n) = n := by
  refine numL_ind (by decide) (fun n l => numV 10 l = n) ?_ ?_
  · intro n h; simp [numV, (digC10 n h).1]
  · intro n _ ih
    rw [numV_snoc, (digC10 _ (Nat.mod_lt _ (by decide))).1]
    exact div_mod_cast n 10 _ ih
theorem numV16 : ∀ n, numV 16 (numL 16 n) = n := by
  refine numL_ind (by decide) (fun n l => numV 16 l = n) ?_ ?_
  · intro n h; simp [numV, (digC16 n h).1]
  · intro n _ ih
    rw [numV_snoc, (digC16 _ (Nat.mod_lt _ (by decide))).1]
    exact div_mod_cast n 16 _ ih
theorem all10 : ∀ n, ∀ c ∈ numL 10 n, digitB c.toNat = true ∧ alnumB c.toNat = true ∧ 0 ≤ digV c.toNat 10 := by
  refine numL_ind (by decide) (fun n l => ∀ c ∈ l, digitB c.toNat = true ∧ alnumB c.toNat = true ∧ 0 ≤ digV c.toNat 10) ?_ ?_
  · intro n h c hc; simp at hc; subst hc; obtain ⟨a, b, c, _⟩ := digC10 n h; exact ⟨c, b, by omega⟩
  · intro n _ ih c hc
    simp only [List.mem_append, List.mem_singleton] at hc
    rcases hc with hc | rfl
    · exact ih c hc
    · obtain ⟨a, b, c, _⟩ := digC10 _ (Nat.mod_lt n (by decide : 10 > 0)); exact ⟨c, b, by omega⟩
theorem all16 : ∀ n, ∀ c ∈ numL 16 n, alnumB c.toNat = true ∧ 0 ≤ digV c.toNat 16 := by
  refine numL_ind (by decide) (fun n l => ∀ c ∈ l, alnumB c.toNat = true ∧ 0 ≤ digV c.toNat 16) ?_ ?_
  · intro n h c hc; simp at hc; subst hc; obtain ⟨a, b, _⟩ := digC16 n h; exact ⟨b, by omega⟩
  · intro n _ ih c hc
    simp only [List.mem_append, List.mem_singleton] at hc
    rcases hc with hc | rfl
    · exact ih c hc
    · obtain ⟨a, b, _⟩ := digC16 _ (Nat.mod_lt n (by decide : 16 > 0)); exact ⟨b, by omega⟩
/-- No zero ahead, but in the numeral of zero. -/
theorem head10 : ∀ n, ((numL 10 n).head? = some 48 → (numL 10 n).length = 1) := by
  have key : ∀ n, (numL 10 n).head? = some 48 → n = 0 := by
    refine numL_ind (by decide) (fun n l => l.head? = some 48 → n = 0) ?_ ?_
    · intro n h hh
      simp at hh
      exact (digC10 n h).2.2.2.2 (by rw [hh]; rfl)
    · intro n hn ih hh
      have hne := numL_ne (by decide : 2 ≤ 10) (n / 10)
      rw [List.head?_append, List.head?_eq_some_head hne] at hh
      have := ih (by rw [List.head?_eq_some_head hne]; simpa using hh)
      omega
  intro n h
  rw [key n h, numL_small (by decide)]; rfl
theorem last_shift {b : Nat} (hb : b = 10 ∨ b = 16) (n : Nat) : ∃ c, (numL b n).getLast? = some c ∧ shiftOf c = 0 := by
  have h10 := fun m (h : m < 10) => (digC10 m h).2.2.2.1
  have h16 := fun m (h : m < 16) => (digC16 m h).2.2
  by_cases h : n < b
  · rw [numL_small h]
    rcases hb with rfl | rfl
    · exact ⟨_, rfl, h10 n h⟩
    · exact ⟨_, rfl, h16 n h⟩
  · rw [numL_big (by omega) (by omega)]
    rcases hb with rfl | rfl
    · exact ⟨_, by rw [List.getLast?_append]; rfl, h10 _ (Nat.mod_lt _ (by decide))⟩
    · exact ⟨_, by rw [List.getLast?_append]; rfl, h16 _ (Nat.mod_lt _ (by decide))⟩

theorem numL_len {b : Nat} (hb : 2 ≤ b) : ∀ (k n : Nat), n < b ^ (k + 1) → (numL b n).length ≤ k + 1
  | 0, n, h => by rw [numL_small (by simpa using h)]; simp
  | k + 1, n, h => by
    by_cases hs : n < b
    · rw [numL_small hs]; simp
    · rw [numL_big (by omega) hb, List.length_append]
      have h2 : n / b < b ^ (k + 1) := by rw [Nat.div_lt_iff_lt_mul (by omega)]; rw [Nat.pow_succ] at h; exact h
      have := numL_len hb k (n / b) h2
      simp only [List.length_cons, List.length_nil]; omega
theorem numL_len10 {n : Nat} (h : (n : Int) ≤ 18446744073709551615) : (numL 10 n).length ≤ 20 := by
  refine numL_len (by decide) 19 n ?_
  have : (10 : Nat) ^ (19 + 1) = 100000000000000000000 := by decide
  rw [this]; omega
def sufL (k : Nat) : List UInt8 := [[], [75], [77], [71]].getD k []
theorem suf_body {l : List UInt8} {c : UInt8} (hl : l.getLast? = some c) (hc : shiftOf c = 0) {k : Nat} (hk : k < 4) : sufShift (l ++ sufL k) = 10 * k ∧ sufBody (l ++ sufL k) = l := by
  have h4 : k = 0 ∨ k = 1 ∨ k = 2 ∨ k = 3 := by omega
  rcases h4 with rfl | rfl | rfl | rfl
  · have e : l ++ sufL 0 = l := by simp [sufL]
    have hs : sufShift l = 0 := by unfold sufShift; rw [hl]; exact hc
    rw [e]; exact ⟨hs, by unfold sufBody; rw [if_pos hs]⟩
  all_goals
    have hs : ∀ (x : UInt8), sufShift (l ++ [x]) = shiftOf x := fun x => by unfold sufShift; rw [List.getLast?_append]; rfl
    refine ⟨by show sufShift (l ++ [_]) = _; rw [hs]; rfl, ?_⟩
    show sufBody (l ++ [_]) = l
    unfold sufBody
    rw [hs, if_neg (by decide), List.dropLast_concat]

/-- The numeral's text. -/
def numText (hx : Bool) (x : Nat) : List UInt8 := if hx then [48, 120] ++ numL 16 x else numL 10 x
theorem isHex10 (n : Nat) : isHexL (numL 10 n) = false := by
  rw [Bool.eq_false_iff]
  intro h
  have hp := List.isPrefixOf_iff_prefix.1 h
  obtain ⟨r, hr⟩ := hp
  have := (all10 n 120 (by rw [← hr]; simp)).1
  revert this; decide
theorem numeral_text (hx : Bool) (x : Nat) {k : Nat} (hk : k < 4) : numeral (numText hx x ++ sufL k) = if most / 2 ^ (10 * k) < (x : Int) then (0, 6) else ((x : Int) * 2 ^ (10 * k), 0) := by
  cases hx with
  | false =>
    have e : numText false x = numL 10 x := rfl
    rw [e]
    obtain ⟨c, hl, hc⟩ := last_shift (.inl rfl) x
    obtain ⟨h1, h2⟩ := suf_body hl hc hk
    have hb : badDigits (baseOf (sufBody (numL 10 x ++ sufL k))) (digitsOf (sufBody (numL 10 x ++ sufL k))) = false := by
      rw [h2, baseOf_dec (isHex10 x), digitsOf_dec (isHex10 x)]
      refine badDigits_false ?_ (fun c hc => (all10 x c hc).2.2)
      unfold badLead
      have hne := numL_ne (by decide : 2 ≤ 10) x
      have hh := head10 x
      cases hd : numL 10 x with
      | nil => exact absurd hd hne
      | cons a r =>
        rw [hd] at hh
        by_cases ha : a = 48
        · subst ha
          have := hh rfl
          simp only [List.length_cons] at this
          simp only [List.length_cons]
          rw [decide_eq_false (by omega)]; rfl
        · simp [ha]
    have hv : numV (baseOf (sufBody (numL 10 x ++ sufL k))) (digitsOf (sufBody (numL 10 x ++ sufL k))) = x := by
      rw [h2, baseOf_dec (isHex10 x), digitsOf_dec (isHex10 x), numV10]
    unfold numeral
    rw [hb, hv, h1, if_neg (by decide)]
  | true =>
    have e : numText true x = [48, 120] ++ numL 16 x := rfl
    rw [e]
    obtain ⟨c, hl, hc⟩ := last_shift (.inr rfl) x
    have hl' : ([48, 120] ++ numL 16 x).getLast? = some c := by rw [List.getLast?_append, hl]; rfl
    obtain ⟨h1, h2⟩ := suf_body hl' hc hk
    have hhx : isHexL ([48, 120] ++ numL 16 x) = true := rfl
    have hb : badDigits (baseOf (sufBody (([48, 120] ++ numL 16 x) ++ sufL k))) (digitsOf (sufBody (([48, 120] ++ numL 16 x) ++ sufL k))) = false := by
      rw [h2, baseOf_hex hhx, digitsOf_hex hhx]
      refine badDigits_false ?_ (fun c hc => (all16 x c hc).2)
      unfold badLead
      have hne := numL_ne (by decide : 2 ≤ 16) x
      show (numL 16 x == [] || _) = false
      cases hd : numL 16 x with
      | nil => exact absurd hd hne
      | cons a r => rfl
    have hv : numV (baseOf (sufBody (([48, 120] ++ numL 16 x) ++ sufL k))) (digitsOf (sufBody (([48, 120] ++ numL 16 x) ++ sufL k))) = x := by
      rw [h2, baseOf_hex hhx, digitsOf_hex hhx]
      exact numV16 x
    unfold numeral
    rw [hb, hv, h1, if_neg (by decide)]
end
section
open Go

/-- The text of a token and whether it is well formed. -/
def textOf (r : Raw) : List UInt8 × Bool :=
  if ¬ r.kind = 2 ∧ ¬ r.value = 0 then ([], false)
  else if r.kind = 1 then (r.text, wordB r.text)
  else if r.kind = 2 then (numL 10 r.value.toNat, decide (r.text = []))
  else if r.kind = 3 then ([34] ++ r.text ++ [34], r.text.all fun c => plainB c.toNat)
  else if r.kind = 4 then (r.text, decide (¬ r.text = []) && decide (markOf r.text = r.text))
  else ([], false)

theorem run_all {l : List UInt8} (h : ∀ c ∈ l, alnumB c.toNat = true) {g : UInt8} {b : List UInt8} (hg : alnumB g.toNat = false) : runLen (l ++ g :: b) = l.length := by
  unfold runLen
  rw [tw_app _ _ _ hg]
  exact (all_iff_run l).1 (List.all_eq_true.2 h)
theorem numeral10 (n : Nat) (h : (n : Int) ≤ most) : numeral (numL 10 n) = ((n : Int), 0) := by
  have h1 := numeral_text false n (k := 0) (by decide)
  have e : numText false n ++ sufL 0 = numL 10 n := by show numL 10 n ++ [] = _; simp
  rw [e, if_neg (by rw [show 2 ^ (10 * 0) = (2 : Int) ^ 0 from rfl, most_0]; unfold most at h; omega)] at h1
  rw [h1]
  simp
/-- A piece of text that comes to these tokens, whatever stands behind it. -/
def Seg (t : List UInt8) (rs : List Raw) : Prop := ∃ D : List (Nat × Raw), D.map (·.2) = rs ∧ ∀ rest, scanK (t ++ rest) = ResK.pre D (ResK.shift t.length (scanK rest))
theorem shift_zero (r : ResK) : ResK.shift 0 r = r := by
  obtain ⟨a, b⟩ := r
  simp only [ResK.shift, Nat.add_zero, Prod.mk.injEq]
  exact ⟨List.map_id' a, by cases b <;> rfl⟩
theorem Seg.nil : Seg [] [] := ⟨[], rfl, fun rest => by simp [shift_zero, ResK.pre]⟩
theorem Seg.append {a b : List UInt8} {ra rb : List Raw} (ha : Seg a ra) (hb : Seg b rb) : Seg (a ++ b) (ra ++ rb) := by
  obtain ⟨Da, e1, h1⟩ := ha
  obtain ⟨Db, e2, h2⟩ := hb
  refine ⟨Da ++ Db.map (fun x => (x.1 + a.length, x.2)), by simp [e1, ← e2], fun rest => ?_⟩
  rw [List.append_assoc, h1, h2, pre_shift, shift_shift]
  simp only [ResK.pre, List.append_assoc, Prod.mk.injEq, List.length_append]
  rw [Nat.add_comm a.length]
  exact ⟨rfl, rfl⟩
theorem Seg.ws {c : UInt8} (h : wsB c = true) : Seg [c] [] := ⟨[], rfl, fun rest => by
  show scanK (c :: rest) = _
  rw [scanK_cons, if_pos h]; rfl⟩
/-- What scanning a whole piece comes to, with something tokenless behind it. -/
theorem Seg.scan {t e : List UInt8} {rs : List Raw} (h : Seg t rs) (he : scanK e = ([], none)) (hl : (t ++ e).length ≤ 65536) : ∃ d : List Tok, scanRes (t ++ e) = (d, 0, 0, 0) ∧ d.map (·.raw) = rs := by
  obtain ⟨D, e1, h1⟩ := h
  have hs := h1 e
  rw [he] at hs
  refine ⟨_, by rw [scanRes_place hl, hs]; rfl, ?_⟩
  simp only [place, ResK.shift, List.map_nil, List.append_nil, List.map_map, ← e1]
  apply List.map_congr_left; intro y _; rfl
end
section
open Go.RowKit

end
section
open Go

end
section
open Go

/-- The text of the first k tokens, a space between each two. -/
def joinK (rs : List Raw) : Nat → List UInt8
  | 0 => []
  | k + 1 => joinK rs k ++ (if k = 0 then [] else [32]) ++ (textOf (rs.getD k ⟨0, [], 0⟩)).1
end
end Go.Proofs.YtgeeklgojjcdmaaDoor
