/- Merged: ScanK, Local, Offset. -/
import Derived.Test.YtgeeklgojjcdmaaDoorPkScanR
set_option linter.unusedVariables false
set_option linter.unusedSimpArgs false
set_option linter.unusedSectionVars false
namespace Go.Proofs.YtgeeklgojjcdmaaDoor
section
open Go

abbrev ResK := List (Nat × Raw) × Option (Nat × Int)
def ResK.shift (n : Nat) (r : ResK) : ResK := (r.1.map fun x => (x.1 + n, x.2), r.2.map fun x => (x.1 + n, x.2))
def ResK.cons (x : Nat × Raw) (r : ResK) : ResK := (x :: r.1, r.2)
def ResK.pre (d : List (Nat × Raw)) (r : ResK) : ResK := (d ++ r.1, r.2)
def wsB (c : UInt8) : Bool := c.toNat == 10 || c.toNat == 32 || c.toNat == 9 || c.toNat == 13

def scanKF : Nat → List UInt8 → ResK
  | 0, _ => ([], none)
  | _ + 1, [] => ([], none)
  | n + 1, c :: r =>
    if wsB c = true then (scanKF n r).shift 1
    else if c.toNat = 35 then (scanKF n (r.drop (cmtLen r))).shift (1 + cmtLen r)
    else if (lexOne (c :: r)).2.2 = 0 then ResK.cons (0, (lexOne (c :: r)).1) ((scanKF n (r.drop ((lexOne (c :: r)).2.1 - 1))).shift (lexOne (c :: r)).2.1)
    else ([], some (0, (lexOne (c :: r)).2.2))
def scanK (l : List UInt8) : ResK := scanKF l.length l
theorem scanKF_fuel : ∀ (n m : Nat) (l : List UInt8), l.length ≤ n → l.length ≤ m → scanKF n l = scanKF m l
  | 0, m, l, h, _ => by
    have : l = [] := List.eq_nil_of_length_eq_zero (by omega)
    subst this
    cases m <;> rfl
  | n + 1, 0, l, _, h => by
    have : l = [] := List.eq_nil_of_length_eq_zero (by omega)
    subst this; rfl
  | n + 1, m + 1, [], _, _ => rfl
  | n + 1, m + 1, c :: r, h, g => by
    simp only [List.length_cons] at h g
    simp only [scanKF]
    rw [scanKF_fuel n m r (by omega) (by omega), scanKF_fuel n m (r.drop (cmtLen r)) (by rw [List.length_drop]; omega) (by rw [List.length_drop]; omega),
      scanKF_fuel n m (r.drop ((lexOne (c :: r)).2.1 - 1)) (by rw [List.length_drop]; omega) (by rw [List.length_drop]; omega)]
theorem scanK_nil : scanK [] = ([], none) := rfl
theorem scanK_cons (c : UInt8) (r : List UInt8) : scanK (c :: r) =
    if wsB c = true then (scanK r).shift 1
    else if c.toNat = 35 then (scanK (r.drop (cmtLen r))).shift (1 + cmtLen r)
    else if (lexOne (c :: r)).2.2 = 0 then ResK.cons (0, (lexOne (c :: r)).1) ((scanK (r.drop ((lexOne (c :: r)).2.1 - 1))).shift (lexOne (c :: r)).2.1)
    else ([], some (0, (lexOne (c :: r)).2.2)) := by
  show scanKF (r.length + 1) (c :: r) = _
  simp only [scanKF]
  rw [scanKF_fuel r.length (r.drop (cmtLen r)).length (r.drop (cmtLen r)) (by rw [List.length_drop]; omega) (Nat.le_refl _),
    scanKF_fuel r.length (r.drop ((lexOne (c :: r)).2.1 - 1)).length (r.drop ((lexOne (c :: r)).2.1 - 1)) (by rw [List.length_drop]; omega) (Nat.le_refl _)]
  rfl
theorem cmtLen_le (l : List UInt8) : cmtLen l ≤ l.length := takeWhile_le _ _

/-- An induction for what is proved of scanning: by the length of what is left. -/
theorem scan_ind (P : List UInt8 → Prop) (h0 : P []) (h1 : ∀ c r, (∀ k, P (r.drop k)) → P (c :: r)) : ∀ l, P l := by
  have : ∀ n l, l.length ≤ n → P l := by
    intro n
    induction n with
    | zero => intro l hl; have : l = [] := List.eq_nil_of_length_eq_zero (by omega); subst this; exact h0
    | succ n ih =>
      intro l hl
      cases l with
      | nil => exact h0
      | cons c r => exact h1 c r fun k => ih _ (by rw [List.length_drop]; simp at hl; omega)
  exact fun l => this l.length l (Nat.le_refl _)

theorem end_of_ok {l : List UInt8} (h : (lexOne l).2.2 = 0) : (lexOne l).2.1 = endLen l := by
  cases l with
  | nil => exact absurd h (by decide)
  | cons c r =>
    by_cases he : endLen (c :: r) = 0
    · rw [endLen_zero rfl he] at h; exact absurd h (by decide)
    · rcases Bool.eq_false_or_eq_true (letterB c.toNat) with h1 | h1
      · rw [lex_letter rfl h1]
      · rcases Bool.eq_false_or_eq_true (digitB c.toNat) with h2 | h2
        · by_cases h3 : (numeral ((c :: r).take (endLen (c :: r)))).2 = 0
          · rw [lex_num rfl h1 h2 h3]
          · rw [lex_numbad rfl h1 h2 h3] at h; exact absurd h h3
        · by_cases h3 : c.toNat = 34
          · rw [(lex_str rfl h1 h2 h3 (by omega)).1]
          · rw [lex_punct rfl h1 h2 h3 (by omega)]

/-- The tokens at the positions that their offsets have. -/
def place (l : List UInt8) (p : Int × Int) (r : ResK) : Res :=
  (r.1.map fun x => ⟨x.2, (adv (l.take x.1) p).1, (adv (l.take x.1) p).2⟩, r.2.map fun x => ((adv (l.take x.1) p).1, (adv (l.take x.1) p).2, x.2))
theorem place_shift (l : List UInt8) (n : Nat) (p : Int × Int) (r : ResK) : place l p (r.shift n) = place (l.drop n) (adv (l.take n) p) r := by
  have e : ∀ k, adv (l.take (k + n)) p = adv ((l.drop n).take k) (adv (l.take n) p) := by
    intro k
    rw [← adv_append]
    congr 1
    rw [Nat.add_comm, List.take_add]
  unfold place ResK.shift
  simp only [List.map_map, Option.map_map, Prod.mk.injEq]
  constructor
  · apply List.map_congr_left
    intro x _
    simp only [Function.comp, e]
  · congr 1
    funext x
    simp only [Function.comp, e]
theorem adv_cmt {r : List UInt8} {c : UInt8} (hc : ¬ c.toNat = 10) (p : Int × Int) : adv ((c :: r).take (1 + cmtLen r)) p = (p.1, p.2 + 1 + cmtLen r) := by
  rw [Nat.add_comm, List.take_succ_cons, adv, if_neg hc, adv_plain _ _ (cmt_plain r), List.length_take]
  have := cmtLen_le r
  simp only [Prod.mk.injEq, true_and]
  omega
theorem scan_place (l : List UInt8) : ∀ (p : Int × Int), scan l p.1 p.2 = place l p (scanK l) := by
  induction l using scan_ind with
  | h0 => intro p; rfl
  | h1 c r ih =>
    intro p
    rw [scan_cons, scanK_cons]
    by_cases hw : wsB c = true
    · rw [if_pos hw, place_shift]
      have i0 := ih 0
      rw [List.drop_zero] at i0
      show _ = place r (adv [c] p) (scanK r)
      by_cases h10 : c.toNat = 10
      · rw [if_pos h10, ← i0]; simp only [adv, h10, if_true]
      · rw [if_neg h10, if_pos (by simp [wsB] at hw; omega), ← i0]; simp only [adv, h10, if_false]
    · have hn : ¬ c.toNat = 10 ∧ ¬ (c.toNat = 32 ∨ c.toNat = 9 ∨ c.toNat = 13) := by simp [wsB] at hw; omega
      rw [if_neg hw, if_neg hn.1, if_neg hn.2]
      by_cases h35 : c.toNat = 35
      · rw [if_pos h35, if_pos h35, place_shift, adv_cmt hn.1]
        have := ih (cmtLen r) (p.1, p.2 + 1 + cmtLen r)
        rw [this, Nat.add_comm, List.drop_succ_cons]
      · rw [if_neg h35, if_neg h35]
        by_cases he : (lexOne (c :: r)).2.2 = 0
        · rw [if_pos he, if_pos he]
          obtain ⟨n1, n2⟩ := lexOne_len _ he
          have hplain : adv ((c :: r).take (lexOne (c :: r)).2.1) p = (p.1, p.2 + (lexOne (c :: r)).2.1) := by
            rw [adv_plain _ _ (by rw [end_of_ok he]; exact end_plain _), List.length_take]
            simp only [Prod.mk.injEq, true_and]; omega
          have hd : (c :: r).drop (lexOne (c :: r)).2.1 = r.drop ((lexOne (c :: r)).2.1 - 1) := by
            rw [show (lexOne (c :: r)).2.1 = (lexOne (c :: r)).2.1 - 1 + 1 from by omega, List.drop_succ_cons]; rfl
          have hpc : ∀ (x : Nat × Raw) (q : ResK), place (c :: r) p (ResK.cons x q) = Res.pre [⟨x.2, (adv ((c :: r).take x.1) p).1, (adv ((c :: r).take x.1) p).2⟩] (place (c :: r) p q) := fun _ _ => rfl
          rw [hpc, place_shift, hplain, hd]
          have := ih ((lexOne (c :: r)).2.1 - 1) (p.1, p.2 + (lexOne (c :: r)).2.1)
          rw [this]
          rfl
        · rw [if_neg he, if_neg he]
          rfl

end
section
open Go

theorem tw_app (p : UInt8 → Bool) (x : UInt8) (b : List UInt8) (hx : p x = false) : ∀ (a : List UInt8), (a ++ x :: b).takeWhile p = a.takeWhile p
  | [] => by simp [hx]
  | c :: a => by
    rw [List.cons_append, List.takeWhile_cons, List.takeWhile_cons, tw_app p x b hx a]
theorem punct_cases (c : UInt8) (r : List UInt8) : punctLen (c :: r) = if 1 ≤ r.length ∧ two ((c :: r).take 2) = true then 2 else if 0 ≤ Lib.indexByte marks1 c then 1 else 0 := by
  unfold punctLen
  simp only [List.length_cons]
  by_cases h : 1 ≤ r.length ∧ two ((c :: r).take 2) = true
  · rw [if_pos ⟨by omega, h.2⟩, if_pos h]
  · rw [if_neg (fun g => h ⟨by omega, g.2⟩), if_neg h]
theorem pre_shift (d : List (Nat × Raw)) (n : Nat) (r : ResK) : ResK.shift n (ResK.pre d r) = ResK.pre (d.map fun x => (x.1 + n, x.2)) (ResK.shift n r) := by simp [ResK.shift, ResK.pre]
theorem shift_shift (m n : Nat) (r : ResK) : ResK.shift n (ResK.shift m r) = ResK.shift (m + n) r := by
  simp only [ResK.shift, List.map_map, Option.map_map, Prod.mk.injEq]
  constructor
  · apply List.map_congr_left; intro x _; simp [Function.comp, Nat.add_assoc]
  · congr 1; funext x; simp [Function.comp, Nat.add_assoc]
end
section
open Go.RowKit

/-- Two blocks of two numbers, behind which the world is as it was. -/
structure Two (w : World) (a b c d : Int) (wr : World) : Prop where
  one : wr.heap[w.heap.size]? = some (.cells #[.int .i64 a, .int .i64 b] 25)
  two : wr.heap[w.heap.size + 1]? = some (.cells #[.int .i64 c, .int .i64 d] 25)
  bel : Below w.heap.size w wr
section
variable {w wr : World} {a b c d : Int}
theorem Two.cells (h : Two w a b c d wr) : wr.cell? ⟨w.heap.size, 0, none⟩ = some (.int .i64 a) ∧ wr.cell? ⟨w.heap.size, 1, none⟩ = some (.int .i64 b) ∧
    wr.cell? ⟨w.heap.size + 1, 0, none⟩ = some (.int .i64 c) ∧ wr.cell? ⟨w.heap.size + 1, 1, none⟩ = some (.int .i64 d) ∧
    wr.frozen? ⟨w.heap.size + 1, 0, none⟩ = false ∧ wr.frozen? ⟨w.heap.size + 1, 1, none⟩ = false ∧ wr.frozen? ⟨w.heap.size, 0, none⟩ = false ∧ wr.frozen? ⟨w.heap.size, 1, none⟩ = false :=
  ⟨by simp [World.cell?, h.one], by simp [World.cell?, h.one], by simp [World.cell?, h.two], by simp [World.cell?, h.two], by simp [World.frozen?, h.two], by simp [World.frozen?, h.two], by simp [World.frozen?, h.one], by simp [World.frozen?, h.one]⟩
theorem Two.start (w : World) (a b c d : Int) : Two w a b c d ((w.alloc (.cells #[.int .i64 a, .int .i64 b] 25)).alloc (.cells #[.int .i64 c, .int .i64 d] 25)) :=
  ⟨by rw [Below.heap_alloc _ _ _ (by simp)]; exact heap_alloc_new w _, by have h := heap_alloc_new (w.alloc (.cells #[.int .i64 a, .int .i64 b] 25)) (.cells #[.int .i64 c, .int .i64 d] 25); rw [show (w.alloc (.cells #[.int .i64 a, .int .i64 b] 25)).heap.size = w.heap.size + 1 from by simp] at h; exact h,
    ((Below.refl _ _).alloc (Nat.le_refl _) _).alloc (by simp) _⟩
end
theorem adv_snoc {s : ByteArray} {j : Nat} (h : j < s.size) {l c : Int} (he : adv (s.data.toList.take j) (1, 1) = (l, c)) : adv (s.data.toList.take (j + 1)) (1, 1) = if s[j].toNat = 10 then (l + 1, 1) else (l, c + 1) := by
  rw [take_snoc s j h, adv_append, he]; rfl
theorem adv_bd (s : ByteArray) : ∀ (j : Nat), j ≤ s.size → 1 ≤ (adv (s.data.toList.take j) (1, 1)).1 ∧ (adv (s.data.toList.take j) (1, 1)).1 ≤ j + 1 ∧ 1 ≤ (adv (s.data.toList.take j) (1, 1)).2 ∧ (adv (s.data.toList.take j) (1, 1)).2 ≤ j + 1
  | 0, _ => by simp [adv]
  | j + 1, h => by
    have ih := adv_bd s j (by omega)
    rw [adv_snoc (s := s) (j := j) (by omega) rfl]
    split <;> simp only <;> omega

end
end Go.Proofs.YtgeeklgojjcdmaaDoor
