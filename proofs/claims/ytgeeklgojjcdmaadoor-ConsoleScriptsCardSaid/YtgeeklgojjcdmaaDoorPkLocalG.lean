/- Merged: ScanK, Local, Offset. -/
import Derived.Test.YtgeeklgojjcdmaaDoorPkScanR
set_option linter.unusedVariables false
set_option linter.unusedSimpArgs false
set_option linter.unusedSectionVars false
namespace Go.Proofs.YtgeeklgojjcdmaaDoor
section
open Go

abbrev ResK := List (Nat × Raw) × Option (Nat × Int)
def ResK.shift (n : Nat) (r : ResK) : ResK := (r.1.map fun x => (x.1 + n, x.2), r.2.map fun x => (x.1 + n, x.2))
def ResK.cons (x : Nat × Raw) (r : ResK) : ResK := (x :: r.1, r.2)
def ResK.pre (d : List (Nat × Raw)) (r : ResK) : ResK := (d ++ r.1, r.2)
def wsB (c : UInt8) : Bool := c.toNat == 10 || c.toNat == 32 || c.toNat == 9 || c.toNat == 13

def scanKF : Nat → List UInt8 → ResK
  | 0, _ => ([], none)
  | _ + 1, [] => ([], none)
  | n + 1, c :: r =>
    if wsB c = true then (scanKF n r).shift 1
    else if c.toNat = 35 then (scanKF n (r.drop (cmtLen r))).shift (1 + cmtLen r)
    else if (lexOne (c :: r)).2.2 = 0 then ResK.cons (0, (lexOne (c :: r)).1) ((scanKF n (r.drop ((lexOne (c :: r)).2.1 - 1))).shift (lexOne (c :: r)).2.1)
    else ([], some (0, (lexOne (c :: r)).2.2))
def scanK (l : List UInt8) : ResK := scanKF l.length l
theorem scanKF_fuel : ∀ (n m : Nat) (l : List UInt8), l.length ≤ n → l.length ≤ m → scanKF n l = scanKF m l
  | 0, m, l, h, _ => by
    have : l = [] := List.eq_nil_of_length_eq_zero (by omega)
    subst this
    cases m <;> rfl
  | n + 1, 0, l, _, h => by
    have : l = [] := List.eq_nil_of_length_eq_zero (by omega)
    subst this; rfl
  | n + 1, m + 1, [], _, _ => rfl
  | n + 1, m + 1, c :: r, h, g => by
    simp only [List.length_cons] at h g
    simp only [scanKF]
    rw [scanKF_fuel n m r (by omega) (by omega), scanKF_fuel n m (r.drop (cmtLen r)) (by rw [List.length_drop]; omega) (by rw [List.length_drop]; omega),
      scanKF_fuel n m (r.drop ((lexOne (c :: r)).2.1 - 1)) (by rw [List.length_drop]; omega) (by rw [List.length_drop]; omega)]
theorem scanK_cons (c : UInt8) (r : List UInt8) : scanK (c :: r) =
    if wsB c = true then (scanK r).shift 1
    else if c.toNat = 35 then (scanK (r.drop (cmtLen r))).shift (1 + cmtLen r)
    else if (lexOne (c :: r)).2.2 = 0 then ResK.cons (0, (lexOne (c :: r)).1) ((scanK (r.drop ((lexOne (c :: r)).2.1 - 1))).shift (lexOne (c :: r)).2.1)
    else ([], some (0, (lexOne (c :: r)).2.2)) := by
  show scanKF (r.length + 1) (c :: r) = _
  simp only [scanKF]
  rw [scanKF_fuel r.length (r.drop (cmtLen r)).length (r.drop (cmtLen r)) (by rw [List.length_drop]; omega) (Nat.le_refl _),
    scanKF_fuel r.length (r.drop ((lexOne (c :: r)).2.1 - 1)).length (r.drop ((lexOne (c :: r)).2.1 - 1)) (by rw [List.length_drop]; omega) (Nat.le_refl _)]
  rfl
theorem cmtLen_le (l : List UInt8) : cmtLen l ≤ l.length := takeWhile_le _ _

/-- An induction for what is proved of scanning: by the length of what is left. -/
theorem scan_ind (P : List UInt8 → Prop) (h0 : P []) (h1 : ∀ c r, (∀ k, P (r.drop k)) → P (c :: r)) : ∀ l, P l := by
  have : ∀ n l, l.length ≤ n → P l := by
    intro n
    induction n with
    | zero => intro l hl; have : l = [] := List.eq_nil_of_length_eq_zero (by omega); subst this; exact h0
    | succ n ih =>
      intro l hl
      cases l with
      | nil => exact h0
      | cons c r => exact h1 c r fun k => ih _ (by rw [List.length_drop]; simp at hl; omega)
  exact fun l => this l.length l (Nat.le_refl _)

theorem end_of_ok {l : List UInt8} (h : (lexOne l).2.2 = 0) : (lexOne l).2.1 = endLen l := by
  cases l with
  | nil => exact absurd h (by decide)
  | cons c r =>
    by_cases he : endLen (c :: r) = 0
    · rw [endLen_zero rfl he] at h; exact absurd h (by decide)
    · rcases Bool.eq_false_or_eq_true (letterB c.toNat) with h1 | h1
      · rw [lex_letter rfl h1]
      · rcases Bool.eq_false_or_eq_true (digitB c.toNat) with h2 | h2
        · by_cases h3 : (numeral ((c :: r).take (endLen (c :: r)))).2 = 0
          · rw [lex_num rfl h1 h2 h3]
          · rw [lex_numbad rfl h1 h2 h3] at h; exact absurd h h3
        · by_cases h3 : c.toNat = 34
          · rw [(lex_str rfl h1 h2 h3 (by omega)).1]
          · rw [lex_punct rfl h1 h2 h3 (by omega)]

/-- The tokens at the positions that their offsets have. -/
def place (l : List UInt8) (p : Int × Int) (r : ResK) : Res :=
  (r.1.map fun x => ⟨x.2, (adv (l.take x.1) p).1, (adv (l.take x.1) p).2⟩, r.2.map fun x => ((adv (l.take x.1) p).1, (adv (l.take x.1) p).2, x.2))
theorem place_shift (l : List UInt8) (n : Nat) (p : Int × Int) (r : ResK) : place l p (r.shift n) = place (l.drop n) (adv (l.take n) p) r := by
  have e : ∀ k, adv (l.take (k + n)) p = adv ((l.drop n).take k) (adv (l.take n) p) := by
    intro k
    rw [← adv_append]
    congr 1
    rw [Nat.add_comm, List.take_add]
  unfold place ResK.shift
  simp only [List.map_map, Option.map_map, Prod.mk.injEq]
  constructor
  · apply List.map_congr_left
    intro x _
    simp only [Function.comp, e]
  · congr 1
    funext x
    simp only [Function.comp, e]
theorem adv_cmt {r : List UInt8} {c : UInt8} (hc : ¬ c.toNat = 10) (p : Int × Int) : adv ((c :: r).take (1 + cmtLen r)) p = (p.1, p.2 + 1 + cmtLen r) := by
  rw [Nat.add_comm, List.take_succ_cons, adv, if_neg hc, adv_plain _ _ (cmt_plain r), List.length_take]
  have := cmtLen_le r
  simp only [Prod.mk.injEq, true_and]
  omega
theorem scan_place (l : List UInt8) : ∀ (p : Int × Int), scan l p.1 p.2 = place l p (scanK l) := by
  induction l using scan_ind with
  | h0 => intro p; rfl
  | h1 c r ih =>
    intro p
    rw [scan_cons, scanK_cons]
    by_cases hw : wsB c = true
    · rw [if_pos hw, place_shift]
      have i0 := ih 0
      rw [List.drop_zero] at i0
      show _ = place r (adv [c] p) (scanK r)
      by_cases h10 : c.toNat = 10
      · rw [if_pos h10, ← i0]; simp only [adv, h10, if_true]
      · rw [if_neg h10, if_pos (by simp [wsB] at hw; omega), ← i0]; simp only [adv, h10, if_false]
    · have hn : ¬ c.toNat = 10 ∧ ¬ (c.toNat = 32 ∨ c.toNat = 9 ∨ c.toNat = 13) := by simp [wsB] at hw; omega
      rw [if_neg hw, if_neg hn.1, if_neg hn.2]
      by_cases h35 : c.toNat = 35
      · rw [if_pos h35, if_pos h35, place_shift, adv_cmt hn.1]
        have := ih (cmtLen r) (p.1, p.2 + 1 + cmtLen r)
        rw [this, Nat.add_comm, List.drop_succ_cons]
      · rw [if_neg h35, if_neg h35]
        by_cases he : (lexOne (c :: r)).2.2 = 0
        · rw [if_pos he, if_pos he]
          obtain ⟨n1, n2⟩ := lexOne_len _ he
          have hplain : adv ((c :: r).take (lexOne (c :: r)).2.1) p = (p.1, p.2 + (lexOne (c :: r)).2.1) := by
            rw [adv_plain _ _ (by rw [end_of_ok he]; exact end_plain _), List.length_take]
            simp only [Prod.mk.injEq, true_and]; omega
          have hd : (c :: r).drop (lexOne (c :: r)).2.1 = r.drop ((lexOne (c :: r)).2.1 - 1) := by
            rw [show (lexOne (c :: r)).2.1 = (lexOne (c :: r)).2.1 - 1 + 1 from by omega, List.drop_succ_cons]; rfl
          have hpc : ∀ (x : Nat × Raw) (q : ResK), place (c :: r) p (ResK.cons x q) = Res.pre [⟨x.2, (adv ((c :: r).take x.1) p).1, (adv ((c :: r).take x.1) p).2⟩] (place (c :: r) p q) := fun _ _ => rfl
          rw [hpc, place_shift, hplain, hd]
          have := ih ((lexOne (c :: r)).2.1 - 1) (p.1, p.2 + (lexOne (c :: r)).2.1)
          rw [this]
          rfl
        · rw [if_neg he, if_neg he]
          rfl

end
section
open Go

theorem pre_shift (d : List (Nat × Raw)) (n : Nat) (r : ResK) : ResK.shift n (ResK.pre d r) = ResK.pre (d.map fun x => (x.1 + n, x.2)) (ResK.shift n r) := by simp [ResK.shift, ResK.pre]
theorem shift_shift (m n : Nat) (r : ResK) : ResK.shift n (ResK.shift m r) = ResK.shift (m + n) r := by
  simp only [ResK.shift, List.map_map, Option.map_map, Prod.mk.injEq]
  constructor
  · apply List.map_congr_left; intro x _; simp [Function.comp, Nat.add_assoc]
  · congr 1; funext x; simp [Function.comp, Nat.add_assoc]
end
section
open Go.RowKit

/-- Two blocks of two numbers, behind which the world is as it was. -/
structure Two (w : World) (a b c d : Int) (wr : World) : Prop where
  one : wr.heap[w.heap.size]? = some (.cells #[.int .i64 a, .int .i64 b] 25)
  two : wr.heap[w.heap.size + 1]? = some (.cells #[.int .i64 c, .int .i64 d] 25)
  bel : Below w.heap.size w wr
section
variable {w wr : World} {a b c d : Int}
theorem Two.cells (h : Two w a b c d wr) : wr.cell? ⟨w.heap.size, 0, none⟩ = some (.int .i64 a) ∧ wr.cell? ⟨w.heap.size, 1, none⟩ = some (.int .i64 b) ∧
    wr.cell? ⟨w.heap.size + 1, 0, none⟩ = some (.int .i64 c) ∧ wr.cell? ⟨w.heap.size + 1, 1, none⟩ = some (.int .i64 d) ∧
    wr.frozen? ⟨w.heap.size + 1, 0, none⟩ = false ∧ wr.frozen? ⟨w.heap.size + 1, 1, none⟩ = false ∧ wr.frozen? ⟨w.heap.size, 0, none⟩ = false ∧ wr.frozen? ⟨w.heap.size, 1, none⟩ = false :=
  ⟨by simp [World.cell?, h.one], by simp [World.cell?, h.one], by simp [World.cell?, h.two], by simp [World.cell?, h.two], by simp [World.frozen?, h.two], by simp [World.frozen?, h.two], by simp [World.frozen?, h.one], by simp [World.frozen?, h.one]⟩
theorem Two.setD (h : Two w a b c d wr) (x : Int) : Two w a b c x (wr.setCell ⟨w.heap.size + 1, 1, none⟩ (.int .i64 x)) :=
  ⟨by rw [Below.heap_setCell _ _ _ _ (Nat.ne_of_lt (Nat.lt_succ_self _))]; exact h.one, by rw [heap_setCell_at _ _ _ _ _ _ h.two]; rfl, h.bel.setCell (Nat.le_succ _) _⟩
theorem Two.setC (h : Two w a b c d wr) (x : Int) : Two w a b x d (wr.setCell ⟨w.heap.size + 1, 0, none⟩ (.int .i64 x)) :=
  ⟨by rw [Below.heap_setCell _ _ _ _ (Nat.ne_of_lt (Nat.lt_succ_self _))]; exact h.one, by rw [heap_setCell_at _ _ _ _ _ _ h.two]; rfl, h.bel.setCell (Nat.le_succ _) _⟩
theorem Two.start (w : World) (a b c d : Int) : Two w a b c d ((w.alloc (.cells #[.int .i64 a, .int .i64 b] 25)).alloc (.cells #[.int .i64 c, .int .i64 d] 25)) :=
  ⟨by rw [Below.heap_alloc _ _ _ (by simp)]; exact heap_alloc_new w _, by have h := heap_alloc_new (w.alloc (.cells #[.int .i64 a, .int .i64 b] 25)) (.cells #[.int .i64 c, .int .i64 d] 25); rw [show (w.alloc (.cells #[.int .i64 a, .int .i64 b] 25)).heap.size = w.heap.size + 1 from by simp] at h; exact h,
    ((Below.refl _ _).alloc (Nat.le_refl _) _).alloc (by simp) _⟩
end
theorem adv_snoc {s : ByteArray} {j : Nat} (h : j < s.size) {l c : Int} (he : adv (s.data.toList.take j) (1, 1) = (l, c)) : adv (s.data.toList.take (j + 1)) (1, 1) = if s[j].toNat = 10 then (l + 1, 1) else (l, c + 1) := by
  rw [take_snoc s j h, adv_append, he]; rfl
theorem adv_bd (s : ByteArray) : ∀ (j : Nat), j ≤ s.size → 1 ≤ (adv (s.data.toList.take j) (1, 1)).1 ∧ (adv (s.data.toList.take j) (1, 1)).1 ≤ j + 1 ∧ 1 ≤ (adv (s.data.toList.take j) (1, 1)).2 ∧ (adv (s.data.toList.take j) (1, 1)).2 ≤ j + 1
  | 0, _ => by simp [adv]
  | j + 1, h => by
    have ih := adv_bd s j (by omega)
    rw [adv_snoc (s := s) (j := j) (by omega) rfl]
    split <;> simp only <;> omega

set_option maxHeartbeats 1000000 in
theorem At_any (s : ByteArray) (k : Nat) (w : World) (hs : s.size ≤ 65536) (hk : k ≤ s.size) {a b : Int} (hp : Hid (adv (s.data.toList.take k) (1, 1) = (a, b))) :
    Calls Tryd.prog 45 #[.string s, .int .i64 k] w fun e w' => e = .returned (.agg #[.int .i64 a, .int .i64 b]) ∧ Below w.heap.size w w' := by
  go_enter Tryd.func45, Tryd.ntmps45
  go_wp2_with fail
  go_loopw [6] (fun i wr => ∃ (j : Nat) (l c : Int), j ≤ k ∧ adv (s.data.toList.take j) (1, 1) = (l, c) ∧ i = .int .i64 j ∧ Two w 0 0 l c wr) (fun i _ => k - (intOf i).toNat)
  case atStart => exact ⟨0, 1, 1, Nat.zero_le _, rfl, rfl, Two.start _ _ _ _ _⟩
  case round =>
    obtain ⟨j, l, c, hj, hadv, rfl, htw⟩ := hrel
    obtain ⟨x0, x1, x2, x3, f0, f1, f2, f3⟩ := htw.cells
    have hbd := adv_bd s j (by omega)
    rw [hadv] at hbd
    obtain ⟨q1, q2, q3, q4⟩ := hbd
    simp only at q1 q2 q3 q4
    have HTW := Lib.hid htw
    have HADV := Lib.hid hadv
    clear htw
    by_cases hjk : j < k
    · have hlt : j < s.size := by omega
      have hst := adv_snoc hlt hadv
      have HST := Lib.hid hst
      clear hadv hst
      by_cases h10 : s[j].toNat = 10
      · have b10 : ((s[j].toNat : Int) == 10) = true := beqc (by rw [h10]; rfl)
        have H10 := Lib.hid h10
        clear h10
        go_wp2
        go_roundw
        case rel => exact ⟨j + 1, l + 1, 1, by omega, by rw [HST.out, if_pos H10.out], by go_num, (HTW.out.setD _).setC _ |>.setD _⟩
        case measure => simp [intOf]; omega
      · have b10 : ((s[j].toNat : Int) == 10) = false := beqc (by symm; rw [decide_eq_false_iff_not]; omega)
        go_wp2
        go_roundw
        case rel => exact ⟨j + 1, l, c + 1, by omega, by rw [HST.out, if_neg h10], by go_num, HTW.out.setD _⟩
        case measure => simp [intOf]; omega
    · have he : l = a ∧ c = b := by
        have h1 := hp.out
        rw [show k = j from by omega, hadv] at h1
        exact Prod.mk.inj h1
      obtain ⟨rfl, rfl⟩ := he
      clear hadv
      go_wp2
      refine bodyPost_ret (v := .agg #[.int .i64 l, .int .i64 c]) ?_ rfl ⟨rfl, ?_⟩
      · simp [results, Tryd.results45, go_sem, x0, x1]
      · exact (HTW.out.bel.setCell (Nat.le_refl _) _).setCell (Nat.le_refl _) _
end
end Go.Proofs.YtgeeklgojjcdmaaDoor
