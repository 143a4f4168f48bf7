/- The law's own 'offset', the reference's 'At'. -/
import Derived.Test.YtmeicjndfblglaaLocal
namespace Go.Proofs.Ytmeicjndfblglaa
open Go.RowKit

/-- Two blocks of two numbers, behind which the world is as it was. -/
structure Two (w : World) (a b c d : Int) (wr : World) : Prop where
  one : wr.heap[w.heap.size]? = some (.cells #[.int .i64 a, .int .i64 b] 35)
  two : wr.heap[w.heap.size + 1]? = some (.cells #[.int .i64 c, .int .i64 d] 35)
  bel : Below w.heap.size w wr
section
variable {w wr : World} {a b c d : Int}
theorem Two.cells (h : Two w a b c d wr) : wr.cell? ⟨w.heap.size, 0, none⟩ = some (.int .i64 a) ∧ wr.cell? ⟨w.heap.size, 1, none⟩ = some (.int .i64 b) ∧
    wr.cell? ⟨w.heap.size + 1, 0, none⟩ = some (.int .i64 c) ∧ wr.cell? ⟨w.heap.size + 1, 1, none⟩ = some (.int .i64 d) ∧
    wr.frozen? ⟨w.heap.size + 1, 0, none⟩ = false ∧ wr.frozen? ⟨w.heap.size + 1, 1, none⟩ = false ∧ wr.frozen? ⟨w.heap.size, 0, none⟩ = false ∧ wr.frozen? ⟨w.heap.size, 1, none⟩ = false :=
  ⟨by simp [World.cell?, h.one], by simp [World.cell?, h.one], by simp [World.cell?, h.two], by simp [World.cell?, h.two], by simp [World.frozen?, h.two], by simp [World.frozen?, h.two], by simp [World.frozen?, h.one], by simp [World.frozen?, h.one]⟩
theorem Two.setD (h : Two w a b c d wr) (x : Int) : Two w a b c x (wr.setCell ⟨w.heap.size + 1, 1, none⟩ (.int .i64 x)) :=
  ⟨by rw [Below.heap_setCell _ _ _ _ (Nat.ne_of_lt (Nat.lt_succ_self _))]; exact h.one, by rw [heap_setCell_at _ _ _ _ _ _ h.two]; rfl, h.bel.setCell (Nat.le_succ _) _⟩
theorem Two.setC (h : Two w a b c d wr) (x : Int) : Two w a b x d (wr.setCell ⟨w.heap.size + 1, 0, none⟩ (.int .i64 x)) :=
  ⟨by rw [Below.heap_setCell _ _ _ _ (Nat.ne_of_lt (Nat.lt_succ_self _))]; exact h.one, by rw [heap_setCell_at _ _ _ _ _ _ h.two]; rfl, h.bel.setCell (Nat.le_succ _) _⟩
theorem Two.start (w : World) (a b c d : Int) : Two w a b c d ((w.alloc (.cells #[.int .i64 a, .int .i64 b] 35)).alloc (.cells #[.int .i64 c, .int .i64 d] 35)) :=
  ⟨by rw [Below.heap_alloc _ _ _ (by simp)]; exact heap_alloc_new w _, by have h := heap_alloc_new (w.alloc (.cells #[.int .i64 a, .int .i64 b] 35)) (.cells #[.int .i64 c, .int .i64 d] 35); rw [show (w.alloc (.cells #[.int .i64 a, .int .i64 b] 35)).heap.size = w.heap.size + 1 from by simp] at h; exact h,
    ((Below.refl _ _).alloc (Nat.le_refl _) _).alloc (by simp) _⟩
end
theorem adv_snoc {s : ByteArray} {j : Nat} (h : j < s.size) {l c : Int} (he : adv (s.data.toList.take j) (1, 1) = (l, c)) : adv (s.data.toList.take (j + 1)) (1, 1) = if s[j].toNat = 10 then (l + 1, 1) else (l, c + 1) := by
  rw [take_snoc s j h, adv_append, he]; rfl
theorem adv_bd (s : ByteArray) : ∀ (j : Nat), j ≤ s.size → 1 ≤ (adv (s.data.toList.take j) (1, 1)).1 ∧ (adv (s.data.toList.take j) (1, 1)).1 ≤ j + 1 ∧ 1 ≤ (adv (s.data.toList.take j) (1, 1)).2 ∧ (adv (s.data.toList.take j) (1, 1)).2 ≤ j + 1
  | 0, _ => by simp [adv]
  | j + 1, h => by
    have ih := adv_bd s j (by omega)
    rw [adv_snoc (s := s) (j := j) (by omega) rfl]
    split <;> simp only <;> omega

set_option maxHeartbeats 1000000 in
theorem offset_any (s : ByteArray) (a b : Int) (k : Nat) (w : World) (hs : s.size ≤ 65536) (hk : k ≤ s.size) (hp : Hid (adv (s.data.toList.take k) (1, 1) = (a, b))) :
    Calls Try.prog 15 #[.string s, .agg #[.int .i64 a, .int .i64 b]] w fun e w' => e = .returned (.int .i64 k) ∧ Below w.heap.size w w' := by
  go_enter Try.func15, Try.ntmps15
  go_wp2_with fail
  go_loopw [6] (fun i wr => ∃ (j : Nat) (l c : Int), j ≤ k ∧ adv (s.data.toList.take j) (1, 1) = (l, c) ∧ i = .int .i64 j ∧ Two w a b l c wr) (fun i _ => k - (intOf i).toNat)
  case atStart => exact ⟨0, 1, 1, Nat.zero_le _, rfl, rfl, Two.start _ _ _ _ _⟩
  case round =>
    obtain ⟨j, l, c, hj, hadv, rfl, htw⟩ := hrel
    obtain ⟨x0, x1, x2, x3, f0, f1, _, _⟩ := htw.cells
    have hbd := adv_bd s j (by omega)
    rw [hadv] at hbd
    obtain ⟨q1, q2, q3, q4⟩ := hbd
    simp only at q1 q2 q3 q4
    have HTW := Lib.hid htw
    have HADV := Lib.hid hadv
    clear htw
    by_cases hjk : j = k
    · have he : l = a ∧ c = b := by
        have h1 := hp.out
        rw [← hjk, hadv] at h1
        exact Prod.mk.inj h1
      obtain ⟨rfl, rfl⟩ := he
      have hjk' : (j : Int) ≤ s.size := by omega
      have HJK := Lib.hid hjk
      clear hadv hjk
      go_wp2
      go_ret
      exact ⟨ret_int (by rw [HJK.out]), HTW.out.bel⟩
    · have hne : ¬ (l = a ∧ c = b) := by
        rintro ⟨rfl, rfl⟩
        exact hjk (adv_inj (l := s.data.toList) (by rw [data_len]; omega) (by rw [data_len]; omega) (hadv.trans hp.out.symm))
      have hlt : j < s.size := by omega
      have hst := adv_snoc hlt hadv
      have HST := Lib.hid hst
      clear hadv hst
      by_cases hl : l = a
      · have hcb : ¬ c = b := fun h => hne ⟨hl, h⟩
        have e1 : (l == a) = true := by rw [beq_iff_eq]; exact hl
        have e2 : (c == b) = false := by rw [beq_eq_false_iff_ne]; exact hcb
        clear hne hl
        by_cases h10 : s[j].toNat = 10
        · have b10 : ((s[j].toNat : Int) == 10) = true := beqc (by rw [h10]; rfl)
          have H10 := Lib.hid h10
          clear h10
          go_wp2
          go_roundw
          case rel => exact ⟨j + 1, l + 1, 1, by omega, by rw [HST.out, if_pos H10.out], by go_num, (HTW.out.setD _).setC _ |>.setD _⟩
          case measure => simp [intOf]; omega
        · have b10 : ((s[j].toNat : Int) == 10) = false := beqc (by symm; rw [decide_eq_false_iff_not]; omega)
          go_wp2
          go_roundw
          case rel => exact ⟨j + 1, l, c + 1, by omega, by rw [HST.out, if_neg h10], by go_num, HTW.out.setD _⟩
          case measure => simp [intOf]; omega
      · have e1 : (l == a) = false := by rw [beq_eq_false_iff_ne]; exact hl
        clear hne
        by_cases h10 : s[j].toNat = 10
        · have b10 : ((s[j].toNat : Int) == 10) = true := beqc (by rw [h10]; rfl)
          have H10 := Lib.hid h10
          clear h10
          go_wp2
          go_roundw
          case rel => exact ⟨j + 1, l + 1, 1, by omega, by rw [HST.out, if_pos H10.out], by go_num, (HTW.out.setD _).setC _ |>.setD _⟩
          case measure => simp [intOf]; omega
        · have b10 : ((s[j].toNat : Int) == 10) = false := beqc (by symm; rw [decide_eq_false_iff_not]; omega)
          go_wp2
          go_roundw
          case rel => exact ⟨j + 1, l, c + 1, by omega, by rw [HST.out, if_neg h10], by go_num, HTW.out.setD _⟩
          case measure => simp [intOf]; omega

set_option maxHeartbeats 1000000 in
theorem At_any (s : ByteArray) (k : Nat) (w : World) (hs : s.size ≤ 65536) (hk : k ≤ s.size) {a b : Int} (hp : Hid (adv (s.data.toList.take k) (1, 1) = (a, b))) :
    Calls Try.prog 16 #[.string s, .int .i64 k] w fun e w' => e = .returned (.agg #[.int .i64 a, .int .i64 b]) ∧ Below w.heap.size w w' := by
  go_enter Try.func16, Try.ntmps16
  go_wp2_with fail
  go_loopw [6] (fun i wr => ∃ (j : Nat) (l c : Int), j ≤ k ∧ adv (s.data.toList.take j) (1, 1) = (l, c) ∧ i = .int .i64 j ∧ Two w 0 0 l c wr) (fun i _ => k - (intOf i).toNat)
  case atStart => exact ⟨0, 1, 1, Nat.zero_le _, rfl, rfl, Two.start _ _ _ _ _⟩
  case round =>
    obtain ⟨j, l, c, hj, hadv, rfl, htw⟩ := hrel
    obtain ⟨x0, x1, x2, x3, f0, f1, f2, f3⟩ := htw.cells
    have hbd := adv_bd s j (by omega)
    rw [hadv] at hbd
    obtain ⟨q1, q2, q3, q4⟩ := hbd
    simp only at q1 q2 q3 q4
    have HTW := Lib.hid htw
    have HADV := Lib.hid hadv
    clear htw
    by_cases hjk : j < k
    · have hlt : j < s.size := by omega
      have hst := adv_snoc hlt hadv
      have HST := Lib.hid hst
      clear hadv hst
      by_cases h10 : s[j].toNat = 10
      · have b10 : ((s[j].toNat : Int) == 10) = true := beqc (by rw [h10]; rfl)
        have H10 := Lib.hid h10
        clear h10
        go_wp2
        go_roundw
        case rel => exact ⟨j + 1, l + 1, 1, by omega, by rw [HST.out, if_pos H10.out], by go_num, (HTW.out.setD _).setC _ |>.setD _⟩
        case measure => simp [intOf]; omega
      · have b10 : ((s[j].toNat : Int) == 10) = false := beqc (by symm; rw [decide_eq_false_iff_not]; omega)
        go_wp2
        go_roundw
        case rel => exact ⟨j + 1, l, c + 1, by omega, by rw [HST.out, if_neg h10], by go_num, HTW.out.setD _⟩
        case measure => simp [intOf]; omega
    · have he : l = a ∧ c = b := by
        have h1 := hp.out
        rw [show k = j from by omega, hadv] at h1
        exact Prod.mk.inj h1
      obtain ⟨rfl, rfl⟩ := he
      clear hadv
      go_wp2
      refine bodyPost_ret (v := .agg #[.int .i64 l, .int .i64 c]) ?_ rfl ⟨rfl, ?_⟩
      · simp [results, Try.results16, go_sem, x0, x1]
      · exact (HTW.out.bel.setCell (Nat.le_refl _) _).setCell (Nat.le_refl _) _
end Go.Proofs.Ytmeicjndfblglaa
