/- LexExact's walk. -/
import Derived.Test.YtmeicjndfblglaaAwake
import Derived.Test.YtmeicjndfblglaaScanR
namespace Go.Proofs.Ytmeicjndfblglaa
open Go.RowKit

theorem scanF_len : ∀ (n : Nat) (l : List UInt8) (a b : Int), (scanF n l a b).1.length ≤ l.length
  | 0, _, _, _ => by simp [scanF]
  | n + 1, [], _, _ => by simp [scanF]
  | n + 1, c :: r, a, b => by
    simp only [scanF, List.length_cons]
    have h := fun (k : Nat) (x y : Int) => scanF_len n (r.drop k) x y
    have h0 := fun (x y : Int) => scanF_len n r x y
    simp only [List.length_drop] at h
    split
    · exact Nat.le_succ_of_le (h0 _ _)
    · split
      · exact Nat.le_succ_of_le (h0 _ _)
      · split
        · have := h (cmtLen r) a (b + 1 + cmtLen r); omega
        · split
          · have := h ((lexOne (c :: r)).2.1 - 1) a (b + (lexOne (c :: r)).2.1)
            simp only [Res.pre, List.length_append, List.length_cons, List.length_nil]; omega
          · simp
theorem scanRes_len (l : List UInt8) : (scanRes l).1.length ≤ 65536 := by
  unfold scanRes
  split
  · simp
  · rename_i h
    have := scanF_len l.length l 1 1
    split
    · rename_i d hs; unfold scan at hs; rw [hs] at this; simp only at this ⊢; omega
    · simp
theorem scanRes_lenL (l : List UInt8) : (scanRes l).1.length ≤ l.length := by
  unfold scanRes
  split
  · simp
  · have := scanF_len l.length l 1 1
    split
    · rename_i d hs; unfold scan at hs; rw [hs] at this; exact this
    · simp
/-- What Scan hands back, as callers use it. -/
theorem scan_post {l : List UInt8} {w w' : World} {e : Ending} {d : List Tok} {a b er : Int} (hr : scanRes l = (d, a, b, er)) (h : ScanPost l w e w') :
    ∃ v, e = .returned (.tuple #[v, .agg #[.int .i64 a, .int .i64 b], .int .i64 er]) ∧ TokSlice w' v d.length d ∧ Below w.heap.size w w' := by
  obtain ⟨v, he, hown, hbel⟩ := h
  have hl := scanRes_len l
  rw [hr] at he hown hl
  exact ⟨v, he, TokSlice.of_own rfl hown hl, hbel⟩

set_option maxHeartbeats 1000000 in
theorem LexExact_any (s : ByteArray) (w : World) (hs : s.size ≤ maxLen) :
    Calls Try.prog 8 #[.string s] w fun e w' => e = .returned (.bool true) ∧ Below w.heap.size w w' := by
  have HS := Lib.hid hs
  unfold maxLen at hs
  by_cases hr : 3000 < s.size ∧ s.size ≤ 65536
  · obtain ⟨h1, h2⟩ := hr
    go_enter Try.func8, Try.ntmps8
    go_wp2_with (go_at_call 10; refine (awake_any _).mono ?_; rintro e w' ⟨rfl, hb⟩)
    go_ret
    exact ⟨rfl, by assumption⟩
  · obtain ⟨d, a, b, er, hres⟩ : ∃ d a b er, scanRes s.data.toList = (d, a, b, er) := ⟨_, _, _, _, rfl⟩
    have HR := Lib.hid hres
    clear hres
    go_enter Try.func8, Try.ntmps8
    go_upto_region 1 with fail
    go_cut [16] (fun s16 wx => s16 = .bool false ∧ w = wx)
    case first =>
      by_cases h1 : 3000 < s.size
      · have h2 : ¬ s.size ≤ 65536 := fun h => hr ⟨h1, h⟩
        clear hr
        go_wp2
        go_meet
        case rel => exact ⟨congrArg Value.bool (by simp; omega), rfl⟩
      · clear hr
        go_wp2
        go_meet
        case rel => exact ⟨rfl, rfl⟩
    case rest =>
      obtain ⟨rfl, rfl⟩ := hcut
      clear hr
      go_wp2_with fail
      refine (ScanP_any s _ HS.out).mono ?_
      intro e w1 hp
      obtain ⟨va, rfl, hta, hb1⟩ := scan_post HR.out hp
      have HTA := Lib.hid hta
      have HB1 := Lib.hid hb1
      have hz1 := hb1.size
      clear hta hb1 hp
      go_wp2_with fail
      refine (ScanR_any s _ HS.out).mono ?_
      intro e w2 hp
      obtain ⟨vb, rfl, htb, hb2⟩ := scan_post HR.out hp
      have hc0 : w2.cell? ⟨w1.heap.size, 0, none⟩ = some (.int .i64 a) := (hb2.cell (by simp)).trans (by simp)
      have hc1 : w2.cell? ⟨w1.heap.size, 1, none⟩ = some (.int .i64 b) := (hb2.cell (by simp)).trans (by simp)
      have hta2 : TokSlice w2 va d.length d := (HTA.out.below ((Below.refl _ _).alloc (Nat.le_refl _) _)).below hb2
      have hz2 : w1.heap.size < w2.heap.size := by have := hb2.size; simp at this; omega
      have hz12 : w.heap.size ≤ w2.heap.size := by omega
      have HTA2 := Lib.hid hta2
      have HTB := Lib.hid htb
      have HB2 := Lib.hid hb2
      clear hta2 htb hb2 hp HTA
      go_wp2_with fail
      refine (same_any _ _ d.length d d false _ (HTA2.out.below ((Below.refl _ _).alloc (Nat.le_refl _) _)) (HTB.out.below ((Below.refl _ _).alloc (Nat.le_refl _) _)) ?_).mono ?_
      · intro i t1 t2 h1 h2
        rw [h1] at h2
        cases h2
        exact ⟨rfl, fun _ => ⟨rfl, rfl⟩⟩
      rintro e w3 ⟨rfl, hb3⟩
      have hq0 : w3.cell? ⟨w1.heap.size, 0, none⟩ = some (.int .i64 a) := (hb3.cell (by simp; omega)).trans ((World.cell?_alloc_past _ _ _ hz2).trans hc0)
      have hq1 : w3.cell? ⟨w1.heap.size, 1, none⟩ = some (.int .i64 b) := (hb3.cell (by simp; omega)).trans ((World.cell?_alloc_past _ _ _ hz2).trans hc1)
      have hq2 : w3.cell? ⟨w2.heap.size, 0, none⟩ = some (.int .i64 a) := (hb3.cell (by simp)).trans (by simp)
      have hq3 : w3.cell? ⟨w2.heap.size, 1, none⟩ = some (.int .i64 b) := (hb3.cell (by simp)).trans (by simp)
      have hz3 := hb3.size
      have HB3 := Lib.hid hb3
      clear hb3 hc0 hc1
      obtain ⟨nb, hnb⟩ : ∃ nb, nb = (wordB s.data.toList && decide (s.size ≤ 24)) := ⟨_, rfl⟩
      have hc1 : ∀ wx, Calls Try.prog 20 #[.string s] wx fun e w' => e = .returned (.bool nb) ∧ wx = w' := by
        intro wx; rw [hnb]; exact IsNameP_any s wx HS.out
      have hc2 : ∀ wx, Calls Try.prog 21 #[.string s] wx fun e w' => e = .returned (.bool nb) ∧ wx = w' := by
        intro wx; rw [hnb]; exact IsNameR_any s wx HS.out
      have HC1 := Lib.hid hc1
      have HC2 := Lib.hid hc2
      clear hc1 hc2 hnb
      go_wp2_with (first | (go_at_call 20; refine (HC1.out _).mono ?_; rintro e w' ⟨rfl, rfl⟩) | (go_at_call 21; refine (HC2.out _).mono ?_; rintro e w' ⟨rfl, rfl⟩) | (go_at_call 10; refine (awake_any _).mono ?_; rintro e w4 ⟨rfl, hb4⟩))
      go_ret
      refine ⟨rfl, ?_⟩
      have hza : w2.heap.size + 1 ≤ w3.heap.size := by simpa using hz3
      have base := ((((HB1.out.alloc hz1 _).trans (HB2.out.mono (B' := w.heap.size) (by simp; omega))).alloc (by omega) (.cells #[.int .i64 a, .int .i64 b] 35)).trans (HB3.out.mono (B' := w.heap.size) (by simp; omega)))
      exact base.trans (Below.mono (B := w3.heap.size) (by assumption) (by omega))
end Go.Proofs.Ytmeicjndfblglaa
