/- LexExact's walk. -/
import Derived.Test.YtmeicjndfblglaaDoorAwake
import Derived.Test.YtmeicjndfblglaaDoorScanR
set_option linter.unusedVariables false
set_option linter.unusedSimpArgs false
set_option linter.unusedSectionVars false
namespace Go.Proofs.YtmeicjndfblglaaDoor
open Go.RowKit

theorem scanF_len : ∀ (n : Nat) (l : List UInt8) (a b : Int), (scanF n l a b).1.length ≤ l.length
  | 0, _, _, _ => by simp [scanF]
  | n + 1, [], _, _ => by simp [scanF]
  | n + 1, c :: r, a, b => by
    simp only [scanF, List.length_cons]
    have h := fun (k : Nat) (x y : Int) => scanF_len n (r.drop k) x y
    have h0 := fun (x y : Int) => scanF_len n r x y
    simp only [List.length_drop] at h
    split
    · exact Nat.le_succ_of_le (h0 _ _)
    · split
      · exact Nat.le_succ_of_le (h0 _ _)
      · split
        · have := h (cmtLen r) a (b + 1 + cmtLen r); omega
        · split
          · have := h ((lexOne (c :: r)).2.1 - 1) a (b + (lexOne (c :: r)).2.1)
            simp only [Res.pre, List.length_append, List.length_cons, List.length_nil]; omega
          · simp
theorem scanRes_len (l : List UInt8) : (scanRes l).1.length ≤ 65536 := by
  unfold scanRes
  split
  · simp
  · rename_i h
    have := scanF_len l.length l 1 1
    split
    · rename_i d hs; unfold scan at hs; rw [hs] at this; simp only at this ⊢; omega
    · simp
theorem scanRes_lenL (l : List UInt8) : (scanRes l).1.length ≤ l.length := by
  unfold scanRes
  split
  · simp
  · have := scanF_len l.length l 1 1
    split
    · rename_i d hs; unfold scan at hs; rw [hs] at this; exact this
    · simp
/-- What Scan hands back, as callers use it. -/
theorem scan_post {l : List UInt8} {w w' : World} {e : Ending} {d : List Tok} {a b er : Int} (hr : scanRes l = (d, a, b, er)) (h : ScanPost l w e w') :
    ∃ v, e = .returned (.tuple #[v, .agg #[.int .i64 a, .int .i64 b], .int .i64 er]) ∧ TokSlice w' v d.length d ∧ Below w.heap.size w w' := by
  obtain ⟨v, he, hown, hbel⟩ := h
  have hl := scanRes_len l
  rw [hr] at he hown hl
  exact ⟨v, he, TokSlice.of_own rfl hown hl, hbel⟩

end Go.Proofs.YtmeicjndfblglaaDoor
