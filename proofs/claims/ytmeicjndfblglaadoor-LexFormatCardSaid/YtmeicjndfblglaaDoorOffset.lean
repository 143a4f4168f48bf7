/- The law's own 'offset', the reference's 'At'. -/
import Derived.Test.YtmeicjndfblglaaDoorLocal
set_option linter.unusedVariables false
set_option linter.unusedSimpArgs false
set_option linter.unusedSectionVars false
namespace Go.Proofs.YtmeicjndfblglaaDoor
open Go.RowKit

/-- Two blocks of two numbers, behind which the world is as it was. -/
structure Two (w : World) (a b c d : Int) (wr : World) : Prop where
  one : wr.heap[w.heap.size]? = some (.cells #[.int .i64 a, .int .i64 b] 26)
  two : wr.heap[w.heap.size + 1]? = some (.cells #[.int .i64 c, .int .i64 d] 26)
  bel : Below w.heap.size w wr
section
variable {w wr : World} {a b c d : Int}
theorem Two.cells (h : Two w a b c d wr) : wr.cell? ⟨w.heap.size, 0, none⟩ = some (.int .i64 a) ∧ wr.cell? ⟨w.heap.size, 1, none⟩ = some (.int .i64 b) ∧
    wr.cell? ⟨w.heap.size + 1, 0, none⟩ = some (.int .i64 c) ∧ wr.cell? ⟨w.heap.size + 1, 1, none⟩ = some (.int .i64 d) ∧
    wr.frozen? ⟨w.heap.size + 1, 0, none⟩ = false ∧ wr.frozen? ⟨w.heap.size + 1, 1, none⟩ = false ∧ wr.frozen? ⟨w.heap.size, 0, none⟩ = false ∧ wr.frozen? ⟨w.heap.size, 1, none⟩ = false :=
  ⟨by simp [World.cell?, h.one], by simp [World.cell?, h.one], by simp [World.cell?, h.two], by simp [World.cell?, h.two], by simp [World.frozen?, h.two], by simp [World.frozen?, h.two], by simp [World.frozen?, h.one], by simp [World.frozen?, h.one]⟩
theorem Two.setD (h : Two w a b c d wr) (x : Int) : Two w a b c x (wr.setCell ⟨w.heap.size + 1, 1, none⟩ (.int .i64 x)) :=
  ⟨by rw [Below.heap_setCell _ _ _ _ (Nat.ne_of_lt (Nat.lt_succ_self _))]; exact h.one, by rw [heap_setCell_at _ _ _ _ _ _ h.two]; rfl, h.bel.setCell (Nat.le_succ _) _⟩
theorem Two.setC (h : Two w a b c d wr) (x : Int) : Two w a b x d (wr.setCell ⟨w.heap.size + 1, 0, none⟩ (.int .i64 x)) :=
  ⟨by rw [Below.heap_setCell _ _ _ _ (Nat.ne_of_lt (Nat.lt_succ_self _))]; exact h.one, by rw [heap_setCell_at _ _ _ _ _ _ h.two]; rfl, h.bel.setCell (Nat.le_succ _) _⟩
theorem Two.start (w : World) (a b c d : Int) : Two w a b c d ((w.alloc (.cells #[.int .i64 a, .int .i64 b] 26)).alloc (.cells #[.int .i64 c, .int .i64 d] 26)) :=
  ⟨by rw [Below.heap_alloc _ _ _ (by simp)]; exact heap_alloc_new w _, by have h := heap_alloc_new (w.alloc (.cells #[.int .i64 a, .int .i64 b] 26)) (.cells #[.int .i64 c, .int .i64 d] 26); rw [show (w.alloc (.cells #[.int .i64 a, .int .i64 b] 26)).heap.size = w.heap.size + 1 from by simp] at h; exact h,
    ((Below.refl _ _).alloc (Nat.le_refl _) _).alloc (by simp) _⟩
end
theorem adv_snoc {s : ByteArray} {j : Nat} (h : j < s.size) {l c : Int} (he : adv (s.data.toList.take j) (1, 1) = (l, c)) : adv (s.data.toList.take (j + 1)) (1, 1) = if s[j].toNat = 10 then (l + 1, 1) else (l, c + 1) := by
  rw [take_snoc s j h, adv_append, he]; rfl
theorem adv_bd (s : ByteArray) : ∀ (j : Nat), j ≤ s.size → 1 ≤ (adv (s.data.toList.take j) (1, 1)).1 ∧ (adv (s.data.toList.take j) (1, 1)).1 ≤ j + 1 ∧ 1 ≤ (adv (s.data.toList.take j) (1, 1)).2 ∧ (adv (s.data.toList.take j) (1, 1)).2 ≤ j + 1
  | 0, _ => by simp [adv]
  | j + 1, h => by
    have ih := adv_bd s j (by omega)
    rw [adv_snoc (s := s) (j := j) (by omega) rfl]
    split <;> simp only <;> omega

end Go.Proofs.YtmeicjndfblglaaDoor
