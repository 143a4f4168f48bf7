/- The program's Format and the reference's Format. -/
import Derived.Test.YtgeeklgojjcdmaaDoorPkTextP
import Derived.Test.YtgeeklgojjcdmaaDoorPkBuilder
import Derived.Test.YtgeeklgojjcdmaaDoorPkLexP
import Derived.Test.YtgeeklgojjcdmaaDoorPkRight
set_option linter.unusedVariables false
set_option linter.unusedSimpArgs false
set_option linter.unusedSectionVars false
namespace Go.Proofs.YtgeeklgojjcdmaaDoor
open Go.RowKit

theorem BuilderAt.below {T e : TypeId} {B b : Nat} {p : Value} {bs : List Value} {w w' : World} (h : Lib.BuilderAt T e B b p bs w) (hb : Below w.heap.size w w') : Lib.BuilderAt T e B b p bs w' := by
  obtain ⟨hB, v, hbk, ⟨hl, hown⟩, hne⟩ := h
  refine ⟨hB, v, (hb.block b (Array.getElem?_eq_some_iff.1 hbk).1).trans hbk, ⟨hl, ?_⟩, hne⟩
  rcases hown with h | ⟨g, cap, cur, hv, hBg, hg, h1, h2, h3, h4⟩
  · exact .inl h
  · exact .inr ⟨g, cap, cur, hv, hBg, (hb.block g (Array.getElem?_eq_some_iff.1 hg).1).trans hg, h1, h2, h3, h4⟩
theorem IsBuilder.below {T e : TypeId} {B b : Nat} {bs : List Value} {w w' : World} (h : Lib.IsBuilder T e B b bs w) (hb : Below w.heap.size w w') : Lib.IsBuilder T e B b bs w' := by
  rcases h with h | h
  · exact .inl (BuilderAt.below h hb)
  · exact .inr (BuilderAt.below h hb)
theorem IsBuilder.start (w : World) (T e : TypeId) : Lib.IsBuilder T e w.heap.size w.heap.size [] (w.alloc (.cells #[.pointer none, .slice none 0 0] T)) :=
  .inl ⟨Nat.le_refl _, .slice none 0 0, heap_alloc_new w _, ⟨rfl, .inl ⟨rfl, rfl⟩⟩, by simp [Value.ownBlock]⟩
theorem IsBuilder.lt {T e : TypeId} {B b : Nat} {bs : List Value} {w : World} (h : Lib.IsBuilder T e B b bs w) : b < w.heap.size := by
  rcases h with h | h <;> exact h.lt

/-- Tokens that lie somewhere and can be read. -/
def TokRd (w : World) (va : Value) (d : List Tok) : Prop := ∃ a c, va = .slice a d.length c ∧ ∀ (k : Nat) (t : Tok), d[k]? = some t → ∃ b off, a = some ⟨b, off, none⟩ ∧ b < w.heap.size ∧
    w.cell? ⟨b, off + k * 5, none⟩ = some (.int .i64 t.raw.kind) ∧ w.cell? ⟨b, off + k * 5 + 1, none⟩ = some (.string (str t.raw.text)) ∧ w.cell? ⟨b, off + k * 5 + 2, none⟩ = some (.int .u64 t.raw.value) ∧ w.cell? ⟨b, off + k * 5 + 3, none⟩ = some (.int .i64 t.line) ∧ w.cell? ⟨b, off + k * 5 + 4, none⟩ = some (.int .i64 t.col)
/-- What stands while the text is made: the builder, with the text of the first k tokens. -/
def FmtW (d : List Tok) (k : Nat) (w wr : World) : Prop :=
  Lib.IsBuilder 66 5 w.heap.size w.heap.size (Lib.byteCells (joinK (d.map (·.raw)) k)) wr ∧ Below w.heap.size w wr
theorem FmtW.lt {d : List Tok} {k : Nat} {w wr : World} (h : FmtW d k w wr) : w.heap.size + 1 ≤ wr.heap.size := IsBuilder.lt h.1
theorem FmtW.below {d : List Tok} {k : Nat} {w wr w' : World} (h : FmtW d k w wr) (hb : Below wr.heap.size wr w') : FmtW d k w w' :=
  ⟨IsBuilder.below h.1 hb, h.2.trans (hb.mono (by have := h.lt; omega))⟩
theorem FmtW.start (d : List Tok) (w : World) : FmtW d 0 w (w.alloc (.cells #[.pointer none, .slice none 0 0] 66)) :=
  ⟨IsBuilder.start w _ _, (Below.refl _ _).alloc (Nat.le_refl _) _⟩
end Go.Proofs.YtgeeklgojjcdmaaDoor
