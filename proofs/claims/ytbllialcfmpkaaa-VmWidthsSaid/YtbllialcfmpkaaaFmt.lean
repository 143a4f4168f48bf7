/- The table of the instructions' formats; strings.HasSuffix at its strings. -/
import Derived.Test.YtbllialcfmpkaaaVmPlain
import Derived.Test.YtbllialcfmpkaaaRead
import Derived.Test.YtbllialcfmpkaaaBytes
import Derived.Lib.IndexAny
set_option linter.unusedVariables false
set_option linter.unusedSimpArgs false
set_option linter.unusedSectionVars false
namespace Go.Proofs.Ytbllialcfmpkaaa
open Go.RowKit

/-- strings.HasSuffix at the strings of the table and one letter. -/
theorem HasSuffix_op (op : Int) (c : UInt8) (hc : c = 105 ∨ c = 116) (w : World) (h0 : 0 ≤ op) (h1 : op ≤ 27) :
    Calls Try.prog 94 #[.string (str (operandsOf op)), .string ⟨#[c]⟩] w fun e w' => e = .returned (.bool (uses op c)) ∧ w = w' := by
  have ho : op = 0 ∨ op = 1 ∨ op = 2 ∨ op = 3 ∨ op = 4 ∨ op = 5 ∨ op = 6 ∨ op = 7 ∨ op = 8 ∨ op = 9 ∨ op = 10 ∨ op = 11 ∨ op = 12 ∨ op = 13 ∨ op = 14 ∨ op = 15 ∨ op = 16 ∨ op = 17 ∨ op = 18 ∨ op = 19 ∨ op = 20 ∨ op = 21 ∨ op = 22 ∨ op = 23 ∨ op = 24 ∨ op = 25 ∨ op = 26 ∨ op = 27 := by omega
  have key : ∀ l : List UInt8, l ∈ operandsL → Calls Try.prog 94 #[.string (str l), .string ⟨#[c]⟩] w fun e w' => e = .returned (.bool (l.contains c)) ∧ w = w' := by
    intro l hl
    have hl' : l = [] ∨ l = [97, 105] ∨ l = [97, 98] ∨ l = [97, 98, 99] ∨ l = [97, 98, 105] ∨ l = [116] ∨ l = [97, 116] ∨ l = [97] ∨ l = [105] := by revert l; decide
    rcases hl' with rfl | rfl | rfl | rfl | rfl | rfl | rfl | rfl | rfl <;> rcases hc with rfl | rfl
    all_goals
      unfold str
      go_enter Try.func94, Try.ntmps94
      go_wp2
      go_ret
      refine ⟨ret_bool ?_, rfl⟩
      first | (rw [Lib.toList_data, Lib.extract_data]; rfl) | rfl
  have hm : operandsOf op ∈ operandsL := by
    unfold operandsOf
    rcases ho with rfl | rfl | rfl | rfl | rfl | rfl | rfl | rfl | rfl | rfl | rfl | rfl | rfl | rfl | rfl | rfl | rfl | rfl | rfl | rfl | rfl | rfl | rfl | rfl | rfl | rfl | rfl | rfl <;> decide
  exact key _ hm

def mnemL : List (List UInt8) := [[104, 97, 108, 116], [108, 105], [108, 105, 104], [109, 111, 118], [97, 100, 100], [115, 117, 98], [109, 117, 108], [100, 105, 118], [114, 101, 109], [97, 110, 100], [111, 114], [120, 111, 114], [115, 104, 108], [115, 104, 114], [97, 100, 100, 105], [115, 108, 116], [115, 108, 116, 117], [115, 101, 113], [106, 109, 112], [98, 101, 113, 122], [98, 110, 101, 122], [106, 97, 108], [106, 114], [108, 100], [115, 116], [115, 121, 115], [121, 105, 101, 108, 100], [110, 111, 112]]
def mnemOf (op : Int) : List UInt8 := mnemL.getD op.toNat []
def fmtL : List Value := (mnemL.zip operandsL).flatMap fun x => [Value.string (str x.1), .string (str x.2)]
def fmtA : Array Value := fmtL.toArray
/-- The table of the formats lies in block t. -/
def FT (w : World) (t : Nat) : Prop := w.heap[t]? = some (.cells fmtA 102)
theorem FT.cell {w : World} {t : Nat} (h : FT w t) (op : Int) (h0 : 0 ≤ op) (h1 : op ≤ 27) :
    w.cell? ⟨t, op.toNat * 2, none⟩ = some (.string (str (mnemOf op))) ∧ w.cell? ⟨t, op.toNat * 2 + 1, none⟩ = some (.string (str (operandsOf op))) := by
  unfold FT at h
  simp only [World.cell?, h]
  have ho : op = 0 ∨ op = 1 ∨ op = 2 ∨ op = 3 ∨ op = 4 ∨ op = 5 ∨ op = 6 ∨ op = 7 ∨ op = 8 ∨ op = 9 ∨ op = 10 ∨ op = 11 ∨ op = 12 ∨ op = 13 ∨ op = 14 ∨ op = 15 ∨ op = 16 ∨ op = 17 ∨ op = 18 ∨ op = 19 ∨ op = 20 ∨ op = 21 ∨ op = 22 ∨ op = 23 ∨ op = 24 ∨ op = 25 ∨ op = 26 ∨ op = 27 := by omega
  rcases ho with rfl | rfl | rfl | rfl | rfl | rfl | rfl | rfl | rfl | rfl | rfl | rfl | rfl | rfl | rfl | rfl | rfl | rfl | rfl | rfl | rfl | rfl | rfl | rfl | rfl | rfl | rfl | rfl <;> exact ⟨rfl, rfl⟩
theorem FT.lt {w : World} {t : Nat} (h : FT w t) : t < w.heap.size := (Array.getElem?_eq_some_iff.1 h).1
theorem FT.below {w w' : World} {t : Nat} (h : FT w t) (hb : Below w.heap.size w w') : FT w' t := (hb.block t h.lt).trans h
def FmtPost (w : World) (e : Ending) (w' : World) : Prop := e = .returned (.slice (some ⟨w.heap.size, 0, none⟩) 28 28) ∧ FT w' w.heap.size ∧ Below w.heap.size w w' ∧ w.heap.size < w'.heap.size
set_option maxHeartbeats 1000000 in
theorem formats_any (w : World) : Calls Try.prog 77 #[] w (FmtPost w) := by
  go_enter Try.func77, Try.ntmps77
  go_wp2
  go_ret
  refine ⟨rfl, ?_, (Below.refl _ _).alloc (Nat.le_refl _) _, by simp⟩
  unfold FT
  rw [heap_alloc_new]
  kernel_rfl

end Go.Proofs.Ytbllialcfmpkaaa
