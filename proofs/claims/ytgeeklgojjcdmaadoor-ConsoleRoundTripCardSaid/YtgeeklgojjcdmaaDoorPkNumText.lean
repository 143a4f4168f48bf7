/- strconv.FormatUint at base 10, over the kit's contracts of what it calls. -/
import Derived.Test.YtgeeklgojjcdmaaDoorShelf
import Derived.Test.YtgeeklgojjcdmaaDoorPkLexP
import Derived.Test.YtgeeklgojjcdmaaDoorPkBase0
import Derived.Lib.ItoaMem
import Derived.Lib.AppendIntMem
import Derived.Lib.LaidTab
import Derived.WalkKit
import Derived.BigCall
import Derived.BigGuard
import Derived.Below
import Derived.KernelRfl
set_option linter.unusedVariables false
set_option linter.unusedSimpArgs false
set_option linter.unusedSectionVars false
namespace Go.Proofs.YtgeeklgojjcdmaaDoor
open Go Go.RowKit Go.Sort

theorem decDigits_numL (n : Nat) : Lib.decDigits n = numL 10 n := by
  induction n using Nat.strongRecOn with
  | _ n ih =>
    by_cases h : n < 10
    · rw [Lib.decDigits, dif_pos h, numL_small h]; rfl
    · rw [Lib.decDigits, dif_neg h, numL_big (by omega) (by decide), ih (n / 10) (by omega)]; rfl
/-- The table of the powers of ten stands in memory. -/
def Pow (w : World) : Prop := Lib.TabIs Tryd.prog w "internal/strconv.uint64pow10" .u64 Lib.pow10Tab
theorem pow_named : ∃ g, Tryd.prog.globalNamed "internal/strconv.uint64pow10" = some g := ⟨1, by kernel_rfl⟩
theorem Pow.below {w w' : World} (h : Pow w) (hb : Below w.heap.size w w') : Pow w' := by
  unfold Pow Lib.TabIs at h ⊢
  obtain ⟨g, hg⟩ := pow_named
  unfold World.var? at h ⊢
  rw [hg] at h ⊢
  simp only [Option.bind_some] at h ⊢
  cases hq : w.heap[g]? with
  | none => simp [hq] at h
  | some o =>
    have hlt : g < w.heap.size := (Array.getElem?_eq_some_iff.1 hq).1
    rw [hb.block g hlt]
    exact h

end Go.Proofs.YtgeeklgojjcdmaaDoor
