/- Merged: NextK, IntsForm. -/
import Derived.Test.YtgeeklgojjcdmaaDoorPkKnAll
import Derived.Deep.RegionHeld3
import Derived.Deep.DrawnRows
import Derived.Deep.DeepCutAuto
import Derived.Deep.RegionWith
import Derived.Test.YtgeeklgojjcdmaaDoorPkNext
import Derived.Deep.Cut
set_option linter.unusedVariables false
set_option linter.unusedSimpArgs false
set_option linter.unusedSectionVars false
namespace Go.Proofs.YtgeeklgojjcdmaaDoor
section
open Go.RowKit

/-! ### Next, over known blocks -/
abbrev numA (va : Value) (k : Nat) : Array Value := #[va, .int .i64 (k : Int)]
theorem Next_kn {M : List Nat} {W w : World} {l l' : Ents} (KN : Kn M W w l) (b k : Nat) (va : Value) (zs : List Int) (n : Int) (hz : Ints w va zs)
    (r : Repl l b (At (numA va k) 80) (At (numA va (k + 1)) 80) l') (hk : k ≤ 1000000) (hn : 1 ≤ n) (hn2 : n ≤ 1073741824) :
    Calls Tryd.prog 34 #[.pointer (some ⟨b, 0, none⟩), .int .i64 n] w fun e w' => ∃ r, 0 ≤ r ∧ r < n ∧ e = .returned (.int .i64 r) ∧ Kn M W w' l' := by
  have hb := KN.at_ r.has
  refine (Next_any b k va zs n w (blk_cell hb 0) (blk_cell hb 1) (blk_free hb 1) hz hk hn hn2).mono ?_
  rintro e w' ⟨rfl, nq, rfl⟩
  have := nextV_bd zs k
  refine ⟨_, Int.emod_nonneg _ (by omega), Int.emod_lt_of_pos _ (by omega), rfl, Kn.drewN ?_ nq⟩
  have h2 := KN.setCells (g := b) 1 [.int .i64 ((k + 1 : Nat) : Int)] r
  exact h2
theorem Ints.slice {w : World} {v : Value} {zs : List Int} (h : Ints w v zs) : ∃ a n c, v = .slice a n c := by
  rcases h.1.2 with ⟨_, a, c, rfl⟩ | ⟨g, off, cap, rfl, _⟩ <;> exact ⟨_, _, _, rfl⟩
end
section
open Go Go.RowKit
theorem Ints.form {w : World} {v : Value} {zs : List Int} (h : Ints w v zs) : ∃ a c, v = .slice a zs.length c ∧ zs.length ≤ maxLen := by
  have hm := h.1.1
  simp only [List.length_map] at hm
  rcases h.1.2 with ⟨hL, a, c, rfl⟩ | ⟨g, off, cap, rfl, _⟩
  · have : zs = [] := by simpa using hL
    subst this
    exact ⟨a, c, rfl, by simp⟩
  · exact ⟨_, cap, by rw [List.length_map], hm⟩
end
end Go.Proofs.YtgeeklgojjcdmaaDoor
