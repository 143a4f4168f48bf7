/- The kit's Next over known blocks. -/
import Derived.Test.YtbllialcfmpkaaaRefVal2
import Derived.Test.YtbllialcfmpkaaaNext
import Derived.Test.YtbllialcfmpkaaaGrow
import Derived.Deep.Cut
set_option linter.unusedVariables false
set_option linter.unusedSimpArgs false
set_option linter.unusedSectionVars false
namespace Go.Proofs.Ytbllialcfmpkaaa
open Go.RowKit

/-! ### Next, over known blocks -/
abbrev numA (va : Value) (k : Nat) : Array Value := #[va, .int .i64 (k : Int)]
theorem Next_kn {M : List Nat} {W w : World} {l l' : Ents} (KN : Kn M W w l) (b k : Nat) (va : Value) (zs : List Int) (n : Int) (hz : Ints w va zs)
    (r : Repl l b (At (numA va k) 58) (At (numA va (k + 1)) 58) l') (hk : k ≤ 1000000) (hn : 1 ≤ n) (hn2 : n ≤ 1073741824) :
    Calls Try.prog 28 #[.pointer (some ⟨b, 0, none⟩), .int .i64 n] w fun e w' => ∃ r, 0 ≤ r ∧ r < n ∧ e = .returned (.int .i64 r) ∧ Kn M W w' l' := by
  have hb := KN.at_ r.has
  refine (Next_any b k va zs n w (blk_cell hb 0) (blk_cell hb 1) (blk_free hb 1) hz hk hn hn2).mono ?_
  rintro e w' ⟨rfl, nq, rfl⟩
  have := nextV_bd zs k
  refine ⟨_, Int.emod_nonneg _ (by omega), Int.emod_lt_of_pos _ (by omega), rfl, Kn.drewN ?_ nq⟩
  have h2 := KN.setCells (g := b) 1 [.int .i64 ((k + 1 : Nat) : Int)] r
  exact h2
theorem Next_knx {M : List Nat} {W w : World} {l l' : Ents} (KN : Kn M W w l) (b k : Nat) (va : Value) (zs : List Int) (n : Int) (hz : Ints w va zs)
    (rp : Repl l b (At (numA va k) 58) (At (numA va (k + 1)) 58) l') (hk : k ≤ 1000000) (hn : 1 ≤ n) (hn2 : n ≤ 1073741824) :
    Calls Try.prog 28 #[.pointer (some ⟨b, 0, none⟩), .int .i64 n] w fun e w' => e = .returned (.int .i64 (nextV zs k % n)) ∧ Kn M W w' l' := by
  have hb := KN.at_ rp.has
  refine (Next_any b k va zs n w (blk_cell hb 0) (blk_cell hb 1) (blk_free hb 1) hz hk hn hn2).mono ?_
  rintro e w' ⟨rfl, nq, rfl⟩
  refine ⟨rfl, Kn.drewN ?_ nq⟩
  exact KN.setCells (g := b) 1 [.int .i64 ((k + 1 : Nat) : Int)] rp
theorem Ints.slice {w : World} {v : Value} {zs : List Int} (h : Ints w v zs) : ∃ a n c, v = .slice a n c := by
  rcases h.1.2 with ⟨_, a, c, rfl⟩ | ⟨g, off, cap, rfl, _⟩ <;> exact ⟨_, _, _, rfl⟩
theorem next_bd (zs : List Int) (k : Nat) (n : Int) (hn : 1 ≤ n) : ∃ r, nextV zs k % n = r ∧ 0 ≤ r ∧ r < n :=
  ⟨_, rfl, Int.emod_nonneg _ (by omega), Int.emod_lt_of_pos _ (by omega)⟩
theorem Kn.onlyK {M : List Nat} {W w : World} {l : Ents} {g : Nat} {Φ : Obj → Prop} (h : Kn M W w l) (m : Has l g Φ) : Kn M W w [(g, Φ)] :=
  ⟨h.os, h.tape, h.output, h.size, h.frame, fun k Ψ hk => by (cases hk with | here => exact h.own _ _ m | there hk => cases hk), fun k Ψ hk => by (cases hk with | here => exact h.fresh _ _ m | there hk => cases hk), by simp⟩

end Go.Proofs.Ytbllialcfmpkaaa
