/- The kit's Place and Numbers.Next: what they return, for every number and every list. -/
import Derived.Test.YtgeeklgojjcdmaaDoorProg
import Derived.Test.YtgeeklgojjcdmaaDoorPkRead
import Derived.WalkKit
import Derived.WalkLawsBesides
import Derived.WalkSpells
import Derived.Outline
import Derived.Lib.Hide
import Derived.KernelRfl
import Derived.Deep.QuietTactic
import Derived.BigQuiet
import Derived.Deep.RegionHeld3
import Derived.Deep.DrawnRows
set_option linter.unusedVariables false
set_option linter.unusedSimpArgs false
set_option linter.unusedSectionVars false
namespace Go.Proofs.YtgeeklgojjcdmaaDoor
open Go.RowKit

theorem tmod_place (v n : Int) (hn : 0 < n) : (if v.tmod n < 0 then v.tmod n + n else v.tmod n) = v % n := by
  have h1 := Int.emod_nonneg v (show n ≠ 0 by omega)
  have h2 := Int.emod_lt_of_pos v hn
  have e := Int.tmod_eq_emod (a := v) (b := n)
  rw [e]
  by_cases hd : 0 ≤ v ∨ n ∣ v
  · rw [if_pos hd, if_neg (by omega)]; omega
  · rw [if_neg hd]
    have : (n.natAbs : Int) = n := by omega
    rw [this, if_pos (by omega)]; omega

theorem Place_any (v n : Int) (w : World) (h0 : -9223372036854775808 ≤ v) (h1 : v ≤ 9223372036854775807) (hn : 0 < n) (hn2 : n ≤ 9223372036854775807) :
    Calls Tryd.prog 50 #[.int .i64 v, .int .i64 n] w fun e w' => e = .returned (.int .i64 (v % n)) ∧ w = w' := by
  have hp := tmod_place v n hn
  have l1 : v.tmod n < n := Int.tmod_lt_of_pos v hn
  have l2 : -n < v.tmod n := by
    have := Int.lt_tmod_of_pos v hn
    omega
  have hz : (n == 0) = false := by rw [beq_eq_false_iff_ne]; omega
  have HP := Lib.hid hp
  clear hp
  by_cases hc : v.tmod n < 0
  · go_enter Tryd.func50, Tryd.ntmps50
    go_wp2
    go_ret
    refine ⟨?_, rfl⟩
    show Ending.returned (.int .i64 (v.tmod n + n)) = _
    rw [← HP.out, if_pos hc]
  · go_enter Tryd.func50, Tryd.ntmps50
    go_wp2
    go_ret
    refine ⟨?_, rfl⟩
    show Ending.returned (.int .i64 (v.tmod n)) = _
    rw [← HP.out, if_neg (by omega)]

/-- What Next yields before it is reduced. -/
def nextV (zs : List Int) (k : Nat) : Int := (if zs.length = 0 then 0 else (zs.getD (k % zs.length) 0) % 1073741824) + 7 * ((k / max zs.length 1 : Nat) : Int)
theorem nextV_bd (zs : List Int) (k : Nat) : 0 ≤ nextV zs k ∧ nextV zs k ≤ 1073741824 + 7 * (k : Int) := by
  have h : k / max zs.length 1 ≤ k := Nat.div_le_self _ _
  unfold nextV
  generalize k / max zs.length 1 = q at *
  split
  · omega
  · have h1 := Int.emod_nonneg (zs.getD (k % zs.length) 0) (show (1073741824 : Int) ≠ 0 by decide)
    have h2 := Int.emod_lt_of_pos (zs.getD (k % zs.length) 0) (show (0 : Int) < 1073741824 by decide)
    omega
/-- A slice of these ints. -/
def Ints (w : World) (v : Value) (zs : List Int) : Prop := Row w v 1 (zs.map fun z => [Value.int .i64 z]) ∧ ∀ z ∈ zs, -9223372036854775808 ≤ z ∧ z ≤ 9223372036854775807
theorem Ints.below {w w' : World} {v : Value} {zs : List Int} (h : Ints w v zs) (hb : Below w.heap.size w w') : Ints w' v zs := ⟨h.1.below hb, h.2⟩
def NextPost (a : Addr) (k : Nat) (r : Int) (w : World) (e : Ending) (w' : World) : Prop := e = .returned (.int .i64 r) ∧ ∃ nq, w' = (w.setCell a (.int .i64 ((k + 1 : Nat) : Int))).drewN nq

set_option maxHeartbeats 1000000 in
theorem Next_any (b k : Nat) (va : Value) (zs : List Int) (n : Int) (w : World) (h0 : w.cell? ⟨b, 0, none⟩ = some va) (h1 : w.cell? ⟨b, 1, none⟩ = some (.int .i64 (k : Int))) (hf : w.frozen? ⟨b, 1, none⟩ = false)
    (hz : Ints w va zs) (hk : k ≤ 1000000) (hn : 1 ≤ n) (hn2 : n ≤ 1073741824) :
    Calls Tryd.prog 34 #[.pointer (some ⟨b, 0, none⟩), .int .i64 n] w (NextPost ⟨b, 1, none⟩ k (nextV zs k % n) w) := by
  have hv := nextV_bd zs k
  have hnz : (n == 0) = false := by rw [beq_eq_false_iff_ne]; omega
  have h1b : w.cell? ⟨b, 1, none⟩ = some (.int .i64 (k : Int)) := h1
  obtain ⟨⟨_, hz⟩, hwf⟩ := hz
  rcases hz with ⟨hL, a, c, rfl⟩ | ⟨g, off, cap, rfl, hl0, hlc, hcm, hg, hc⟩
  · have hL : zs = [] := by simpa using hL
    subst hL
    have hr : nextV [] k % n = (7 * (k : Int)) % n := by simp [nextV]
    have HR := Lib.hid hr
    clear hr hv
    go_enter Tryd.func34, Tryd.ntmps34
    go_wp2_with fail
    go_quiet (fail)
    go_wp2_with fail
    go_ret
    exact ⟨by rw [HR.out]; rfl, _, rfl⟩
  · simp only [List.length_map] at hl0 hlc hc
    obtain ⟨L, hL⟩ : ∃ L, L = zs.length := ⟨_, rfl⟩
    have hjl : k % L < L := Nat.mod_lt _ (by omega)
    obtain ⟨x, hx⟩ : ∃ x, x = zs.getD (k % L) 0 := ⟨_, rfl⟩
    have hxm : x ∈ zs := by rw [hx, List.getD_eq_getElem?_getD, List.getElem?_eq_getElem (by omega)]; exact List.getElem_mem _
    have hcell : w.cell? ⟨g, off + k % L, none⟩ = some (.int .i64 x) := by
      have := hc (k % L) [.int .i64 x] 0 (.int .i64 x) (by rw [List.getElem?_map, List.getElem?_eq_getElem (by omega)]; simp [hx, List.getD_eq_getElem?_getD, List.getElem?_eq_getElem (show k % L < zs.length by omega)]) rfl
      simpa using this
    obtain ⟨hx0, hx1⟩ := hwf x hxm
    have hxq0 := Int.emod_nonneg x (show (1073741824 : Int) ≠ 0 by decide)
    have hxq1 := Int.emod_lt_of_pos x (show (0 : Int) < 1073741824 by decide)
    have hr : nextV zs k % n = (x % 1073741824 + 7 * ((k : Int) / (L : Int))) % n := by
      unfold nextV; rw [if_neg (by omega), ← hL, ← hx, show max L 1 = L from by omega]; rfl
    have HR := Lib.hid hr
    have hLm : L ≤ maxLen := by omega
    unfold maxLen at hLm
    rw [show (zs.map fun z => [Value.int .i64 z]).length = L from by simp [hL]] at h0
    rw [← hL] at hl0
    have e1 : (L == 0) = false := by rw [beq_eq_false_iff_ne]; omega
    have hlen : 0 < (L : Int) := by omega
    have hq0 : 0 ≤ (k : Int) / (L : Int) := Int.ediv_nonneg (by omega) (by omega)
    have hq1 : (k : Int) / (L : Int) ≤ k := Int.ediv_le_self _ (by omega)
    have hj0 : 0 ≤ (k : Int) % (L : Int) := Int.emod_nonneg _ (by omega)
    have hj1 : (k : Int) % (L : Int) < L := Int.emod_lt_of_pos _ (by omega)
    have hcell2 : w.cell? ⟨g, off + ((k : Int) % (L : Int)).toNat, none⟩ = some (.int .i64 x) := hcell
    clear hr hc hwf hx hv hL hxm hlc
    go_enter Tryd.func34, Tryd.ntmps34
    go_wp2_with fail
    go_quiet ((go_at_call 50; exact Calls.quiet_of_same ((Place_any _ _ _ (by omega) (by omega) (by omega) (by omega)).mono fun _ _ h => ⟨h.1, h.2.symm⟩)))
    go_wp2_with fail
    go_quiet (fail)
    go_wp2_with fail
    go_ret
    exact ⟨by rw [HR.out]; rfl, _, rfl⟩
end Go.Proofs.YtgeeklgojjcdmaaDoor
