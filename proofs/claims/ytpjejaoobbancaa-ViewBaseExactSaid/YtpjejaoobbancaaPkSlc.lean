/- slices.Max, Min, Index, Contains over ints. -/
import Derived.Test.YtpjejaoobbancaaPkMk0
import Derived.Lib.MinMax
set_option linter.unusedVariables false
set_option linter.unusedSimpArgs false
set_option linter.unusedSectionVars false
namespace Go.Proofs.Ytpjejaoobbancaa
open Go.RowKit Go.BigFrame

def IsMax (m : Int) (l : List Int) : Prop := m ∈ l ∧ ∀ z ∈ l, z ≤ m
def IsMin (m : Int) (l : List Int) : Prop := m ∈ l ∧ ∀ z ∈ l, m ≤ z
theorem IsMax.unique {m n : Int} {l : List Int} (h : IsMax m l) (h' : IsMax n l) : m = n := Int.le_antisymm (h'.2 m h.1) (h.2 n h'.1)
theorem IsMin.unique {m n : Int} {l : List Int} (h : IsMin m l) (h' : IsMin n l) : m = n := Int.le_antisymm (h.2 n h'.1) (h'.2 m h.1)
theorem IsMax.snoc {m x : Int} {l : List Int} (h : IsMax m l) : IsMax (max m x) (l ++ [x]) := by
  refine ⟨?_, fun z hz => ?_⟩
  · rcases Int.le_total m x with h' | h'
    · rw [Int.max_eq_right h']; simp
    · rw [Int.max_eq_left h']; exact List.mem_append_left _ h.1
  · rcases List.mem_append.1 hz with hz | hz
    · have := h.2 z hz; omega
    · have : z = x := by simpa using hz
      omega
theorem IsMin.snoc {m x : Int} {l : List Int} (h : IsMin m l) : IsMin (min m x) (l ++ [x]) := by
  refine ⟨?_, fun z hz => ?_⟩
  · rcases Int.le_total m x with h' | h'
    · rw [Int.min_eq_left h']; exact List.mem_append_left _ h.1
    · rw [Int.min_eq_right h']; simp
  · rcases List.mem_append.1 hz with hz | hz
    · have := h.2 z hz; omega
    · have : z = x := by simpa using hz
      omega
theorem take_snocI {l : List Int} {k : Nat} {x : Int} (h : l[k]? = some x) : l.take (k + 1) = l.take k ++ [x] := by rw [List.take_add_one, h]; rfl
set_option maxRecDepth 100000 in
theorem Max_any {v : Value} {zs : List Int} {w : World} (h : Row w v 1 (intRows zs)) (h0 : 0 < zs.length) :
    Calls Try.prog 25 #[v] w fun e w' => ∃ m, e = .returned (.int .i64 m) ∧ IsMax m zs ∧ w = w' := by
  obtain ⟨a, c, rfl, hm, hc⟩ := ints_form h
  obtain ⟨n, hn⟩ : ∃ n, n = zs.length := ⟨_, rfl⟩
  have HN := Lib.hid hn
  have HC := Lib.hid hc
  obtain ⟨x0, hx0⟩ : ∃ x, zs[0]? = some x := ⟨_, List.getElem?_eq_getElem h0⟩
  obtain ⟨g, off, rfl, hg, hc1, hc2, hcell⟩ := hc 0 x0 hx0
  have HX0 := Lib.hid hx0
  rw [← hn] at hm h0 hc1 ⊢
  unfold maxLen at hm hc2
  clear h hc hn hx0
  have hcell' : w.cell? ⟨g, off, none⟩ = some (.int .i64 x0) := hcell
  clear hcell
  go_enter Try.func25, Try.ntmps25
  go_wp2
  clear hcell'
  go_loop [3, 4] (fun s i => ∃ (k : Nat) (m : Int), s = .int .i64 m ∧ i = .int .i64 (k : Int) ∧ 1 ≤ k ∧ k ≤ n ∧ IsMax m (zs.take k)) (fun _ i => n - (intOf i).toNat)
  case atStart => exact ⟨1, x0, rfl, rfl, by omega, by omega, by rw [take_snocI HX0.out]; exact ⟨by simp, fun z hz => by simp at hz; omega⟩⟩
  case round =>
    obtain ⟨k, m, rfl, rfl, hk1, hk, him⟩ := hrel
    have HIM := Lib.hid him
    clear him
    by_cases hlt : k < n
    · obtain ⟨x, hx⟩ : ∃ x, zs[k]? = some x := ⟨_, List.getElem?_eq_getElem (by rw [← HN.out]; exact hlt)⟩
      obtain ⟨g', off', hge, _, _, _, hcell⟩ := HC.out k x hx
      injection hge with hge
      injection hge with hge hoe _
      subst hge
      subst hoe
      have HX := Lib.hid hx
      clear hx
      go_wp2
      go_round
      case rel =>
        refine ⟨k + 1, _, rfl, by go_num, by omega, by omega, ?_⟩
        rw [take_snocI HX.out]
        exact HIM.out.snoc (x := x)
      case measure => simp [intOf]; omega
    · obtain rfl : k = n := by omega
      have HF : Hid (IsMax m zs) := Lib.hid (by have := HIM.out; rwa [List.take_of_length_le (by rw [← HN.out]; omega)] at this)
      go_wp2
      go_ret
      exact ⟨m, rfl, HF.out, rfl⟩
set_option maxRecDepth 100000 in
theorem Min_any {v : Value} {zs : List Int} {w : World} (h : Row w v 1 (intRows zs)) (h0 : 0 < zs.length) :
    Calls Try.prog 28 #[v] w fun e w' => ∃ m, e = .returned (.int .i64 m) ∧ IsMin m zs ∧ w = w' := by
  obtain ⟨a, c, rfl, hm, hc⟩ := ints_form h
  obtain ⟨n, hn⟩ : ∃ n, n = zs.length := ⟨_, rfl⟩
  have HN := Lib.hid hn
  have HC := Lib.hid hc
  obtain ⟨x0, hx0⟩ : ∃ x, zs[0]? = some x := ⟨_, List.getElem?_eq_getElem h0⟩
  obtain ⟨g, off, rfl, hg, hc1, hc2, hcell⟩ := hc 0 x0 hx0
  have HX0 := Lib.hid hx0
  rw [← hn] at hm h0 hc1 ⊢
  unfold maxLen at hm hc2
  clear h hc hn hx0
  have hcell' : w.cell? ⟨g, off, none⟩ = some (.int .i64 x0) := hcell
  clear hcell
  go_enter Try.func28, Try.ntmps28
  go_wp2
  clear hcell'
  go_loop [3, 4] (fun s i => ∃ (k : Nat) (m : Int), s = .int .i64 m ∧ i = .int .i64 (k : Int) ∧ 1 ≤ k ∧ k ≤ n ∧ IsMin m (zs.take k)) (fun _ i => n - (intOf i).toNat)
  case atStart => exact ⟨1, x0, rfl, rfl, by omega, by omega, by rw [take_snocI HX0.out]; exact ⟨by simp, fun z hz => by simp at hz; omega⟩⟩
  case round =>
    obtain ⟨k, m, rfl, rfl, hk1, hk, him⟩ := hrel
    have HIM := Lib.hid him
    clear him
    by_cases hlt : k < n
    · obtain ⟨x, hx⟩ : ∃ x, zs[k]? = some x := ⟨_, List.getElem?_eq_getElem (by rw [← HN.out]; exact hlt)⟩
      obtain ⟨g', off', hge, _, _, _, hcell⟩ := HC.out k x hx
      injection hge with hge
      injection hge with hge hoe _
      subst hge
      subst hoe
      have HX := Lib.hid hx
      clear hx
      go_wp2
      go_round
      case rel =>
        refine ⟨k + 1, _, rfl, by go_num, by omega, by omega, ?_⟩
        rw [take_snocI HX.out]
        exact HIM.out.snoc (x := x)
      case measure => simp [intOf]; omega
    · obtain rfl : k = n := by omega
      have HF : Hid (IsMin m zs) := Lib.hid (by have := HIM.out; rwa [List.take_of_length_le (by rw [← HN.out]; omega)] at this)
      go_wp2
      go_ret
      exact ⟨m, rfl, HF.out, rfl⟩
set_option maxRecDepth 100000 in
theorem Index_any {v : Value} {zs : List Int} {w : World} (h : Row w v 1 (intRows zs)) (z : Int) :
    Calls Try.prog 54 #[v, .int .i64 z] w fun e w' => ∃ r : Int, e = .returned (.int .i64 r) ∧ (0 ≤ r ↔ z ∈ zs) ∧ w = w' := by
  obtain ⟨a, c, rfl, hm, hc⟩ := ints_form h
  obtain ⟨n, hn⟩ : ∃ n, n = zs.length := ⟨_, rfl⟩
  have HN := Lib.hid hn
  have HC := Lib.hid hc
  rw [← hn] at hm ⊢
  unfold maxLen at hm
  clear h hc hn
  go_enter Try.func54, Try.ntmps54
  go_wp2
  go_loop [5, 8] (fun _ i => ∃ k : Nat, i = .int .i64 (k : Int) ∧ k ≤ n ∧ z ∉ zs.take k) (fun _ i => n - (intOf i).toNat)
  case atStart => exact ⟨0, rfl, Nat.zero_le _, by simp⟩
  case round =>
    obtain ⟨k, rfl, hk, hnot⟩ := hrel
    have HNOT := Lib.hid hnot
    clear hnot
    by_cases hlt : k < n
    · obtain ⟨x, hx⟩ : ∃ x, zs[k]? = some x := ⟨_, List.getElem?_eq_getElem (by rw [← HN.out]; exact hlt)⟩
      obtain ⟨g, off, rfl, hg, hc1, hc2, hcell⟩ := HC.out k x hx
      have HX := Lib.hid hx
      have hc1' : n ≤ c := by rw [HN.out]; exact hc1
      unfold maxLen at hc2
      by_cases hxz : z = x
      · have hq : (z == x) = true := beq_iff_eq.2 hxz
        have HT : Hid (z ∈ zs) := Lib.hid (by rw [hxz]; exact List.mem_of_getElem? hx)
        clear hx hxz hc1
        go_wp2
        go_ret
        exact ⟨(k : Int), rfl, ⟨fun _ => HT.out, fun _ => by omega⟩, rfl⟩
      · have hq : (z == x) = false := beq_eq_false_iff_ne.2 hxz
        have HT : Hid (z ∉ zs.take (k + 1)) := Lib.hid (by
          rw [take_snocI hx]
          intro hmem
          rcases List.mem_append.1 hmem with h | h
          · exact HNOT.out h
          · exact hxz (by simpa using h))
        clear hx hxz hc1
        go_wp2
        go_round
        case rel => exact ⟨k + 1, by go_num, by omega, HT.out⟩
        case measure => simp [intOf]; omega
    · have HT : Hid (z ∉ zs) := Lib.hid (by
        have := HNOT.out
        rwa [List.take_of_length_le (by rw [← HN.out]; omega)] at this)
      go_wp2
      go_ret
      exact ⟨-1, rfl, ⟨fun h => absurd h (by decide), fun h => absurd h HT.out⟩, rfl⟩
theorem Contains_any {v : Value} {zs : List Int} {w : World} (h : Row w v 1 (intRows zs)) (z : Int) :
    Calls Try.prog 30 #[v, .int .i64 z] w fun e w' => e = .returned (.bool (decide (z ∈ zs))) ∧ w = w' := by
  have HR := Lib.hid h
  clear h
  obtain ⟨b, hb⟩ : ∃ b, b = decide (z ∈ zs) := ⟨_, rfl⟩
  have HB := Lib.hid hb
  rw [← hb]
  clear hb
  go_enter Try.func30, Try.ntmps30
  go_wp2_with (go_at_call 54; refine (Index_any HR.out z).mono ?_; rintro e wx ⟨r, rfl, hr, rfl⟩; have HQ := Lib.hid hr; clear hr)
  go_ret
  exact ⟨by show Ending.returned (.bool (decide (0 ≤ r))) = _; rw [HB.out]; congr 2; exact decide_eq_decide.2 HQ.out, rfl⟩
end Go.Proofs.Ytpjejaoobbancaa
