/- The makers' small functions: Place, At, After, HasInt. -/
import Derived.Test.YtpjejaoobbancaaPkNext
import Derived.Test.YtpjejaoobbancaaPkAppR
import Derived.Test.YtpjejaoobbancaaPkSub
import Derived.Deep.Cut
import Derived.Deep.CutBlock
import Derived.Deep.DeepCutAuto
import Derived.Deep.RegionHeld3
import Derived.Deep.DrawnRows
import Derived.Deep.RegionWith
import Derived.BigQuiet
import Derived.Deep.QuietTactic
set_option linter.unusedVariables false
set_option linter.unusedSimpArgs false
set_option linter.unusedSectionVars false
namespace Go.Proofs.Ytpjejaoobbancaa
open Go.RowKit Go.BigFrame

theorem MPlace_any (v n : Int) (w : World) (h0 : -9223372036854775808 ≤ v) (h1 : v ≤ 9223372036854775807) (hn : 0 < n) (hn2 : n ≤ 9223372036854775807) :
    Calls Try.prog 9 #[.int .i64 v, .int .i64 n] w fun e w' => e = .returned (.int .i64 (v % n)) ∧ w = w' := by
  have hp := tmod_place v n hn
  have l1 : v.tmod n < n := Int.tmod_lt_of_pos v hn
  have l2 : -n < v.tmod n := by
    have := Int.lt_tmod_of_pos v hn
    omega
  have hz : (n == 0) = false := by rw [beq_eq_false_iff_ne]; omega
  have HP := Lib.hid hp
  clear hp
  by_cases hc : v.tmod n < 0
  · go_enter Try.func9, Try.ntmps9
    go_wp2
    go_ret
    refine ⟨?_, rfl⟩
    show Ending.returned (.int .i64 (v.tmod n + n)) = _
    rw [← HP.out, if_pos hc]
  · go_enter Try.func9, Try.ntmps9
    go_wp2
    go_ret
    refine ⟨?_, rfl⟩
    show Ending.returned (.int .i64 (v.tmod n)) = _
    rw [← HP.out, if_neg (by omega)]
/-- An element, or 0. -/
def at0 (zs : List Int) (z : Int) : Int := zs.getD z.toNat 0
theorem At_any {v : Value} {zs : List Int} {w : World} (h : Row w v 1 (intRows zs)) (z : Int) (h0 : 0 ≤ z) (h1 : z ≤ 9223372036854775807) :
    Calls Try.prog 49 #[v, .int .i64 z] w fun e w' => e = .returned (.int .i64 (at0 zs z)) ∧ w = w' := by
  obtain ⟨a, c, rfl, hm, hc⟩ := ints_form h
  obtain ⟨r, hr⟩ : ∃ r, r = at0 zs z := ⟨_, rfl⟩
  rw [← hr]
  obtain ⟨k, rfl⟩ := Int.eq_ofNat_of_zero_le h0
  unfold at0 at hr
  rw [Int.toNat_natCast, List.getD_eq_getElem?_getD] at hr
  obtain ⟨n, hn⟩ : ∃ n, n = zs.length := ⟨_, rfl⟩
  rw [← hn] at hm ⊢
  unfold maxLen at hm
  by_cases hk : k < n
  · obtain ⟨x, hx⟩ : ∃ x, zs[k]? = some x := ⟨_, List.getElem?_eq_getElem (by rw [← hn]; exact hk)⟩
    obtain ⟨g, off, rfl, hg, hc1, hc2, hcell⟩ := hc k x hx
    rw [hx] at hr
    have hr' : r = x := hr
    subst hr'
    rw [← hn] at hc1
    unfold maxLen at hc2
    have d1 : decide ((n : Int) ≤ (k : Int)) = false := decide_eq_false (by omega)
    clear h hc hx hr hn
    go_enter Try.func49, Try.ntmps49
    go_wp2
    go_ret
    exact ⟨rfl, rfl⟩
  · rw [List.getElem?_eq_none (by rw [← hn]; omega)] at hr
    have hr' : r = 0 := hr
    subst hr'
    have d1 : decide ((n : Int) ≤ (k : Int)) = true := decide_eq_true (by omega)
    clear h hc hr hn
    go_enter Try.func49, Try.ntmps49
    go_wp2
    go_ret
    exact ⟨rfl, rfl⟩
theorem After_any {v : Value} {zs : List Int} {w : World} (h : Row w v 1 (intRows zs)) (z : Int) (h0 : 0 ≤ z) (h1 : z ≤ 9223372036854775807) :
    Calls Try.prog 24 #[v, .int .i64 z] w fun e w' => ∃ v', e = .returned v' ∧ Row w v' 1 (intRows (zs.drop z.toNat)) ∧ w = w' := by
  obtain ⟨k, rfl⟩ := Int.eq_ofNat_of_zero_le h0
  rw [Int.toNat_natCast]
  obtain ⟨a, c, rfl, hm, hc⟩ := ints_form h
  obtain ⟨n, hn⟩ : ∃ n, n = zs.length := ⟨_, rfl⟩
  unfold maxLen at hm
  by_cases hk : k < n
  · have hs := h.sub k n (by omega) (by rw [List.length_map]; omega)
    have he : ((intRows zs).drop k).take (n - k) = intRows (zs.drop k) := by
      rw [List.take_of_length_le (by rw [List.length_drop, List.length_map]; omega)]; exact List.map_drop.symm
    rw [he] at hs
    have hcn : n ≤ c := by
      obtain ⟨g, off, _, _, h2, _⟩ := hc 0 (zs[0]'(by omega)) (List.getElem?_eq_getElem _)
      omega
    rw [show sliced a k n c 1 = .slice (a.map fun x => x.add k) (n - k) (c - k) from by unfold sliced; rw [if_neg (by omega), Nat.mul_one]] at hs
    rw [← hn] at hm ⊢
    have HS := Lib.hid hs
    have d1 : decide ((n : Int) ≤ (k : Int)) = false := decide_eq_false (by omega)
    clear h hc hn hs he
    go_enter Try.func24, Try.ntmps24
    go_wp2
    go_ret
    exact ⟨_, rfl, HS.out, rfl⟩
  · have d1 : decide ((n : Int) ≤ (k : Int)) = true := decide_eq_true (by omega)
    have HS : Hid (Row w (.slice none 0 0) 1 (intRows (zs.drop k))) := Lib.hid (by
      rw [List.drop_eq_nil_of_le (by omega)]
      exact ⟨by simp, .inl ⟨rfl, _, _, rfl⟩⟩)
    rw [← hn] at hm ⊢
    clear h hc hn
    go_enter Try.func24, Try.ntmps24
    go_wp2
    go_ret
    exact ⟨_, rfl, HS.out, rfl⟩
theorem HasInt_any {v : Value} {zs : List Int} {w : World} (h : Row w v 1 (intRows zs)) (z : Int) :
    Calls Try.prog 15 #[v, .int .i64 z] w fun e w' => e = .returned (.bool (decide (z ∈ zs))) ∧ w = w' := by
  obtain ⟨a, c, rfl, hm, hc⟩ := ints_form h
  obtain ⟨n, hn⟩ : ∃ n, n = zs.length := ⟨_, rfl⟩
  have HN := Lib.hid hn
  have HC := Lib.hid hc
  obtain ⟨r, hr⟩ : ∃ r, r = decide (z ∈ zs) := ⟨_, rfl⟩
  have HR := Lib.hid hr
  rw [← hn] at hm ⊢
  rw [← hr]
  unfold maxLen at hm
  clear h hc hn hr
  go_enter Try.func15, Try.ntmps15
  go_wp2
  go_loop [5] (fun i => ∃ k : Nat, i = .int .i64 (k : Int) ∧ k ≤ n ∧ z ∉ zs.take k) (fun i => n - (intOf i).toNat)
  case atStart => exact ⟨0, rfl, Nat.zero_le _, by simp⟩
  case round =>
    obtain ⟨k, rfl, hk, hnot⟩ := hrel
    have HNOT := Lib.hid hnot
    clear hnot
    by_cases hlt : k < n
    · obtain ⟨x, hx⟩ : ∃ x, zs[k]? = some x := ⟨_, List.getElem?_eq_getElem (by rw [← HN.out]; exact hlt)⟩
      obtain ⟨g, off, rfl, hg, hc1, hc2, hcell⟩ := HC.out k x hx
      have HX := Lib.hid hx
      have hc1' : n ≤ c := by rw [HN.out]; exact hc1
      unfold maxLen at hc2
      by_cases hxz : x = z
      · have hq : (x == z) = true := beq_iff_eq.2 hxz
        have HT : Hid (r = true) := Lib.hid (by rw [HR.out]; exact decide_eq_true (by rw [← hxz]; exact List.mem_of_getElem? hx))
        clear hx hxz hc1
        go_wp2
        go_ret
        exact ⟨by rw [HT.out]; rfl, rfl⟩
      · have hq : (x == z) = false := beq_eq_false_iff_ne.2 hxz
        have HT : Hid (z ∉ zs.take (k + 1)) := Lib.hid (by
          rw [List.take_add_one, hx]
          intro hmem
          rcases List.mem_append.1 hmem with h | h
          · exact HNOT.out h
          · have h' : z = x := by simpa using h
            exact hxz h'.symm)
        clear hx hxz hc1
        go_wp2
        go_round
        case rel => exact ⟨k + 1, by go_num, by omega, HT.out⟩
        case measure => simp [intOf]; omega
    · have HT : Hid (r = false) := Lib.hid (by
        have := HNOT.out
        rw [List.take_of_length_le (by rw [← HN.out]; omega)] at this
        rw [HR.out]; exact decide_eq_false this)
      go_wp2
      go_ret
      exact ⟨by rw [HT.out]; rfl, rfl⟩
end Go.Proofs.Ytpjejaoobbancaa
