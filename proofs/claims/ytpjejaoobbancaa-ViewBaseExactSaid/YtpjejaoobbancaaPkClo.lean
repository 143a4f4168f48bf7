/- Function values over lists of ints: what exclude and due hand to the library. -/
import Derived.Test.YtpjejaoobbancaaPkSlc
import Derived.Test.YtpjejaoobbancaaPkKnMv
import Derived.Lib.SliceRun
set_option linter.unusedVariables false
set_option linter.unusedSimpArgs false
set_option linter.unusedSectionVars false
namespace Go.Proofs.Ytpjejaoobbancaa
open Go.RowKit Go.BigFrame

theorem run_mf : ∀ (fn : Fn) (first cap : Array Value) (w : World), (Instr.makeFunc fn first cap).run Try.prog w = .ok (.func fn first cap) w := fun _ _ _ _ => rfl
theorem ex1_any {w : World} {outv : Value} {outs : List Int} {gb : Nat} (hc : w.cell? ⟨gb, 0, none⟩ = some outv) (hr : Row w outv 1 (intRows outs)) (z : Int) :
    Calls Try.prog 56 #[.int .i64 z, .pointer (some ⟨gb, 0, none⟩)] w fun e w' => e = .returned (.bool (decide (z ∈ outs))) ∧ w = w' := by
  have HR := Lib.hid hr
  obtain ⟨oa, oc, rfl, _⟩ := ints_form hr
  clear hr
  obtain ⟨b, hb⟩ : ∃ b, b = decide (z ∈ outs) := ⟨_, rfl⟩
  have HB := Lib.hid hb
  rw [← hb]
  clear hb
  go_enter Try.func56, Try.ntmps56
  go_wp2_with (go_at_call 30; refine (Contains_any HR.out z).mono ?_; rw [← HB.out]; rintro e wx ⟨rfl, rfl⟩)
  go_ret
  exact ⟨rfl, rfl⟩
/-- The field 'dead' of a Sync. -/
theorem isDead_any {w : World} {dv : Value} {dd : List Int} {g : Nat} (hc : w.cell? ⟨g, 20, none⟩ = some dv) (hr : Row w dv 1 (intRows dd)) (z : Int) :
    Calls Try.prog 42 #[.pointer (some ⟨g, 0, none⟩), .int .i64 z] w fun e w' => e = .returned (.bool (decide (z ∈ dd))) ∧ w = w' := by
  have HR := Lib.hid hr
  obtain ⟨oa, oc, rfl, _⟩ := ints_form hr
  clear hr
  obtain ⟨b, hb⟩ : ∃ b, b = decide (z ∈ dd) := ⟨_, rfl⟩
  have HB := Lib.hid hb
  rw [← hb]
  clear hb
  go_enter Try.func42, Try.ntmps42
  go_wp2_with (go_at_call 30; refine (Contains_any HR.out z).mono ?_; rw [← HB.out]; rintro e wx ⟨rfl, rfl⟩)
  go_ret
  exact ⟨rfl, rfl⟩
/-- The first of a list that is in another one. -/
def FirstIn (zs outs : List Int) (r : Int) : Prop := (r = -1 ∧ ∀ z ∈ zs, z ∉ outs) ∨ ∃ k : Nat, r = (k : Int) ∧ k < zs.length ∧ (∃ x, zs[k]? = some x ∧ x ∈ outs) ∧ ∀ z ∈ zs.take k, z ∉ outs
set_option maxRecDepth 100000 in
theorem IndexEx_any {w : World} {v outv : Value} {zs outs : List Int} {g : Nat} (h : Row w v 1 (intRows zs)) (hco : w.cell? ⟨g, 0, none⟩ = some outv) (hro : Row w outv 1 (intRows outs)) :
    Calls Try.prog 71 #[v, .func (.func 56) #[] #[.pointer (some ⟨g, 0, none⟩)]] w fun e w' => ∃ r, e = .returned (.int .i64 r) ∧ FirstIn zs outs r ∧ w = w' := by
  obtain ⟨a, c, rfl, hm, hc⟩ := ints_form h
  obtain ⟨n, hn⟩ : ∃ n, n = zs.length := ⟨_, rfl⟩
  have HN := Lib.hid hn
  have HC := Lib.hid hc
  have HCO := Lib.hid hco
  have HRO := Lib.hid hro
  rw [← hn] at hm ⊢
  unfold maxLen at hm
  clear h hc hn hco hro
  go_enter Try.func71, Try.ntmps71
  go_wp2
  go_loop [5, 8] (fun _ i => ∃ k : Nat, i = .int .i64 (k : Int) ∧ k ≤ n ∧ ∀ z ∈ zs.take k, z ∉ outs) (fun _ i => n - (intOf i).toNat)
  case atStart => exact ⟨0, rfl, Nat.zero_le _, by simp⟩
  case round =>
    obtain ⟨k, rfl, hk, hnot⟩ := hrel
    have HNOT := Lib.hid hnot
    clear hnot
    by_cases hlt : k < n
    · obtain ⟨x, hx⟩ : ∃ x, zs[k]? = some x := ⟨_, List.getElem?_eq_getElem (by rw [← HN.out]; exact hlt)⟩
      obtain ⟨g1, off, rfl, hg, hc1, hc2, hcell⟩ := HC.out k x hx
      have HX := Lib.hid hx
      have hc1' : n ≤ c := by rw [HN.out]; exact hc1
      unfold maxLen at hc2
      by_cases hxz : x ∈ outs
      · have HD : Hid (decide (x ∈ outs) = true) := Lib.hid (decide_eq_true hxz)
        have HT : Hid (FirstIn zs outs (k : Int)) := Lib.hid (.inr ⟨k, rfl, by rw [← HN.out]; exact hlt, ⟨x, hx, hxz⟩, HNOT.out⟩)
        clear hx hxz hc1
        go_wp2_with (go_at_call 56; refine (ex1_any HCO.out HRO.out x).mono ?_; rw [HD.out]; rintro e wx ⟨rfl, rfl⟩)
        go_ret
        exact ⟨(k : Int), rfl, HT.out, rfl⟩
      · have HD : Hid (decide (x ∈ outs) = false) := Lib.hid (decide_eq_false hxz)
        have HT : Hid (∀ z ∈ zs.take (k + 1), z ∉ outs) := Lib.hid (by
          rw [take_snocI hx]
          intro z hmem
          rcases List.mem_append.1 hmem with h | h
          · exact HNOT.out z h
          · have : z = x := by simpa using h
            rw [this]; exact hxz)
        clear hx hxz hc1
        go_wp2_with (go_at_call 56; refine (ex1_any HCO.out HRO.out x).mono ?_; rw [HD.out]; rintro e wx ⟨rfl, rfl⟩)
        go_round
        case rel => exact ⟨k + 1, by go_num, by omega, HT.out⟩
        case measure => simp [intOf]; omega
    · have HT : Hid (FirstIn zs outs (-1)) := Lib.hid (.inl ⟨rfl, by
        have := HNOT.out
        rwa [List.take_of_length_le (by rw [← HN.out]; omega)] at this⟩)
      go_wp2
      go_ret
      exact ⟨-1, rfl, HT.out, rfl⟩
set_option maxRecDepth 100000 in
theorem IndexDead_any {w : World} {v outv : Value} {zs outs : List Int} {g : Nat} (h : Row w v 1 (intRows zs)) (hco : w.cell? ⟨g, 20, none⟩ = some outv) (hro : Row w outv 1 (intRows outs)) :
    Calls Try.prog 71 #[v, .func (.func 42) #[.pointer (some ⟨g, 0, none⟩)] #[]] w fun e w' => ∃ r, e = .returned (.int .i64 r) ∧ FirstIn zs outs r ∧ w = w' := by
  obtain ⟨a, c, rfl, hm, hc⟩ := ints_form h
  obtain ⟨n, hn⟩ : ∃ n, n = zs.length := ⟨_, rfl⟩
  have HN := Lib.hid hn
  have HC := Lib.hid hc
  have HCO := Lib.hid hco
  have HRO := Lib.hid hro
  rw [← hn] at hm ⊢
  unfold maxLen at hm
  clear h hc hn hco hro
  go_enter Try.func71, Try.ntmps71
  go_wp2
  go_loop [5, 8] (fun _ i => ∃ k : Nat, i = .int .i64 (k : Int) ∧ k ≤ n ∧ ∀ z ∈ zs.take k, z ∉ outs) (fun _ i => n - (intOf i).toNat)
  case atStart => exact ⟨0, rfl, Nat.zero_le _, by simp⟩
  case round =>
    obtain ⟨k, rfl, hk, hnot⟩ := hrel
    have HNOT := Lib.hid hnot
    clear hnot
    by_cases hlt : k < n
    · obtain ⟨x, hx⟩ : ∃ x, zs[k]? = some x := ⟨_, List.getElem?_eq_getElem (by rw [← HN.out]; exact hlt)⟩
      obtain ⟨g1, off, rfl, hg, hc1, hc2, hcell⟩ := HC.out k x hx
      have HX := Lib.hid hx
      have hc1' : n ≤ c := by rw [HN.out]; exact hc1
      unfold maxLen at hc2
      by_cases hxz : x ∈ outs
      · have HD : Hid (decide (x ∈ outs) = true) := Lib.hid (decide_eq_true hxz)
        have HT : Hid (FirstIn zs outs (k : Int)) := Lib.hid (.inr ⟨k, rfl, by rw [← HN.out]; exact hlt, ⟨x, hx, hxz⟩, HNOT.out⟩)
        clear hx hxz hc1
        go_wp2_with (go_at_call 42; refine (isDead_any HCO.out HRO.out x).mono ?_; rw [HD.out]; rintro e wx ⟨rfl, rfl⟩)
        go_ret
        exact ⟨(k : Int), rfl, HT.out, rfl⟩
      · have HD : Hid (decide (x ∈ outs) = false) := Lib.hid (decide_eq_false hxz)
        have HT : Hid (∀ z ∈ zs.take (k + 1), z ∉ outs) := Lib.hid (by
          rw [take_snocI hx]
          intro z hmem
          rcases List.mem_append.1 hmem with h | h
          · exact HNOT.out z h
          · have : z = x := by simpa using h
            rw [this]; exact hxz)
        clear hx hxz hc1
        go_wp2_with (go_at_call 42; refine (isDead_any HCO.out HRO.out x).mono ?_; rw [HD.out]; rintro e wx ⟨rfl, rfl⟩)
        go_round
        case rel => exact ⟨k + 1, by go_num, by omega, HT.out⟩
        case measure => simp [intOf]; omega
    · have HT : Hid (FirstIn zs outs (-1)) := Lib.hid (.inl ⟨rfl, by
        have := HNOT.out
        rwa [List.take_of_length_le (by rw [← HN.out]; omega)] at this⟩)
      go_wp2
      go_ret
      exact ⟨-1, rfl, HT.out, rfl⟩
theorem ContainsDead_any {w : World} {v outv : Value} {zs outs : List Int} {g : Nat} (h : Row w v 1 (intRows zs)) (hco : w.cell? ⟨g, 20, none⟩ = some outv) (hro : Row w outv 1 (intRows outs)) :
    Calls Try.prog 76 #[v, .func (.func 42) #[.pointer (some ⟨g, 0, none⟩)] #[]] w fun e w' => ∃ b, e = .returned (.bool b) ∧ (b = true ↔ ∃ z ∈ zs, z ∈ outs) ∧ w = w' := by
  have H := Lib.hid (IndexDead_any h hco hro)
  obtain ⟨a, c, rfl, _⟩ := ints_form h
  clear h hco hro
  go_enter Try.func76, Try.ntmps76
  go_wp2_with (go_at_call 71; refine H.out.mono ?_; rintro e wx ⟨r, rfl, hr, rfl⟩; have HQ := Lib.hid hr; clear hr)
  go_ret
  refine ⟨decide (0 ≤ r), rfl, ?_, rfl⟩
  rw [decide_eq_true_eq]
  rcases HQ.out with ⟨h1, h2⟩ | ⟨k, h1, _, ⟨x, h3, h4⟩, _⟩
  · exact ⟨fun h => by omega, fun ⟨z, h3, h4⟩ => absurd h4 (h2 z h3)⟩
  · exact ⟨fun _ => ⟨x, List.mem_of_getElem? h3, h4⟩, fun _ => by omega⟩
end Go.Proofs.Ytpjejaoobbancaa
