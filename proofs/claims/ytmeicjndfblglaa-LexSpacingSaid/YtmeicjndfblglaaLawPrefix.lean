/- LexPrefix's walk. -/
import Derived.Test.YtmeicjndfblglaaOffset
import Derived.Test.YtmeicjndfblglaaLawExact
namespace Go.Proofs.Ytmeicjndfblglaa
open Go.RowKit

theorem scanRes_place {l : List UInt8} (h : l.length ≤ 65536) : scanRes l = match scanK l with
    | (d, none) => ((place l (1, 1) (d, none)).1, 0, 0, 0)
    | (_, some (k, e)) => ([], (adv (l.take k) (1, 1)).1, (adv (l.take k) (1, 1)).2, e) := by
  have hs := scan_place l (1, 1)
  simp only at hs
  cases hk : scanK l with
  | mk d x =>
    rw [hk] at hs
    cases x with
    | none => exact scanRes_ok (by omega) hs
    | some x => obtain ⟨k, e⟩ := x; exact scanRes_err (by omega) hs
theorem prefix_facts {l : List UInt8} (h : l.length ≤ 1000) {d : List Tok} {a b e : Int} (hr : scanRes l = (d, a, b, e)) :
    (e = 0 ∧ a = 0 ∧ b = 0) ∨ (¬ e = 0 ∧ d = [] ∧ ∃ k, k < l.length ∧ adv (l.take k) (1, 1) = (a, b) ∧ (∃ d', scanRes (l.take k) = (d', 0, 0, 0)) ∧ scanRes (l.drop k) = ([], 1, 1, e)) := by
  rw [scanRes_place (by omega)] at hr
  cases hk : scanK l with
  | mk d0 x =>
    rw [hk] at hr
    cases x with
    | none =>
      simp only [Prod.mk.injEq] at hr
      exact .inl ⟨hr.2.2.2.symm, hr.2.1.symm, hr.2.2.1.symm⟩
    | some x =>
      obtain ⟨k, e'⟩ := x
      simp only [Prod.mk.injEq] at hr
      obtain ⟨h1, h2, h3, h4⟩ := hr
      obtain ⟨g0, g1, g2, g3⟩ := scanK_err l d0 k e' hk
      subst h4
      refine .inr ⟨g0, h1.symm, k, g1, by rw [← h2, ← h3], ⟨_, by rw [scanRes_place (by rw [List.length_take]; omega), g2]⟩, ?_⟩
      rw [scanRes_place (by rw [List.length_drop]; omega), g3]
      rfl

set_option maxRecDepth 100000 in
set_option maxHeartbeats 2000000 in
theorem LexPrefix_any (s : ByteArray) (w : World) (hs : s.size ≤ maxLen) :
    Calls Try.prog 6 #[.string s] w fun e w' => e = .returned (.bool true) ∧ Below w.heap.size w w' := by
  have HS := Lib.hid hs
  unfold maxLen at hs
  by_cases hbig : 1000 < s.size
  · go_enter Try.func6, Try.ntmps6
    go_wp2_with (go_at_call 10; refine (awake_any _).mono ?_; rintro e w' ⟨rfl, hb⟩)
    go_ret
    exact ⟨rfl, by assumption⟩
  · obtain ⟨d, a, b, er, hres⟩ : ∃ d a b er, scanRes s.data.toList = (d, a, b, er) := ⟨_, _, _, _, rfl⟩
    have HR := Lib.hid hres
    have hfacts := prefix_facts (by rw [data_len]; omega) hres
    clear hres
    rcases hfacts with ⟨rfl, rfl, rfl⟩ | ⟨he, hd, k, hk, hadv, ⟨d', hr1⟩, hr2⟩
    · go_enter Try.func6, Try.ntmps6
      go_wp2_with fail
      refine (ScanP_any s _ HS.out).mono ?_
      intro e w1 hp
      obtain ⟨va, rfl, hta, hb1⟩ := scan_post HR.out hp
      have HB1 := Lib.hid hb1
      have hz1 := hb1.size
      clear hta hb1 hp
      go_wp2_with (go_at_call 10; refine (awake_any _).mono ?_; rintro e w4 ⟨rfl, hb4⟩)
      go_ret
      refine ⟨rfl, ?_⟩
      exact (HB1.out.alloc hz1 (.cells #[.int .i64 0, .int .i64 0] 35)).trans (Below.mono (B := (w1.alloc (.cells #[.int .i64 0, .int .i64 0] 35)).heap.size) (by assumption) (by simp; omega))
    · rw [data_len] at hk
      subst hd
      have HADV := Lib.hid hadv
      have be1 : (er == 0) = false := by rw [beq_eq_false_iff_ne]; exact he
      have hsz : s.size ≤ 65536 := by omega
      have hr1' : scanRes (s.extract 0 k).data.toList = (d', 0, 0, 0) := by rw [Lib.extract_from_zero]; exact hr1
      have hr2' : scanRes (s.extract k s.size).data.toList = ([], 1, 1, er) := by rw [Lib.extract_to_end]; exact hr2
      have HR1 := Lib.hid hr1'
      have HR2 := Lib.hid hr2'
      clear hr1 hr2 hr1' hr2' hadv he
      go_enter Try.func6, Try.ntmps6
      go_wp2_with fail
      refine (ScanP_any s _ HS.out).mono ?_
      intro e w1 hp
      obtain ⟨va, rfl, hta, hb1⟩ := scan_post HR.out hp
      have HB1 := Lib.hid hb1
      have hz1 := hb1.size
      have hva : ∃ sa cap, va = .slice sa 0 cap := by
        rcases hta.2 with ⟨_, h⟩ | ⟨g, o, c, h, _⟩
        · exact ⟨_, _, h⟩
        · exact ⟨_, _, h⟩
      obtain ⟨sa, cap, rfl⟩ := hva
      clear hta hb1 hp
      go_wp2_with fail
      refine (offset_any s a b k _ hsz (by omega) HADV).mono ?_
      rintro e w2 ⟨rfl, hb2⟩
      have HB2 := Lib.hid hb2
      have hz2 : w1.heap.size + 1 ≤ w2.heap.size := by have := hb2.size; simpa using this
      clear hb2
      go_wp2_with fail
      refine (ScanP_any (s.extract 0 k) _ (by simp [maxLen]; omega)).mono ?_
      intro e w3 hp
      obtain ⟨vb, rfl, _, hb3⟩ := scan_post HR1.out hp
      have HB3 := Lib.hid hb3
      have hz3 := hb3.size
      clear hb3 hp
      go_wp2_with fail
      refine (ScanP_any (s.extract k s.size) _ (by simp [maxLen]; omega)).mono ?_
      intro e w4 hp
      obtain ⟨vc, rfl, _, hb4⟩ := scan_post HR2.out hp
      have HB4 := Lib.hid hb4
      have hz4 := hb4.size
      clear hb4 hp
      go_wp2_with (go_at_call 10; refine (awake_any _).mono ?_; rintro e w5 ⟨rfl, hb5⟩)
      go_ret
      refine ⟨rfl, ?_⟩
      have hz4' : w3.heap.size + 1 ≤ w4.heap.size := by simpa using hz4
      have c1 := HB1.out.alloc hz1 (.cells #[.int .i64 a, .int .i64 b] 35)
      have c2 := c1.trans (HB2.out.mono (by simp; omega))
      have c3 := (c2.trans (HB3.out.mono (by omega))).alloc (by omega) (.cells #[.int .i64 0, .int .i64 0] 35)
      have c4 := (c3.trans (HB4.out.mono (by simp; omega))).alloc (by omega) (.cells #[.int .i64 1, .int .i64 1] 35)
      exact c4.trans (Below.mono (B := (w4.alloc (.cells #[.int .i64 1, .int .i64 1] 35)).heap.size) (by assumption) (by simp; omega))
end Go.Proofs.Ytmeicjndfblglaa
