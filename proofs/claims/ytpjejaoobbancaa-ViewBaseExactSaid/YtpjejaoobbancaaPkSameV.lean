/- The references' SameInts and SameView. -/
import Derived.Test.YtpjejaoobbancaaPkSlc
import Derived.Test.YtpjejaoobbancaaPkAppR
import Derived.Test.YtpjejaoobbancaaPkMkRep
import Derived.BigQuiet
set_option linter.unusedVariables false
set_option linter.unusedSimpArgs false
set_option linter.unusedSectionVars false
namespace Go.Proofs.Ytpjejaoobbancaa
open Go.RowKit Go.BigFrame

theorem row_atS {w : World} {a : Option Addr} {n c : Nat} {zs : List Int} (h : Row w (.slice a n c) 1 (intRows zs)) {k : Nat} {x : Int} (hx : zs[k]? = some x) : ∃ g off, a = some ⟨g, off, none⟩ ∧ g < w.heap.size ∧ n ≤ c ∧ c ≤ maxLen ∧ w.cell? ⟨g, off + k, none⟩ = some (.int .i64 x) := by
  obtain ⟨a', c', hv, _, hf⟩ := ints_form h
  simp only [Value.slice.injEq] at hv
  obtain ⟨rfl, rfl, rfl⟩ := hv
  obtain ⟨g, off, h1, h2, h3, h4, h5⟩ := hf k x hx
  exact ⟨g, off, h1, h2, h3, h4, h5⟩
set_option maxRecDepth 100000 in
set_option maxHeartbeats 8000000 in
theorem SameInts_any {v u : Value} {l1 l2 : List Int} {w : World} (h1 : Row w v 1 (intRows l1)) (h2 : Row w u 1 (intRows l2)) :
    Calls Try.prog 39 #[v, u] w fun e w' => e = .returned (.bool (decide (l1 = l2))) ∧ Below w.heap.size w w' := by
  have H1 := Lib.hid h1
  have H2 := Lib.hid h2
  obtain ⟨a, c, rfl, hm, _⟩ := ints_form h1
  obtain ⟨b, d, rfl, hm2, _⟩ := ints_form h2
  obtain ⟨n, hn⟩ : ∃ n, n = l1.length := ⟨_, rfl⟩
  obtain ⟨m, hmm⟩ : ∃ m, m = l2.length := ⟨_, rfl⟩
  have HN := Lib.hid hn
  have HM := Lib.hid hmm
  rw [← hn] at H1 hm ⊢
  rw [← hmm] at H2 hm2 ⊢
  unfold maxLen at hm hm2
  clear h1 h2 hn hmm
  obtain ⟨r, hr⟩ : ∃ r, r = decide (l1 = l2) := ⟨_, rfl⟩
  have HR := Lib.hid hr
  rw [← hr]
  clear hr
  have KN := Kn.start w
  by_cases hnm : n = m
  · subst hnm
    have e0 : ((n : Int) == (n : Int)) = true := beq_self_eq_true _
    have e1 : ((n : Int) != (n : Int)) = false := by simp
    go_enter Try.func39, Try.ntmps39
    go_wp2_with fail
    go_loopw [5] (fun i wr => ∃ k : Nat, i = .int .i64 (k : Int) ∧ k ≤ n ∧ l1.take k = l2.take k ∧ Kn [] w wr []) (fun i _ => n - (intOf i).toNat)
    case atStart => exact ⟨0, rfl, Nat.zero_le _, rfl, KN⟩
    case round =>
      clear KN
      obtain ⟨k, rfl, hk, ht, KN⟩ := hrel
      have HT := Lib.hid ht
      clear ht
      by_cases hlt : k < n
      · obtain ⟨x, hx⟩ : ∃ x, l1[k]? = some x := ⟨_, List.getElem?_eq_getElem (by rw [← HN.out]; exact hlt)⟩
        obtain ⟨y, hy⟩ : ∃ y, l2[k]? = some y := ⟨_, List.getElem?_eq_getElem (by rw [← HM.out]; exact hlt)⟩
        obtain ⟨g, off, rfl, hg, hc1, hc2, hcell⟩ := row_atS (H1.out.below KN.toBelow) hx
        obtain ⟨g', off', rfl, hg', hc1', hc2', hcell'⟩ := row_atS (H2.out.below KN.toBelow) hy
        unfold maxLen at hc2 hc2'
        have HX := Lib.hid hx
        have HY := Lib.hid hy
        clear hx hy
        go_upto_region 6 with fail
        (try go_frame)
        go_quiet (fail)
        rename_i nq
        replace KN := KN.drewN nq
        clear hcell hcell'
        by_cases hxy : x = y
        · have e2 : (x == y) = true := beq_iff_eq.2 hxy
          have e3 : (x != y) = false := by simp [hxy]
          have HNX : Hid (l1.take (k + 1) = l2.take (k + 1)) := Lib.hid (by rw [take_snocI HX.out, take_snocI HY.out, HT.out, hxy])
          clear hxy
          go_wp2_with fail
          go_roundw
          case rel => exact ⟨k + 1, by go_num, by omega, HNX.out, KN⟩
          case measure => simp [intOf]; omega
        · have e2 : (x == y) = false := beq_eq_false_iff_ne.2 hxy
          have e3 : (x != y) = true := by simp [hxy]
          have HF : Hid (r = false) := Lib.hid (by rw [HR.out]; exact decide_eq_false (fun q => hxy (by have := HX.out; rw [q, HY.out] at this; simpa using this.symm)))
          clear hxy
          go_wp2_with fail
          go_ret
          exact ⟨by rw [HF.out]; rfl, KN.toBelow⟩
      · obtain rfl : k = n := by omega
        have HF : Hid (r = true) := Lib.hid (by
          rw [HR.out]
          have := HT.out
          rw [List.take_of_length_le (by rw [← HN.out]; exact Nat.le_refl _), List.take_of_length_le (by rw [← HM.out]; exact Nat.le_refl _)] at this
          exact decide_eq_true this)
        go_wp2_with fail
        go_ret
        exact ⟨by rw [HF.out]; rfl, KN.toBelow⟩
  · have e0 : ((n : Int) == (m : Int)) = false := beq_eq_false_iff_ne.2 (by omega)
    have e1 : ((n : Int) != (m : Int)) = true := by simp; omega
    have HF : Hid (r = false) := Lib.hid (by rw [HR.out]; exact decide_eq_false (fun q => hnm (by rw [HN.out, HM.out, q])))
    clear hnm
    go_enter Try.func39, Try.ntmps39
    go_wp2_with fail
    go_ret
    exact ⟨by rw [HF.out]; rfl, Below.refl _ _⟩
set_option maxRecDepth 100000 in
set_option maxHeartbeats 8000000 in
theorem SameView_any {x y : Int} {m1 m2 o1 o2 : SL} {a1 a2 b1 b2 : List Int} {w : World} (h1 : Row w m1.v 1 (intRows a1)) (h2 : Row w m2.v 1 (intRows a2)) (h3 : Row w o1.v 1 (intRows b1)) (h4 : Row w o2.v 1 (intRows b2)) :
    Calls Try.prog 14 #[.agg #[.int .i64 x, m1.v, o1.v], .agg #[.int .i64 y, m2.v, o2.v]] w fun e w' => e = .returned (.bool (x == y && decide (a1 = a2) && decide (b1 = b2))) ∧ Below w.heap.size w w' := by
  obtain ⟨ma, mn, mc⟩ := m1
  obtain ⟨na, nn, nc⟩ := m2
  obtain ⟨oa, on, oc⟩ := o1
  obtain ⟨pa, pn, pc⟩ := o2
  have H1 : Hid (Row w (.slice ma mn mc) 1 (intRows a1)) := Lib.hid h1
  have H2 : Hid (Row w (.slice na nn nc) 1 (intRows a2)) := Lib.hid h2
  have H3 : Hid (Row w (.slice oa on oc) 1 (intRows b1)) := Lib.hid h3
  have H4 : Hid (Row w (.slice pa pn pc) 1 (intRows b2)) := Lib.hid h4
  clear h1 h2 h3 h4
  have KN := Kn.start w
  obtain ⟨q1, hq1⟩ : ∃ q, q = (x == y) := ⟨_, rfl⟩
  obtain ⟨q2, hq2⟩ : ∃ q, q = decide (a1 = a2) := ⟨_, rfl⟩
  obtain ⟨q3, hq3⟩ : ∃ q, q = decide (b1 = b2) := ⟨_, rfl⟩
  have HQ2 := Lib.hid hq2
  have HQ3 := Lib.hid hq3
  rw [← hq1, ← hq2, ← hq3]
  clear hq2 hq3
  have e1 := hq1.symm
  clear hq1
  show Calls Try.prog 14 #[.agg #[.int .i64 x, .slice ma mn mc, .slice oa on oc], .agg #[.int .i64 y, .slice na nn nc, .slice pa pn pc]] w _
  cases q1 <;> cases q2 <;> cases q3 <;>
  · go_enter Try.func14, Try.ntmps14
    go_upto_region 1 with (first | ((with_reducible refine wpList_gate ?_); first | ((with_reducible refine gate_load ?_ ?_); rfl; first | (refine ks_load1 KN 3 Try.underlying3 ?_) | (refine ks_load1 KN 22 Try.underlying22 ?_)) | ((with_reducible refine gate_new ?_ ?_); rfl; first | (refine ks_boxA KN 30 (q := 2) ?_; clear KN; intro g2 wx hg2 KN) | (refine ks_boxA KN 30 (q := 3) ?_; clear KN; intro g3 wx hg3 KN))))
    (try go_frame)
    have HC1 := Lib.hid (SameInts_any (H1.out.below KN.toBelow) (H2.out.below KN.toBelow))
    rw [← HQ2.out] at HC1
    go_wp2_with (first | (go_at_call 39; with_reducible refine HC1.out.mono ?_; rintro e wx ⟨rfl, hb⟩; replace KN := KN.below hb; clear hb) | (go_at_call 39; have HC2 := SameInts_any (H3.out.below KN.toBelow) (H4.out.below KN.toBelow); rw [← HQ3.out] at HC2; with_reducible refine HC2.mono ?_; clear HC2; rintro e wx ⟨rfl, hb⟩; replace KN := KN.below hb; clear hb) | ((with_reducible refine wpList_gate ?_); first | ((with_reducible refine gate_load ?_ ?_); rfl; first | (refine ks_load1 KN 3 Try.underlying3 ?_) | (refine ks_load1 KN 22 Try.underlying22 ?_)) | ((with_reducible refine gate_new ?_ ?_); rfl; first | (refine ks_boxA KN 30 (q := 2) ?_; clear KN; intro g2 wx hg2 KN) | (refine ks_boxA KN 30 (q := 3) ?_; clear KN; intro g3 wx hg3 KN))))
    go_ret

    exact ⟨rfl, KN.toBelow⟩
end Go.Proofs.Ytpjejaoobbancaa
