/- LexRoundTrip: what the law returns. -/
import Derived.Test.YtmeicjndfblglaaDoorLawFormat
set_option linter.unusedVariables false
set_option linter.unusedSimpArgs false
set_option linter.unusedSectionVars false
namespace Go.Proofs.YtmeicjndfblglaaDoor
open Go.RowKit

set_option maxRecDepth 100000 in
set_option maxHeartbeats 4000000 in
theorem LexRoundTrip_any (va : Value) (d : List Tok) (w : World) (h : Toks w va d) (hp : Pow w) :
    Calls Tryd.prog 4 #[va] w fun e w' => e = .returned (.bool true) ∧ Below w.heap.size w w' := by
  have HP := Lib.hid hp
  clear hp
  rcases Bool.eq_false_or_eq_true (rightB d) with hr | hr
  · have hlen : d.length ≤ 100 := by unfold rightB at hr; simp only [Bool.and_eq_true, decide_eq_true_eq] at hr; exact hr.1
    have hall : ∀ t ∈ d, okTok t = true := by unfold rightB at hr; simp only [Bool.and_eq_true, List.all_eq_true] at hr; exact hr.2
    have hrs : ∀ r ∈ d.map (·.raw), (0 ≤ r.value ∧ r.value ≤ 18446744073709551615) ∧ (textOf r).2 = true ∧ r.text.length ≤ 200 := by
      intro r hr
      obtain ⟨t, ht, rfl⟩ := List.mem_map.1 hr
      have h3 := hall t ht
      unfold okTok at h3
      simp only [Bool.and_eq_true, decide_eq_true_eq] at h3
      exact ⟨(h.2 t ht).2, h3⟩
    have hpl := joinK_scan (d.map (·.raw)) (by rw [List.length_map]; exact hlen) hrs
    have hfl : formatL (d.map (·.raw)) = joinK (d.map (·.raw)) (d.map (·.raw)).length := formatL_good fun r hr => (hrs r hr).2.1
    have hfew : fewB d := ⟨by omega, fun t ht => ⟨(hrs t.raw (List.mem_map.2 ⟨t, ht, rfl⟩)).2.2, (hrs t.raw (List.mem_map.2 ⟨t, ht, rfl⟩)).1⟩⟩
    obtain ⟨hl9, dd, hsc, hdd⟩ := hpl
    rw [← hfl] at hl9 hsc
    have hfew2 : fewB dd := by
      have hl : dd.length = d.length := by have := congrArg List.length hdd; simpa using this
      refine ⟨by omega, fun t ht => ?_⟩
      have : t.raw ∈ d.map (·.raw) := by rw [← hdd]; exact List.mem_map.2 ⟨t, ht, rfl⟩
      exact ⟨(hrs _ this).2.2, (hrs _ this).1⟩
    obtain ⟨fm, hfm⟩ : ∃ fm, fm = str (formatL (d.map (·.raw))) := ⟨_, rfl⟩
    have hfs : fm.size ≤ 65536 := by rw [hfm, str_size]; exact hl9
    have hsc' : scanRes fm.data.toList = (dd, 0, 0, 0) := by rw [hfm, data_str]; exact hsc
    have hfm2 : str (formatL (dd.map (·.raw))) = fm := by rw [hdd, hfm]
    have H := Lib.hid h
    have HFEW := Lib.hid hfew
    have HFEW2 := Lib.hid hfew2
    have HFM := Lib.hid hfm
    have HFM2 := Lib.hid hfm2
    have HSC := Lib.hid hsc'
    have HDD := Lib.hid hdd
    clear h hall hrs hfl hfew hfew2 hl9 hsc hsc' hdd hfm hfm2
    go_enter Tryd.func4, Tryd.ntmps4
    go_wp2_with fail
    refine (right_any va d _ H.out).mono ?_
    rintro e w1 ⟨rfl, hb1⟩
    have HB1 := Lib.hid hb1
    have H1 := Lib.hid (H.out.below hb1)
    have HP1 := Lib.hid (HP.out.below hb1)
    have hz1 := hb1.size
    clear hb1
    go_wp2_with fail
    refine (FormatP_any va d _ H1.out.rd HFEW.out HP1.out).mono ?_
    rintro e w2 ⟨rfl, hb2⟩
    rw [← HFM.out]
    have HB2 := Lib.hid (HB1.out.trans (hb2.mono hz1))
    have H2 := Lib.hid (H1.out.below hb2)
    have HP2 := Lib.hid (HP1.out.below hb2)
    have hz2 := HB2.out.size
    clear hb2
    go_wp2_with fail
    refine (ScanP_any _ _ (by unfold maxLen; omega)).mono ?_
    intro e w3 hps
    obtain ⟨vb, rfl, htb, hb3⟩ := scan_post HSC.out hps
    have HB3 := Lib.hid (HB2.out.trans (hb3.mono hz2))
    have hz3 := HB3.out.size
    have HTB := Lib.hid htb
    have H3 := Lib.hid (H2.out.below hb3)
    have HP3 := Lib.hid (HP2.out.below hb3)
    clear htb hb3 hps
    go_wp2_with fail
    have hal := (Below.refl w3.heap.size w3).alloc (Nat.le_refl _) (.cells #[.int .i64 0, .int .i64 0] 26)
    have HAL := Lib.hid hal
    clear hal
    refine (same_toks _ _ d dd _ (H3.out.below HAL.out) (HTB.out.below HAL.out) HDD.out hlen).mono ?_
    rintro e w4 ⟨rfl, hb4⟩
    have hz4 : w3.heap.size + 1 ≤ w4.heap.size := by have := hb4.size; simpa using this
    have hb34 := HAL.out.trans (hb4.mono (by simp))
    have HB4 := Lib.hid (HB3.out.trans (hb34.mono hz3))
    have HTB4 := Lib.hid (HTB.out.below hb34)
    have HP4 := Lib.hid (HP3.out.below hb34)
    clear hb4 hb34
    go_wp2_with fail
    refine (FormatP_any vb dd _ HTB4.out.rd HFEW2.out HP4.out).mono ?_
    rintro e w5 ⟨rfl, hb5⟩
    rw [HFM2.out]
    have hz5 := hb5.size
    have HB5 := Lib.hid (HB4.out.trans (hb5.mono (by omega)))
    clear hb5
    go_wp2_with (go_at_call 5; refine (awake_any _).mono ?_; rintro e w6 ⟨rfl, hb6⟩)
    go_ret
    exact ⟨rfl, HB5.out.trans (Below.mono (by assumption) (by omega))⟩
  · have H := Lib.hid h
    clear h
    go_enter Tryd.func4, Tryd.ntmps4
    go_wp2_with fail
    refine (right_any va d _ H.out).mono ?_
    rintro e w1 ⟨rfl, hb1⟩
    have HB1 := Lib.hid hb1
    have hz1 := hb1.size
    clear hb1 H
    go_wp2_with (go_at_call 5; refine (awake_any _).mono ?_; rintro e w2 ⟨rfl, hb2⟩)
    go_ret
    exact ⟨rfl, HB1.out.trans (Below.mono (B := w1.heap.size) (by assumption) hz1)⟩
end Go.Proofs.YtmeicjndfblglaaDoor
