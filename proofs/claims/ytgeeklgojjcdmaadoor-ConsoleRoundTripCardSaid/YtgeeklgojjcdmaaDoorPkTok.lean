/- The program's 'token'. -/
import Derived.Test.YtgeeklgojjcdmaaDoorPkNum
import Derived.Test.YtgeeklgojjcdmaaDoorPkBase0
import Derived.Lib.Split
set_option linter.unusedVariables false
set_option linter.unusedSimpArgs false
set_option linter.unusedSectionVars false
namespace Go.Proofs.YtgeeklgojjcdmaaDoor
open Go.RowKit

theorem extract_str (s : ByteArray) (k : Nat) : s.extract 0 k = str (s.data.toList.take k) := bytes_ext (by rw [Lib.extract_data, data_str]; simp)
theorem extract_str2 (s : ByteArray) (j k : Nat) : s.extract j k = str ((s.data.toList.drop j).take (k - j)) := bytes_ext (by rw [Lib.extract_data, data_str])

theorem tok_fin {l : List UInt8} {w : World} {r : Raw} {n : Nat} {err : Int} (hf : lexOne l = (r, n, err)) {v : Array Value} (hv : v = r.cells 0 0) {n' : Int} (hn : n' = n) :
    Ending.returned (.tuple #[.agg v, .int .i64 n', .int .i64 err]) = Ending.returned (.tuple #[.agg ((lexOne l).1.cells 0 0), .int .i64 (lexOne l).2.1, .int .i64 (lexOne l).2.2]) ∧
      w.alloc (.cells v 52) = w.alloc (.cells ((lexOne l).1.cells 0 0) 52) := by
  rw [hf]; subst hv hn; exact ⟨rfl, rfl⟩

set_option maxRecDepth 100000 in
set_option maxHeartbeats 2000000 in
theorem token_any (s : ByteArray) (w : World) (hs : s.size ≤ maxLen) (hp : 0 < s.size) :
    Calls Tryd.prog 35 #[.string s] w fun e w' => e = .returned (.tuple #[.agg ((lexOne s.data.toList).1.cells 0 0), .int .i64 (lexOne s.data.toList).2.1, .int .i64 (lexOne s.data.toList).2.2]) ∧
      w' = w.alloc (.cells ((lexOne s.data.toList).1.cells 0 0) 52) := by
  unfold maxLen at hs
  have hc := data_cons hp
  have hr : runLen s.data.toList ≤ s.size := runLen_le _
  rcases Bool.eq_false_or_eq_true (letterB s[0].toNat) with h1 | h1
  · have hf : lexOne s.data.toList = (⟨1, s.data.toList.take (runLen s.data.toList), 0⟩, runLen s.data.toList, 0) := by rw [hc]; exact lexOne_letter h1
    have HF := Lib.hid hf
    clear hf hc
    go_enter Tryd.func35, Tryd.ntmps35
    go_wp2_with (first | (go_at_call 51; refine (isLetter_any _ _).mono ?_; rintro e w' ⟨rfl, rfl⟩) | (go_at_call 52; refine (run_any _ _ (by unfold maxLen; omega)).mono ?_; rintro e w' ⟨rfl, rfl⟩))
    refine bodyPost_ret ?_ rfl (tok_fin HF.out (by rw [extract_str]; rfl) (n' := runLen s.data.toList) rfl)
    simp [results, Tryd.results35, go_sem]
  · rcases Bool.eq_false_or_eq_true (digitB s[0].toNat) with h2 | h2
    · have hrp : 0 < runLen s.data.toList := by
        rw [hc]; unfold runLen; rw [List.takeWhile_cons_of_pos (by simp [alnumB, h2])]; simp
      by_cases h3 : (numeral (s.data.toList.take (runLen s.data.toList))).2 = 0
      · have hf : lexOne s.data.toList = (⟨2, [], (numeral (s.data.toList.take (runLen s.data.toList))).1⟩, runLen s.data.toList, 0) := by
          rw [hc] at h3 ⊢; exact lexOne_num h1 h2 h3
        have HF := Lib.hid hf
        have h4 : ((numeral (s.data.toList.take (runLen s.data.toList))).2 != 0) = false := by rw [h3]; rfl
        have H3 := Lib.hid h3
        clear hf hc h3
        go_enter Tryd.func35, Tryd.ntmps35
        go_wp2_with (first | (go_at_call 51; refine (isLetter_any _ _).mono ?_; rintro e w' ⟨rfl, rfl⟩) | (go_at_call 53; refine (isDigit_any _ _).mono ?_; rintro e w' ⟨rfl, rfl⟩) | (go_at_call 52; refine (run_any _ _ (by unfold maxLen; omega)).mono ?_; rintro e w' ⟨rfl, rfl⟩) | (go_at_call 54; refine (number_any _ _ ?ha ?hb).mono ?_; (case ha => simp [maxLen]; omega); (case hb => simp; omega); rintro e w' ⟨rfl, rfl⟩) | (go_at_call 55; refine (inString_any _ _).mono ?_; rintro e w' ⟨rfl, rfl⟩) | (go_at_call 56; refine (punct_any _ _ (by unfold maxLen; omega)).mono ?_; rintro e w' ⟨rfl, rfl⟩))
        refine bodyPost_ret ?_ rfl (tok_fin HF.out (by rfl) (n' := runLen s.data.toList) rfl)
        simp [results, Tryd.results35, go_sem]
      · have hf : lexOne s.data.toList = (Raw.bad, 0, (numeral (s.data.toList.take (runLen s.data.toList))).2) := by
          rw [hc] at h3 ⊢; exact lexOne_numbad h1 h2 h3
        have HF := Lib.hid hf
        have h4 : ((numeral (s.data.toList.take (runLen s.data.toList))).2 != 0) = true := by rw [bne_iff_ne]; exact h3
        have H3 := Lib.hid h3
        clear hf hc h3
        go_enter Tryd.func35, Tryd.ntmps35
        go_wp2_with (first | (go_at_call 51; refine (isLetter_any _ _).mono ?_; rintro e w' ⟨rfl, rfl⟩) | (go_at_call 53; refine (isDigit_any _ _).mono ?_; rintro e w' ⟨rfl, rfl⟩) | (go_at_call 52; refine (run_any _ _ (by unfold maxLen; omega)).mono ?_; rintro e w' ⟨rfl, rfl⟩) | (go_at_call 54; refine (number_any _ _ ?ha ?hb).mono ?_; (case ha => simp [maxLen]; omega); (case hb => simp; omega); rintro e w' ⟨rfl, rfl⟩) | (go_at_call 55; refine (inString_any _ _).mono ?_; rintro e w' ⟨rfl, rfl⟩) | (go_at_call 56; refine (punct_any _ _ (by unfold maxLen; omega)).mono ?_; rintro e w' ⟨rfl, rfl⟩))
        refine bodyPost_ret ?_ rfl (tok_fin HF.out (by rfl) (n' := 0) rfl)
        simp [results, Tryd.results35, go_sem]
    · by_cases h3 : s[0].toNat = 34
      · have h3' : ((s[0].toNat : Int) == 34) = true := by rw [h3]; rfl
        have hst := strLen_le (s.data.toList.drop 1)
        rw [List.length_drop, data_len] at hst
        by_cases h5 : ((s.data.toList.drop 1).drop (strLen (s.data.toList.drop 1))).head? = some 34
        · have hf : lexOne s.data.toList = (⟨3, (s.data.toList.drop 1).take (strLen (s.data.toList.drop 1)), 0⟩, strLen (s.data.toList.drop 1) + 2, 0) := by
            rw [hc]; exact lexOne_str h1 h2 h3 h5
          have HF := Lib.hid hf
          have HC := Lib.hid hc
          have hq : ∃ h : strLen (s.data.toList.drop 1) + 1 < s.size, s[strLen (s.data.toList.drop 1) + 1].toNat = 34 := by
            rw [List.drop_drop, List.head?_drop] at h5
            have hi : strLen (s.data.toList.drop 1) + 1 < s.size := by
              have := (List.getElem?_eq_some_iff.1 h5).1; rw [data_len] at this; omega
            refine ⟨hi, ?_⟩
            rw [Nat.add_comm, List.getElem?_eq_getElem (l := s.data.toList) (by rw [data_len]; exact hi)] at h5
            exact congrArg UInt8.toNat (Option.some.inj h5)
          have HQ := Lib.hid hq
          clear hq
          clear hf hc h3 h5
          go_enter Tryd.func35, Tryd.ntmps35
          go_upto_block 1 with (first | (go_at_call 51; refine (isLetter_any _ _).mono ?_; rintro e w' ⟨rfl, rfl⟩) | (go_at_call 53; refine (isDigit_any _ _).mono ?_; rintro e w' ⟨rfl, rfl⟩) | (go_at_call 55; refine (inString_any _ _).mono ?_; rintro e w' ⟨rfl, rfl⟩))
          go_cut [10] (fun s10 wx => s10 = .int .i64 ((strLen (s.data.toList.drop 1) + 1 : Nat)) ∧ wx = w.alloc (.cells #[.int .i64 0, .string ⟨#[]⟩, .int .u64 0, .int .i64 0, .int .i64 0] 52))
          case first =>
            go_wp2_with fail
            go_loop [10] (fun i => ∃ k : Nat, 1 ≤ k ∧ k ≤ s.size ∧ AllP plainB ((s.data.toList.take k).drop 1) ∧ i = .int .i64 k) (fun i => s.size - (intOf i).toNat)
            case atStart => exact ⟨1, Nat.le_refl _, by omega, by simp [AllP], rfl⟩
            case round =>
              obtain ⟨k, hk1, hk, ha, rfl⟩ := hrel
              have HA := Lib.hid ha
              clear ha
              by_cases hlt : k < s.size
              · rcases Bool.eq_false_or_eq_true (plainB s[k].toNat) with h6 | h6
                · go_wp2_with (first | (go_at_call 51; refine (isLetter_any _ _).mono ?_; rintro e w' ⟨rfl, rfl⟩) | (go_at_call 53; refine (isDigit_any _ _).mono ?_; rintro e w' ⟨rfl, rfl⟩) | (go_at_call 55; refine (inString_any _ _).mono ?_; rintro e w' ⟨rfl, rfl⟩))
                  go_round
                  case rel => exact ⟨k + 1, by omega, by omega, AllP.snoc1 HA.out hk1 hlt h6, by go_num⟩
                  case measure => simp [intOf]; omega
                · go_wp2_with (first | (go_at_call 51; refine (isLetter_any _ _).mono ?_; rintro e w' ⟨rfl, rfl⟩) | (go_at_call 53; refine (isDigit_any _ _).mono ?_; rintro e w' ⟨rfl, rfl⟩) | (go_at_call 55; refine (inString_any _ _).mono ?_; rintro e w' ⟨rfl, rfl⟩))
                  go_meet
                  case rel => exact ⟨vint (by rw [strLen_from hk1 hk HA.out (fun _ => h6)]; omega), rfl⟩
              · go_wp2
                go_meet
                case rel => exact ⟨vint (by rw [strLen_from hk1 hk HA.out (fun h => absurd h hlt)]; omega), rfl⟩
          case rest =>
            obtain ⟨rfl, rfl⟩ := hcut
            obtain ⟨m, hm⟩ : ∃ m, m = strLen (s.data.toList.drop 1) := ⟨_, rfl⟩
            have HM := Lib.hid hm
            rw [← hm] at hst ⊢
            clear hm
            obtain ⟨hi, h7⟩ := HQ.out
            simp only [← HM.out] at hi h7
            have h7' : ((s[m + 1].toNat : Int) != 34) = false := by rw [h7]; rfl
            have h8 : (((m : Int) + 1) == (s.size : Int)) = false := by rw [beq_eq_false_iff_ne]; omega
            clear h7 HQ
            go_wp2
            refine bodyPost_ret ?_ rfl (tok_fin HF.out (by rw [extract_str2]; simp [Raw.cells, HM.out]) (n' := (m : Int) + 1 + 1) (by rw [← HM.out]; omega))
            simp [results, Tryd.results35, go_sem]
        · have hf : lexOne s.data.toList = (Raw.bad, 0, 50) := by
            rw [hc]; exact lexOne_strbad h1 h2 h3 h5
          have HF := Lib.hid hf
          have HC := Lib.hid hc
          have hq : ∀ h : strLen (s.data.toList.drop 1) + 1 < s.size, ¬ s[strLen (s.data.toList.drop 1) + 1].toNat = 34 := by
            intro hi h6
            refine h5 ?_
            rw [List.drop_drop, List.head?_drop, Nat.add_comm, List.getElem?_eq_getElem (l := s.data.toList) (by rw [data_len]; exact hi)]
            exact congrArg some (UInt8.toNat_inj.1 h6)
          have HQ := Lib.hid hq
          clear hq
          clear hf hc h3 h5
          go_enter Tryd.func35, Tryd.ntmps35
          go_upto_block 1 with (first | (go_at_call 51; refine (isLetter_any _ _).mono ?_; rintro e w' ⟨rfl, rfl⟩) | (go_at_call 53; refine (isDigit_any _ _).mono ?_; rintro e w' ⟨rfl, rfl⟩) | (go_at_call 55; refine (inString_any _ _).mono ?_; rintro e w' ⟨rfl, rfl⟩))
          go_cut [10] (fun s10 wx => s10 = .int .i64 ((strLen (s.data.toList.drop 1) + 1 : Nat)) ∧ wx = w.alloc (.cells #[.int .i64 0, .string ⟨#[]⟩, .int .u64 0, .int .i64 0, .int .i64 0] 52))
          case first =>
            go_wp2_with fail
            go_loop [10] (fun i => ∃ k : Nat, 1 ≤ k ∧ k ≤ s.size ∧ AllP plainB ((s.data.toList.take k).drop 1) ∧ i = .int .i64 k) (fun i => s.size - (intOf i).toNat)
            case atStart => exact ⟨1, Nat.le_refl _, by omega, by simp [AllP], rfl⟩
            case round =>
              obtain ⟨k, hk1, hk, ha, rfl⟩ := hrel
              have HA := Lib.hid ha
              clear ha
              by_cases hlt : k < s.size
              · rcases Bool.eq_false_or_eq_true (plainB s[k].toNat) with h6 | h6
                · go_wp2_with (first | (go_at_call 51; refine (isLetter_any _ _).mono ?_; rintro e w' ⟨rfl, rfl⟩) | (go_at_call 53; refine (isDigit_any _ _).mono ?_; rintro e w' ⟨rfl, rfl⟩) | (go_at_call 55; refine (inString_any _ _).mono ?_; rintro e w' ⟨rfl, rfl⟩))
                  go_round
                  case rel => exact ⟨k + 1, by omega, by omega, AllP.snoc1 HA.out hk1 hlt h6, by go_num⟩
                  case measure => simp [intOf]; omega
                · go_wp2_with (first | (go_at_call 51; refine (isLetter_any _ _).mono ?_; rintro e w' ⟨rfl, rfl⟩) | (go_at_call 53; refine (isDigit_any _ _).mono ?_; rintro e w' ⟨rfl, rfl⟩) | (go_at_call 55; refine (inString_any _ _).mono ?_; rintro e w' ⟨rfl, rfl⟩))
                  go_meet
                  case rel => exact ⟨vint (by rw [strLen_from hk1 hk HA.out (fun _ => h6)]; omega), rfl⟩
              · go_wp2
                go_meet
                case rel => exact ⟨vint (by rw [strLen_from hk1 hk HA.out (fun h => absurd h hlt)]; omega), rfl⟩
          case rest =>
            obtain ⟨rfl, rfl⟩ := hcut
            obtain ⟨m, hm⟩ : ∃ m, m = strLen (s.data.toList.drop 1) := ⟨_, rfl⟩
            have HM := Lib.hid hm
            rw [← hm] at hst ⊢
            clear hm
            by_cases hi : m + 1 < s.size
            · have h7 : ¬ s[m + 1].toNat = 34 := by
                have := HQ.out
                simp only [← HM.out] at this
                exact this hi
              have h7' : ((s[m + 1].toNat : Int) != 34) = true := by rw [bne_iff_ne]; omega
              have h8 : (((m : Int) + 1) == (s.size : Int)) = false := by rw [beq_eq_false_iff_ne]; omega
              clear h7 HQ
              go_wp2
              refine bodyPost_ret ?_ rfl (tok_fin HF.out (by rfl) (n' := 0) rfl)
              simp [results, Tryd.results35, go_sem]
            · have h8 : (((m : Int) + 1) == (s.size : Int)) = true := by rw [beq_iff_eq]; omega
              clear HQ
              go_wp2
              refine bodyPost_ret ?_ rfl (tok_fin HF.out (by rfl) (n' := 0) rfl)
              simp [results, Tryd.results35, go_sem]
      · have h3' : ((s[0].toNat : Int) == 34) = false := by rw [beq_eq_false_iff_ne]; omega
        have hpl := punctLen_le s.data.toList
        rw [data_len] at hpl
        by_cases h5 : punctLen s.data.toList = 0
        · have hf : lexOne s.data.toList = (Raw.bad, 0, 50) := by rw [hc] at h5 ⊢; exact lexOne_bad h1 h2 h3 h5
          have h5' : ((punctLen s.data.toList : Int) == 0) = true := by rw [h5]; rfl
          have HF := Lib.hid hf
          clear hf hc h3 h5
          go_enter Tryd.func35, Tryd.ntmps35
          go_wp2_with (first | (go_at_call 51; refine (isLetter_any _ _).mono ?_; rintro e w' ⟨rfl, rfl⟩) | (go_at_call 53; refine (isDigit_any _ _).mono ?_; rintro e w' ⟨rfl, rfl⟩) | (go_at_call 52; refine (run_any _ _ (by unfold maxLen; omega)).mono ?_; rintro e w' ⟨rfl, rfl⟩) | (go_at_call 54; refine (number_any _ _ ?ha ?hb).mono ?_; (case ha => simp [maxLen]; omega); (case hb => simp; omega); rintro e w' ⟨rfl, rfl⟩) | (go_at_call 55; refine (inString_any _ _).mono ?_; rintro e w' ⟨rfl, rfl⟩) | (go_at_call 56; refine (punct_any _ _ (by unfold maxLen; omega)).mono ?_; rintro e w' ⟨rfl, rfl⟩))
          refine bodyPost_ret ?_ rfl (tok_fin HF.out (by rfl) (n' := 0) rfl)
          simp [results, Tryd.results35, go_sem]
        · have hf : lexOne s.data.toList = (⟨4, s.data.toList.take (punctLen s.data.toList), 0⟩, punctLen s.data.toList, 0) := by rw [hc] at h5 ⊢; exact lexOne_punct h1 h2 h3 h5
          have h5' : ((punctLen s.data.toList : Int) == 0) = false := by rw [beq_eq_false_iff_ne]; omega
          have HF := Lib.hid hf
          clear hf hc h3 h5
          go_enter Tryd.func35, Tryd.ntmps35
          go_wp2_with (first | (go_at_call 51; refine (isLetter_any _ _).mono ?_; rintro e w' ⟨rfl, rfl⟩) | (go_at_call 53; refine (isDigit_any _ _).mono ?_; rintro e w' ⟨rfl, rfl⟩) | (go_at_call 52; refine (run_any _ _ (by unfold maxLen; omega)).mono ?_; rintro e w' ⟨rfl, rfl⟩) | (go_at_call 54; refine (number_any _ _ ?ha ?hb).mono ?_; (case ha => simp [maxLen]; omega); (case hb => simp; omega); rintro e w' ⟨rfl, rfl⟩) | (go_at_call 55; refine (inString_any _ _).mono ?_; rintro e w' ⟨rfl, rfl⟩) | (go_at_call 56; refine (punct_any _ _ (by unfold maxLen; omega)).mono ?_; rintro e w' ⟨rfl, rfl⟩))
          refine bodyPost_ret ?_ rfl (tok_fin HF.out (by rw [extract_str]; rfl) (n' := punctLen s.data.toList) rfl)
          simp [results, Tryd.results35, go_sem]
end Go.Proofs.YtgeeklgojjcdmaaDoor
