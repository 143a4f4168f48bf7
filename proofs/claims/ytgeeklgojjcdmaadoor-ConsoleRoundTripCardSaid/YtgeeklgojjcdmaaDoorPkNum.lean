/- The program's 'number'. -/
import Derived.Test.YtgeeklgojjcdmaaDoorPkScanAB
import Derived.Lib.IndexBytes
import Derived.Deep.DeepCutAuto
import Derived.Deep.CutBlock
set_option linter.unusedVariables false
set_option linter.unusedSimpArgs false
set_option linter.unusedSectionVars false
namespace Go.Proofs.YtgeeklgojjcdmaaDoor
open Go.RowKit

theorem ret_pair {j k : IntKind} {a b c d : Int} (h : a = b) (g : c = d) : Ending.returned (.tuple #[.int j a, .int k c]) = .returned (.tuple #[.int j b, .int k d]) := by rw [h, g]

theorem some_beq48 (c : UInt8) : ((some c : Option UInt8) == some 48) = decide (c.toNat = 48) := by
  rw [Bool.eq_iff_iff, beq_iff_eq, decide_eq_true_eq, Option.some_inj, ← UInt8.toNat_inj]; rfl
theorem beq48 (n : Nat) : ((n : Int) == 48) = decide (n = 48) := by rw [Bool.eq_iff_iff]; simp; omega
theorem vint {k : IntKind} {a b : Int} (h : a = b) : Value.int k a = .int k b := by rw [h]
theorem data_last {s : ByteArray} (hl : s.size - 1 < s.size) : s.data.toList.getLast? = some s[s.size - 1] := by
  rw [List.getLast?_eq_getElem?]; exact List.getElem?_eq_getElem (l := s.data.toList) (i := s.size - 1) hl
theorem data_dropLast (s : ByteArray) : (s.extract 0 (s.size - 1)).data.toList = s.data.toList.dropLast := by
  rw [Lib.extract_data, List.dropLast_eq_take]; rfl

theorem HasHex_any (s : ByteArray) (w : World) (hs : s.size ≤ maxLen) :
    Calls Tryd.prog 65 #[.string s, .string ⟨#[48, 120]⟩] w fun e w' => e = .returned (.bool (isHexL s.data.toList)) ∧ w = w' :=
  HasPrefix_any s ⟨#[48, 120]⟩ w hs (by decide)

set_option maxRecDepth 100000 in
theorem number_any (s : ByteArray) (w : World) (hs : s.size ≤ maxLen) (hp : 0 < s.size) :
    Calls Tryd.prog 54 #[.string s] w fun e w' => e = .returned (.tuple #[.int .u64 (numeral s.data.toList).1, .int .i64 (numeral s.data.toList).2]) ∧ w = w' := by
  unfold maxLen at hs
  have hl : s.size - 1 < s.size := by omega
  have hsh : sufShift s.data.toList = shiftOf s[s.size - 1] := by unfold sufShift; rw [data_last hl]
  have hdl := data_dropLast s
  have HSH := Lib.hid hsh
  have HDL := Lib.hid hdl
  clear hsh hdl
  go_enter Tryd.func54, Tryd.ntmps54
  go_upto_block 0 with fail
  go_cut [0, 4] (fun s0 s4 wx => ∃ t : ByteArray, t.size ≤ s.size ∧ t.data.toList = sufBody s.data.toList ∧ s0 = .string t ∧ s4 = .int .i64 (sufShift s.data.toList) ∧ w = wx)
  case first =>
    go_wp2
    · have h1 : (↑s[s.size - 1].toNat == (71 : Int)) = true := by assumption
      have h1' : s[s.size - 1].toNat = 71 := by rw [beq_iff_eq] at h1; omega
      have h2 : shiftOf s[s.size - 1] = 30 := by simp [shiftOf, h1']
      go_meet
      case rel => exact ⟨s.extract 0 (s.size - 1), by simp, by unfold sufBody; rw [HSH.out, h2, HDL.out]; rfl, rfl, vint (by rw [HSH.out, h2]; rfl), rfl⟩
    · have h1 : (↑s[s.size - 1].toNat == (77 : Int)) = true := by assumption
      have h1' : s[s.size - 1].toNat = 77 := by rw [beq_iff_eq] at h1; omega
      have h2 : shiftOf s[s.size - 1] = 20 := by simp [shiftOf, h1']
      go_meet
      case rel => exact ⟨s.extract 0 (s.size - 1), by simp, by unfold sufBody; rw [HSH.out, h2, HDL.out]; rfl, rfl, vint (by rw [HSH.out, h2]; rfl), rfl⟩
    · have h1 : (↑s[s.size - 1].toNat == (75 : Int)) = true := by assumption
      have h1' : s[s.size - 1].toNat = 75 := by rw [beq_iff_eq] at h1; omega
      have h2 : shiftOf s[s.size - 1] = 10 := by simp [shiftOf, h1']
      go_meet
      case rel => exact ⟨s.extract 0 (s.size - 1), by simp, by unfold sufBody; rw [HSH.out, h2, HDL.out]; rfl, rfl, vint (by rw [HSH.out, h2]; rfl), rfl⟩
    · have h1 : (↑s[s.size - 1].toNat == (71 : Int)) = false := by assumption
      have h2 : (↑s[s.size - 1].toNat == (77 : Int)) = false := by assumption
      have h3 : (↑s[s.size - 1].toNat == (75 : Int)) = false := by assumption
      rw [beq_eq_false_iff_ne] at h1 h2 h3
      have h4 : shiftOf s[s.size - 1] = 0 := by unfold shiftOf; rw [if_neg (by omega), if_neg (by omega), if_neg (by omega)]
      go_meet
      case rel => exact ⟨s, by omega, by unfold sufBody; rw [HSH.out, h4]; rfl, rfl, vint (by rw [HSH.out, h4]; rfl), rfl⟩
  case rest =>
    obtain ⟨t, hts, htl, rfl, rfl, rfl⟩ := hcut
    have HTL := Lib.hid htl
    have HP := Lib.hid (show numeral s.data.toList = numeral s.data.toList from rfl)
    clear htl HSH HDL
    go_upto_if 33 with (go_at_call 65; refine (HasHex_any _ _ (by unfold maxLen; omega)).mono ?_; rintro e w' ⟨rfl, rfl⟩)
    go_cut [0, 5] (fun s0 s5 wx => ∃ (d : ByteArray) (b : Int), (b = 10 ∨ b = 16) ∧ d.size ≤ s.size ∧ d.data.toList = digitsOf (sufBody s.data.toList) ∧ b = baseOf (sufBody s.data.toList) ∧ s0 = .string d ∧ s5 = .int .u64 b ∧ w = wx)
    case first =>
      rcases Bool.eq_false_or_eq_true (isHexL t.data.toList) with hx | hx
      · have h2 : 2 ≤ t.size := by
          have := (List.isPrefixOf_iff_prefix.1 hx).length_le
          simpa using this
        have HX := Lib.hid hx
        rw [hx]
        go_wp2
        go_meet
        case rel => exact ⟨t.extract 2 t.size, 16, .inr rfl, by simp; omega, by rw [← HTL.out, Lib.extract_to_end]; unfold digitsOf; rw [if_pos HX.out], by rw [← HTL.out]; unfold baseOf; rw [if_pos HX.out], rfl, rfl, rfl⟩
      · have HX := Lib.hid hx
        rw [hx]
        go_wp2
        go_meet
        case rel => exact ⟨t, 10, .inl rfl, by omega, by rw [← HTL.out]; unfold digitsOf; rw [if_neg (by rw [HX.out]; decide)], by rw [← HTL.out]; unfold baseOf; rw [if_neg (by rw [HX.out]; decide)], rfl, rfl, rfl⟩
    case rest =>
      obtain ⟨d, b, hb, hds, hdl, hbb, rfl, rfl, rfl⟩ := hcut
      clear HTL
      have HD := Lib.hid hdl
      have HB := Lib.hid hbb
      clear hdl hbb HP
      go_upto_region 14 with fail
      go_cut [51] (fun s51 wx => s51 = .bool (badLead b d.data.toList) ∧ w = wx)
      case first =>
        by_cases h0 : d.size = 0
        · have he := isEmpty_of_size h0
          have he2 : d.toList.isEmpty = true := by rw [he]; rfl
          have hbl : badLead b d.data.toList = true := by rw [data_nil h0]; rfl
          have HBL := Lib.hid hbl
          clear h0 hbl
          go_wp2
          go_meet
          case rel => exact ⟨by rw [HBL.out], rfl⟩
        · have hp0 : 0 < d.size := by omega
          have he := not_empty_of_size hp0
          have he2 := isEmpty_false hp0
          have hbl : badLead b d.data.toList = (b == 10 && decide (1 < d.size) && decide (d[0].toNat = 48)) := by
            unfold badLead
            rw [data_len, data_cons hp0]
            simp only [List.head?_cons, some_beq48]
            rfl
          have HBL := Lib.hid hbl
          clear h0 hbl
          rcases hb with rfl | rfl
          · by_cases h1 : 1 < d.size
            · go_wp2
              go_meet
              case rel => exact ⟨by rw [HBL.out]; simp only [h1, decide_true, Bool.and_true, beq_self_eq_true, Bool.true_and]; exact congrArg Value.bool (beq48 _), rfl⟩
            · go_wp2
              go_meet
              case rel => exact ⟨by rw [HBL.out]; simp [h1], rfl⟩
          · go_wp2
            go_meet
            case rel => exact ⟨by rw [HBL.out]; simp, rfl⟩
      case rest =>
        obtain ⟨rfl, rfl⟩ := hcut
        rcases Bool.eq_false_or_eq_true (badLead b d.data.toList) with hbl | hbl
        · have hf : numeral s.data.toList = (0, 50) := numeral_bad (by rw [← HD.out, ← HB.out]; exact badDigits_lead hbl)
          have HF := Lib.hid hf
          clear hf
          rw [hbl]
          go_wp2
          go_ret2
          exact ⟨ret_pair (by rw [HF.out]) (by rw [HF.out]), rfl⟩
        · have HBL := Lib.hid hbl
          rw [hbl]
          clear hbl
          have hb10 : 10 ≤ b := by omega
          have hb16 : b ≤ 16 := by omega
          have hds2 : d.size ≤ 9223372036854775807 := by omega
          go_upto_block 4 with fail
          go_cut [6] (fun _ wx => (∀ c ∈ d.data.toList, 0 ≤ digV c.toNat b) ∧ w = wx)
          case first =>
            go_wp2_with fail
            go_loop [6] (fun i => ∃ k : Nat, k ≤ d.size ∧ (∀ c ∈ d.data.toList.take k, 0 ≤ digV c.toNat b) ∧ i = .int .i64 k) (fun i => d.size - (intOf i).toNat)
            case atStart => exact ⟨0, Nat.zero_le _, by simp, rfl⟩
            case round =>
              obtain ⟨k, hk, ha, rfl⟩ := hrel
              have HA := Lib.hid ha
              clear ha
              by_cases hlt : k < d.size
              · have hc1 : (d[k].toNat : Int) ≤ 255 := by have := d[k].toNat_lt; omega
                by_cases hneg : digV d[k].toNat b < 0
                · go_wp2_with (go_at_call 66; refine (digitValue_any _ _ _ (by omega) (by omega) (by omega) (by omega)).mono ?_; rintro e w' ⟨rfl, rfl⟩)
                  go_ret2
                  have hmem : d[k] ∈ d.data.toList := List.getElem_mem (l := d.data.toList) hlt
                  have hf : numeral s.data.toList = (0, 50) := numeral_bad (by rw [← HD.out, ← HB.out]; exact badDigits_any hmem hneg)
                  exact ⟨ret_pair (by rw [hf]) (by rw [hf]), rfl⟩
                · go_wp2_with (go_at_call 66; refine (digitValue_any _ _ _ (by omega) (by omega) (by omega) (by omega)).mono ?_; rintro e w' ⟨rfl, rfl⟩)
                  go_round
                  case rel =>
                    refine ⟨k + 1, by omega, ?_, by go_num⟩
                    rw [take_snoc d k hlt]
                    intro c hc
                    simp only [List.mem_append, List.mem_singleton] at hc
                    rcases hc with hc | rfl
                    · exact HA.out c hc
                    · omega
                  case measure => simp [intOf]; omega
              · go_wp2
                go_meet
                case rel => exact ⟨by have := HA.out; rwa [List.take_of_length_le (by rw [data_len]; omega)] at this, rfl⟩
          case rest =>
            obtain ⟨hdig, rfl⟩ := hcut
            have HDIG := Lib.hid hdig
            clear hdig
            have hlo : ∀ k, k < d.size → 0 ≤ digV (d.data.toList.getD k 0).toNat b := by
              intro k hk
              have e : d.data.toList.getD k 0 = d[k] := by rw [List.getD_eq_getElem?_getD, List.getElem?_eq_getElem (l := d.data.toList) hk]; rfl
              rw [e]; exact HDIG.out _ (List.getElem_mem (l := d.data.toList) hk)
            have HLO := Lib.hid hlo
            clear hlo
            go_upto_block 6 with fail
            go_cut [7, 8] (fun s7 _ wx => numV b d.data.toList ≤ most ∧ s7 = .int .u64 (numV b d.data.toList) ∧ w = wx)
            case first =>
              go_wp2_with fail
              go_loop [7, 8] (fun v i => ∃ k : Nat, k ≤ d.size ∧ 0 ≤ numV b (d.data.toList.take k) ∧ numV b (d.data.toList.take k) ≤ most ∧ v = .int .u64 (numV b (d.data.toList.take k)) ∧ i = .int .i64 k) (fun _ i => d.size - (intOf i).toNat)
              case atStart => exact ⟨0, Nat.zero_le _, by simp [numV], by simp [numV, most], rfl, rfl⟩
              case round =>
                obtain ⟨k, hk, hv0, hv1, rfl, rfl⟩ := hrel
                obtain ⟨v, hv⟩ : ∃ v, v = numV b (d.data.toList.take k) := ⟨_, rfl⟩
                rw [← hv] at hv0 hv1 ⊢
                have HV := Lib.hid hv
                clear hv
                by_cases hlt : k < d.size
                · have hc1 : (d[k].toNat : Int) ≤ 255 := by have := d[k].toNat_lt; omega
                  have hc0 : 0 ≤ digV d[k].toNat b := HDIG.out _ (List.getElem_mem (l := d.data.toList) hlt)
                  have hc2 := digV_lt d[k].toNat b (by omega)
                  unfold most at hv1
                  obtain ⟨x, hx⟩ : ∃ x, x = digV d[k].toNat b := ⟨_, rfl⟩
                  rcases hb with rfl | rfl
                  · go_wp2_with (go_at_call 66; refine (digitValue_any _ _ _ (by omega) (by omega) (by omega) (by omega)).mono ?_; rintro e w' ⟨rfl, rfl⟩)
                    · have hov : (18446744073709551615 - digV (↑d[k].toNat) 10) / 10 < v := by assumption
                      go_ret2
                      have e1 : numV 10 (d.data.toList.take (k + 1)) = v * 10 + digV d[k].toNat 10 := by rw [take_snoc d k hlt, numV_snoc, HV.out]
                      have hf : numeral s.data.toList = (0, 6) := numeral_over HD.out HB.out (by omega) HBL.out HDIG.out e1 (by unfold most; omega) rfl
                      exact ⟨ret_pair (by rw [hf]) (by rw [hf]), rfl⟩
                    · have hov : v ≤ (18446744073709551615 - digV (↑d[k].toNat) 10) / 10 := by assumption
                      have e1 : numV 10 (d.data.toList.take (k + 1)) = v * 10 + digV d[k].toNat 10 := by rw [take_snoc d k hlt, numV_snoc, HV.out]
                      go_round
                      case rel => exact ⟨k + 1, by omega, by rw [e1]; omega, by rw [e1]; unfold most; omega, vint e1.symm, by go_num⟩
                      case measure => simp [intOf]; omega
                  · go_wp2_with (go_at_call 66; refine (digitValue_any _ _ _ (by omega) (by omega) (by omega) (by omega)).mono ?_; rintro e w' ⟨rfl, rfl⟩)
                    · have hov : (18446744073709551615 - digV (↑d[k].toNat) 16) / 16 < v := by assumption
                      go_ret2
                      have e1 : numV 16 (d.data.toList.take (k + 1)) = v * 16 + digV d[k].toNat 16 := by rw [take_snoc d k hlt, numV_snoc, HV.out]
                      have hf : numeral s.data.toList = (0, 6) := numeral_over HD.out HB.out (by omega) HBL.out HDIG.out e1 (by unfold most; omega) rfl
                      exact ⟨ret_pair (by rw [hf]) (by rw [hf]), rfl⟩
                    · have hov : v ≤ (18446744073709551615 - digV (↑d[k].toNat) 16) / 16 := by assumption
                      have e1 : numV 16 (d.data.toList.take (k + 1)) = v * 16 + digV d[k].toNat 16 := by rw [take_snoc d k hlt, numV_snoc, HV.out]
                      go_round
                      case rel => exact ⟨k + 1, by omega, by rw [e1]; omega, by rw [e1]; unfold most; omega, vint e1.symm, by go_num⟩
                      case measure => simp [intOf]; omega
                · go_wp2
                  go_meet
                  case rel => 
                    have e : d.data.toList.take k = d.data.toList := List.take_of_length_le (by rw [data_len]; omega)
                    exact ⟨by rw [← e, ← HV.out]; exact hv1, by rw [HV.out, e], rfl⟩
            case rest =>
              obtain ⟨hv1, rfl, rfl⟩ := hcut
              have hv0 : 0 ≤ numV b d.data.toList := by
                have := numV_take_le b (by omega) d.data.toList 0 HDIG.out (by simp [numV])
                simpa [numV] using this
              have hbad : badDigits (baseOf (sufBody s.data.toList)) (digitsOf (sufBody s.data.toList)) = false := by
                rw [← HD.out, ← HB.out]; exact badDigits_false HBL.out HDIG.out
              have HBAD := Lib.hid hbad
              clear hbad HLO
              obtain ⟨v, hv⟩ : ∃ v, v = numV b d.data.toList := ⟨_, rfl⟩
              have hv2 : numV (baseOf (sufBody s.data.toList)) (digitsOf (sufBody s.data.toList)) = v := by rw [← HD.out, ← HB.out, hv]
              have HV2 := Lib.hid hv2
              rw [← hv] at hv0 hv1 ⊢
              clear hv hv2 HDIG HBL HD HB
              unfold most at hv1
              rcases shift_cases s.data.toList with h | h | h | h
              · have H := Lib.hid h
                rw [h]
                clear h
                go_wp2
                go_ret2
                have hf := numeral_ok HBAD.out (by rw [HV2.out, H.out, most_0]; omega)
                rw [HV2.out, H.out, p2_0, Int.mul_one] at hf
                exact ⟨ret_pair (by rw [hf]) (by rw [hf]), rfl⟩
              · have H := Lib.hid h
                rw [h]
                clear h
                go_wp2
                · have hbig : 18014398509481983 < v := by assumption
                  go_ret2
                  have hf : numeral s.data.toList = (0, 6) := numeral_big HBAD.out (by rw [HV2.out, H.out, most_10]; exact hbig)
                  exact ⟨ret_pair (by rw [hf]) (by rw [hf]), rfl⟩
                · have hbig : v ≤ 18014398509481983 := by assumption
                  go_ret2
                  have hf := numeral_ok HBAD.out (by rw [HV2.out, H.out, most_10]; omega)
                  rw [HV2.out, H.out, p2_10] at hf
                  exact ⟨ret_pair (by rw [hf]) (by rw [hf]), rfl⟩
              · have H := Lib.hid h
                rw [h]
                clear h
                go_wp2
                · have hbig : 17592186044415 < v := by assumption
                  go_ret2
                  have hf : numeral s.data.toList = (0, 6) := numeral_big HBAD.out (by rw [HV2.out, H.out, most_20]; exact hbig)
                  exact ⟨ret_pair (by rw [hf]) (by rw [hf]), rfl⟩
                · have hbig : v ≤ 17592186044415 := by assumption
                  go_ret2
                  have hf := numeral_ok HBAD.out (by rw [HV2.out, H.out, most_20]; omega)
                  rw [HV2.out, H.out, p2_20] at hf
                  exact ⟨ret_pair (by rw [hf]) (by rw [hf]), rfl⟩
              · have H := Lib.hid h
                rw [h]
                clear h
                go_wp2
                · have hbig : 17179869183 < v := by assumption
                  go_ret2
                  have hf : numeral s.data.toList = (0, 6) := numeral_big HBAD.out (by rw [HV2.out, H.out, most_30]; exact hbig)
                  exact ⟨ret_pair (by rw [hf]) (by rw [hf]), rfl⟩
                · have hbig : v ≤ 17179869183 := by assumption
                  go_ret2
                  have hf := numeral_ok HBAD.out (by rw [HV2.out, H.out, most_30]; omega)
                  rw [HV2.out, H.out, p2_30] at hf
                  exact ⟨ret_pair (by rw [hf]) (by rw [hf]), rfl⟩
end Go.Proofs.YtgeeklgojjcdmaaDoor
