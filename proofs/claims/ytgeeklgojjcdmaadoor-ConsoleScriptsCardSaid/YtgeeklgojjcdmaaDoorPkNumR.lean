/- The reference's 'number'. -/
import Derived.Test.YtgeeklgojjcdmaaDoorPkNum
import Derived.RegionTactic
set_option linter.unusedVariables false
set_option linter.unusedSimpArgs false
set_option linter.unusedSectionVars false
namespace Go.Proofs.YtgeeklgojjcdmaaDoor
open Go.RowKit

theorem beq120 (n : Nat) : ((n : Int) == 120) = decide (n = 120) := by rw [Bool.eq_iff_iff]; simp; omega
theorem isHex_iff {s : ByteArray} (h : 2 < s.size) : isHexL s.data.toList = (decide (s[0].toNat = 48) && decide (s[1].toNat = 120)) := by
  have e := data_drop (s := s) (k := 0) (by omega)
  rw [List.drop_zero, data_drop (s := s) (k := 1) (by omega)] at e
  unfold isHexL
  rw [e, Bool.eq_iff_iff]
  simp only [List.isPrefixOf, Bool.and_eq_true, beq_iff_eq, decide_eq_true_eq, and_true, ← UInt8.toNat_inj]
  constructor
  · rintro ⟨h1, h2⟩; exact ⟨h1.symm, h2.symm⟩
  · rintro ⟨h1, h2⟩; exact ⟨h1.symm, h2.symm⟩
theorem isHex_short {s : ByteArray} (h : isHexL s.data.toList = true) (h2 : ¬ 2 < s.size) : s.size = 2 ∧ s.data.toList = [48, 120] := by
  have hp := List.isPrefixOf_iff_prefix.1 h
  have hl := hp.length_le
  simp only [List.length_cons, List.length_nil, data_len] at hl
  refine ⟨by omega, ?_⟩
  exact (hp.eq_of_length (by simp only [List.length_cons, List.length_nil, data_len]; omega)).symm

set_option maxRecDepth 100000 in
set_option maxHeartbeats 2000000 in
theorem numberR_any (s : ByteArray) (w : World) (hs : s.size ≤ maxLen) (hp : 0 < s.size) :
    Calls Tryd.prog 61 #[.string s] w fun e w' => e = .returned (.tuple #[.int .u64 (numeral s.data.toList).1, .int .i64 (numeral s.data.toList).2]) ∧ ∃ n, w' = w.drewN n := by
  unfold maxLen at hs
  have hl : s.size - 1 < s.size := by omega
  have hsh : sufShift s.data.toList = shiftOf s[s.size - 1] := by unfold sufShift; rw [data_last hl]
  have hdl := data_dropLast s
  have HSH := Lib.hid hsh
  have HDL := Lib.hid hdl
  clear hsh hdl
  go_enter Tryd.func61, Tryd.ntmps61
  go_upto_block 0 with fail
  go_cut [4] (fun s4 wx => s4 = .int .u64 (sufShift s.data.toList) ∧ w = wx)
  case first =>
    go_wp2
    · have h1 : (↑s[s.size - 1].toNat == (75 : Int)) = true := by assumption
      have h1' : s[s.size - 1].toNat = 75 := by rw [beq_iff_eq] at h1; omega
      have h2 : shiftOf s[s.size - 1] = 10 := by simp [shiftOf, h1']
      go_meet
      case rel => exact ⟨vint (by rw [HSH.out, h2]; rfl), rfl⟩
    · have h1 : (↑s[s.size - 1].toNat == (77 : Int)) = true := by assumption
      have h1' : s[s.size - 1].toNat = 77 := by rw [beq_iff_eq] at h1; omega
      have h2 : shiftOf s[s.size - 1] = 20 := by simp [shiftOf, h1']
      go_meet
      case rel => exact ⟨vint (by rw [HSH.out, h2]; rfl), rfl⟩
    · have h1 : (↑s[s.size - 1].toNat == (71 : Int)) = true := by assumption
      have h1' : s[s.size - 1].toNat = 71 := by rw [beq_iff_eq] at h1; omega
      have h2 : shiftOf s[s.size - 1] = 30 := by simp [shiftOf, h1']
      go_meet
      case rel => exact ⟨vint (by rw [HSH.out, h2]; rfl), rfl⟩
    · have h1 : (↑s[s.size - 1].toNat == (71 : Int)) = false := by assumption
      have h2 : (↑s[s.size - 1].toNat == (77 : Int)) = false := by assumption
      have h3 : (↑s[s.size - 1].toNat == (75 : Int)) = false := by assumption
      rw [beq_eq_false_iff_ne] at h1 h2 h3
      have h4 : shiftOf s[s.size - 1] = 0 := by unfold shiftOf; rw [if_neg (by omega), if_neg (by omega), if_neg (by omega)]
      go_meet
      case rel => exact ⟨vint (by rw [HSH.out, h4]; rfl), rfl⟩
  case rest =>
    obtain ⟨rfl, rfl⟩ := hcut
    clear HSH
    go_upto_if 22 with fail
    go_cut [0, 4] (fun s0 s4 wx => ∃ t : ByteArray, t.size ≤ s.size ∧ t.data.toList = sufBody s.data.toList ∧ s0 = .string t ∧ s4 = .int .u64 (sufShift s.data.toList) ∧ w = wx)
    case first =>
      rcases Nat.eq_zero_or_pos (sufShift s.data.toList) with h | h
      · have hb : sufBody s.data.toList = s.data.toList := by unfold sufBody; rw [if_pos h]
        have HB := Lib.hid hb
        have H := Lib.hid h
        clear hb
        rw [h]
        clear h
        go_wp2
        go_meet
        case rel => exact ⟨s, by omega, HB.out.symm, rfl, vint (by rw [H.out]), rfl⟩
      · have hb : sufBody s.data.toList = s.data.toList.dropLast := by unfold sufBody; rw [if_neg (by omega)]
        have HB := Lib.hid hb
        clear hb
        go_wp2
        go_meet
        case rel => exact ⟨s.extract 0 (s.size - 1), by simp, by rw [HDL.out, HB.out], rfl, rfl, rfl⟩
    case rest =>
      obtain ⟨t, hts, htl, rfl, rfl, rfl⟩ := hcut
      have HTL := Lib.hid htl
      clear htl HDL
      have hbe : baseOf t.data.toList = baseOf (sufBody s.data.toList) := by rw [HTL.out]
      have HBE := Lib.hid hbe
      clear hbe
      go_upto_region 12 with fail
      go_cut [40] (fun s40 wx => s40 = .bool (isHexL t.data.toList && decide (2 < t.size)) ∧ w = wx)
      case first =>
        by_cases h2 : 2 < t.size
        · have hx := isHex_iff h2
          have HX := Lib.hid hx
          clear hx
          by_cases h3 : t[0].toNat = 48
          · have h3' : ((t[0].toNat : Int) == 48) = true := by rw [beq48]; simp [h3]
            have H3 := Lib.hid h3
            clear h3
            go_wp2
            go_meet
            case rel => exact ⟨by rw [HX.out]; simp only [h2, H3.out, decide_true, Bool.true_and, Bool.and_true]; exact congrArg Value.bool (beq120 _), rfl⟩
          · have h3' : ((t[0].toNat : Int) == 48) = false := by rw [beq48]; simp [h3]
            have H3 := Lib.hid h3
            clear h3
            go_wp2
            go_meet
            case rel => exact ⟨by rw [HX.out]; simp [H3.out], rfl⟩
        · go_wp2
          go_meet
          case rel => exact ⟨by simp [h2], rfl⟩
      case rest =>
        obtain ⟨rfl, rfl⟩ := hcut
        go_upto_if 40 with fail
        go_cut [0, 5] (fun s0 s5 wx => ∃ (d : ByteArray) (b : Int), (b = 10 ∨ b = 16) ∧ d.size ≤ s.size ∧ d.data.toList = digitsOf (sufBody s.data.toList) ∧ b = baseOf (sufBody s.data.toList) ∧ badLead b d.data.toList = false ∧ s0 = .string d ∧ s5 = .int .u64 b ∧ ∃ n, wx = w.drewN n)
        case first =>
          by_cases hx : isHexL t.data.toList = true ∧ 2 < t.size
          · obtain ⟨hx1, hx2⟩ := hx
            rw [hx1, decide_eq_true hx2]
            have HX := Lib.hid hx1
            clear hx1
            go_wp2
            go_region
            all_goals
              go_wp2
              go_meet
            case rel =>
              refine ⟨t.extract 2 t.size, 16, .inr rfl, by simp; omega, by rw [← HTL.out, digitsOf_hex HX.out, Lib.extract_to_end], by rw [← HTL.out, baseOf_hex HX.out], ?_, rfl, rfl, ⟨1, rfl⟩⟩
              have hlen : (t.extract 2 t.size).data.toList.length = t.size - 2 := by rw [Lib.extract_to_end, List.length_drop, data_len]
              unfold badLead
              cases hc : (t.extract 2 t.size).data.toList with
              | nil => rw [hc] at hlen; simp at hlen; omega
              | cons c l => simp
          · rw [show (isHexL t.data.toList && decide (2 < t.size)) = false from by rw [Bool.and_eq_false_iff, decide_eq_false_iff_not, Bool.eq_false_iff]; exact Decidable.not_and_iff_not_or_not.1 hx]
            by_cases h0 : t.size = 0
            · have hf : numeral s.data.toList = (0, 50) := numeral_bad (by rw [← HTL.out, data_nil h0]; rfl)
              have HF := Lib.hid hf
              clear hf
              have h0' : ((t.size : Int) == 0) = true := by rw [h0]; rfl
              have H0 := Lib.hid h0
              clear h0
              go_wp2
              go_ret2
              exact ⟨ret_pair (by rw [HF.out]) (by rw [HF.out]), 0, rfl⟩
            · have hp0 : 0 < t.size := by omega
              have h0' : ((t.size : Int) == 0) = false := by rw [beq_eq_false_iff_ne]; omega
              by_cases hlz : 1 < t.size ∧ t[0].toNat = 48
              · obtain ⟨h1, h2⟩ := hlz
                have h2' : ((t[0].toNat : Int) == 48) = true := by rw [beq48]; simp [h2]
                have hf : numeral s.data.toList = (0, 50) := by
                  refine numeral_bad ?_
                  rw [← HTL.out]
                  refine badDigits_lead ?_
                  rcases Bool.eq_false_or_eq_true (isHexL t.data.toList) with hx1 | hx1
                  · have h3 := isHex_short hx1 (fun h => hx ⟨hx1, h⟩)
                    rw [digitsOf_hex hx1, h3.2]; rfl
                  · rw [digitsOf_dec hx1, baseOf_dec hx1]
                    unfold badLead
                    rw [data_len, data_cons hp0, List.head?_cons, some_beq48, decide_eq_true h1, decide_eq_true h2]
                    simp
                have HF := Lib.hid hf
                clear hf hx h0 h2
                go_wp2
                go_ret2
                exact ⟨ret_pair (by rw [HF.out]) (by rw [HF.out]), 0, rfl⟩
              · have hx1 : isHexL t.data.toList = false := by
                  rcases Bool.eq_false_or_eq_true (isHexL t.data.toList) with hx1 | hx1
                  · exfalso
                    have h3 := isHex_short hx1 (fun h => hx ⟨hx1, h⟩)
                    refine hlz ⟨by omega, ?_⟩
                    have h4 := data_cons hp0
                    rw [h3.2] at h4
                    have h5 := (List.cons.inj h4).1
                    rw [← h5]; rfl
                  · exact hx1
                have hb : badLead 10 t.data.toList = false := by
                  unfold badLead
                  rw [data_len, data_cons hp0, List.head?_cons, some_beq48]
                  rcases Decidable.not_and_iff_not_or_not.1 hlz with h | h
                  · simp [h]
                  · simp [h]
                have HB := Lib.hid hb
                have HX := Lib.hid hx1
                clear hb hx1 hx h0
                by_cases h1 : 1 < t.size
                · have h2' : ((t[0].toNat : Int) == 48) = false := by rw [beq48]; simp [show ¬ t[0].toNat = 48 from fun h => hlz ⟨h1, h⟩]
                  clear hlz
                  go_wp2
                  go_meet
                  case rel => exact ⟨t, 10, .inl rfl, by omega, by rw [← HTL.out, digitsOf_dec HX.out], by rw [← HTL.out, baseOf_dec HX.out], HB.out, rfl, rfl, 0, rfl⟩
                · clear hlz
                  go_wp2
                  go_meet
                  case rel => exact ⟨t, 10, .inl rfl, by omega, by rw [← HTL.out, digitsOf_dec HX.out], by rw [← HTL.out, baseOf_dec HX.out], HB.out, rfl, rfl, 0, rfl⟩
        case rest =>
          obtain ⟨d, b, hb, hds, hdl, hbb, hbl, rfl, rfl, n, rfl⟩ := hcut
          clear HTL HBE
          have HD := Lib.hid hdl
          have HB := Lib.hid hbb
          have HBL := Lib.hid hbl
          clear hdl hbb hbl
          have hb10 : 10 ≤ b := by omega
          have hb16 : b ≤ 16 := by omega
          have hds2 : d.size ≤ 9223372036854775807 := by omega
          go_upto_block 1 with fail
          go_cut [6, 7, 8] (fun s6 s7 _ wx => (∀ c ∈ d.data.toList, 0 ≤ digV c.toNat b) ∧ ((s7 = .bool false ∧ s6 = .int .u64 (numV b d.data.toList) ∧ numV b d.data.toList ≤ most) ∨ (s7 = .bool true ∧ (∃ v, s6 = .int .u64 v) ∧ ∃ j, most < numV b (d.data.toList.take j))) ∧ wx = w.drewN n)
          case first =>
            go_wp2_with fail
            go_loop [6, 7, 8] (fun v g i => ∃ k : Nat, k ≤ d.size ∧ (∀ c ∈ d.data.toList.take k, 0 ≤ digV c.toNat b) ∧ 0 ≤ numV b (d.data.toList.take k) ∧
                ((g = .bool false ∧ v = .int .u64 (numV b (d.data.toList.take k)) ∧ numV b (d.data.toList.take k) ≤ most) ∨ (g = .bool true ∧ (∃ v', v = .int .u64 v') ∧ ∃ j, most < numV b (d.data.toList.take j))) ∧ i = .int .i64 k) (fun _ _ i => d.size - (intOf i).toNat)
            case atStart => exact ⟨0, Nat.zero_le _, by simp, by simp [numV], .inl ⟨rfl, rfl, by simp [numV, most]⟩, rfl⟩
            case round =>
              obtain ⟨k, hk, ha, hv0, hvg, rfl⟩ := hrel
              have HA := Lib.hid ha
              clear ha
              by_cases hlt : k < d.size
              · have hc1 : (d[k].toNat : Int) ≤ 255 := by have := d[k].toNat_lt; omega
                have hh := hexV_bd d[k].toNat
                have hmem : d[k] ∈ d.data.toList := List.getElem_mem (l := d.data.toList) hlt
                by_cases hneg : hexV d[k].toNat < 0 ∨ b ≤ hexV d[k].toNat
                · have hf : numeral s.data.toList = (0, 50) := numeral_bad (by rw [← HD.out, ← HB.out]; exact badDigits_any hmem (digV_bad hneg))
                  have HF := Lib.hid hf
                  clear hf hmem hvg hv0
                  by_cases h1 : hexV d[k].toNat < 0
                  · clear hneg
                    go_wp2_with (go_at_call 74; refine (hex_any _ _ (by omega) (by omega)).mono ?_; rintro e w' ⟨rfl, rfl⟩)
                    go_ret2
                    exact ⟨ret_pair (by rw [HF.out]) (by rw [HF.out]), n, rfl⟩
                  · have h2 : b ≤ hexV d[k].toNat := by omega
                    clear hneg
                    go_wp2_with (go_at_call 74; refine (hex_any _ _ (by omega) (by omega)).mono ?_; rintro e w' ⟨rfl, rfl⟩)
                    go_ret2
                    exact ⟨ret_pair (by rw [HF.out]) (by rw [HF.out]), n, rfl⟩
                · have hdv := digV_good hneg
                  have hx0 : 0 ≤ hexV d[k].toNat := by omega
                  have hx1 : hexV d[k].toNat < b := by omega
                  have e1 : numV b (d.data.toList.take (k + 1)) = numV b (d.data.toList.take k) * b + hexV d[k].toNat := by rw [take_snoc d k hlt, numV_snoc, hdv]
                  have ha1 : ∀ c ∈ d.data.toList.take (k + 1), 0 ≤ digV c.toNat b := by
                    rw [take_snoc d k hlt]
                    intro c hc
                    simp only [List.mem_append, List.mem_singleton] at hc
                    rcases hc with hc | rfl
                    · exact HA.out c hc
                    · omega
                  have HA1 := Lib.hid ha1
                  have E1 := Lib.hid e1
                  clear ha1 e1 hdv hmem hneg
                  obtain ⟨v, hv⟩ : ∃ v, v = numV b (d.data.toList.take k) := ⟨_, rfl⟩
                  rw [← hv] at hv0 hvg
                  have HV := Lib.hid hv
                  clear hv
                  rcases hvg with ⟨rfl, rfl, hv1⟩ | ⟨rfl, ⟨v', rfl⟩, hj⟩
                  · unfold most at hv1
                    rcases hb with rfl | rfl
                    · go_wp2_with (go_at_call 74; refine (hex_any _ _ (by omega) (by omega)).mono ?_; rintro e w' ⟨rfl, rfl⟩)
                      · have hov : (18446744073709551615 - hexV (↑d[k].toNat)) / 10 < v := by assumption
                        have e1 := E1.out
                        rw [← HV.out] at e1
                        go_round
                        case rel => exact ⟨k + 1, by omega, HA1.out, by rw [e1]; omega, .inr ⟨rfl, ⟨_, rfl⟩, k + 1, by rw [e1]; unfold most; omega⟩, by go_num⟩
                        case measure => simp [intOf]; omega
                      · have hov : v ≤ (18446744073709551615 - hexV (↑d[k].toNat)) / 10 := by assumption
                        have e1 := E1.out
                        rw [← HV.out] at e1
                        go_round
                        case rel => exact ⟨k + 1, by omega, HA1.out, by rw [e1]; omega, .inl ⟨rfl, vint e1.symm, by rw [e1]; unfold most; omega⟩, by go_num⟩
                        case measure => simp [intOf]; omega
                    · go_wp2_with (go_at_call 74; refine (hex_any _ _ (by omega) (by omega)).mono ?_; rintro e w' ⟨rfl, rfl⟩)
                      · have hov : (18446744073709551615 - hexV (↑d[k].toNat)) / 16 < v := by assumption
                        have e1 := E1.out
                        rw [← HV.out] at e1
                        go_round
                        case rel => exact ⟨k + 1, by omega, HA1.out, by rw [e1]; omega, .inr ⟨rfl, ⟨_, rfl⟩, k + 1, by rw [e1]; unfold most; omega⟩, by go_num⟩
                        case measure => simp [intOf]; omega
                      · have hov : v ≤ (18446744073709551615 - hexV (↑d[k].toNat)) / 16 := by assumption
                        have e1 := E1.out
                        rw [← HV.out] at e1
                        go_round
                        case rel => exact ⟨k + 1, by omega, HA1.out, by rw [e1]; omega, .inl ⟨rfl, vint e1.symm, by rw [e1]; unfold most; omega⟩, by go_num⟩
                        case measure => simp [intOf]; omega
                  · have HJ := Lib.hid hj
                    clear hj
                    rcases hb with rfl | rfl
                    · go_wp2_with (go_at_call 74; refine (hex_any _ _ (by omega) (by omega)).mono ?_; rintro e w' ⟨rfl, rfl⟩)
                      all_goals
                        have e1 := E1.out
                        rw [← HV.out] at e1
                        go_round
                        case rel => exact ⟨k + 1, by omega, HA1.out, by rw [e1]; omega, .inr ⟨rfl, ⟨_, rfl⟩, HJ.out⟩, by go_num⟩
                        case measure => simp [intOf]; omega
                    · go_wp2_with (go_at_call 74; refine (hex_any _ _ (by omega) (by omega)).mono ?_; rintro e w' ⟨rfl, rfl⟩)
                      all_goals
                        have e1 := E1.out
                        rw [← HV.out] at e1
                        go_round
                        case rel => exact ⟨k + 1, by omega, HA1.out, by rw [e1]; omega, .inr ⟨rfl, ⟨_, rfl⟩, HJ.out⟩, by go_num⟩
                        case measure => simp [intOf]; omega
              · go_wp2
                go_meet
                case rel =>
                  have e : d.data.toList.take k = d.data.toList := List.take_of_length_le (by rw [data_len]; omega)
                  rw [e] at hvg
                  exact ⟨by have := HA.out; rwa [e] at this, hvg, rfl⟩
          case rest =>
            obtain ⟨hdig, hvg, rfl⟩ := hcut
            have hbad : badDigits (baseOf (sufBody s.data.toList)) (digitsOf (sufBody s.data.toList)) = false := by
              rw [← HD.out, ← HB.out]; exact badDigits_false HBL.out hdig
            have HBAD := Lib.hid hbad
            have HDIG := Lib.hid hdig
            clear hbad hdig
            rcases hvg with ⟨rfl, rfl, hv1⟩ | ⟨rfl, ⟨v', rfl⟩, hj⟩
            · have hv0 : 0 ≤ numV b d.data.toList := by
                have := numV_take_le b (by omega) d.data.toList 0 HDIG.out (by simp [numV])
                simpa [numV] using this
              obtain ⟨v, hv⟩ : ∃ v, v = numV b d.data.toList := ⟨_, rfl⟩
              have hv2 : numV (baseOf (sufBody s.data.toList)) (digitsOf (sufBody s.data.toList)) = v := by rw [← HD.out, ← HB.out, hv]
              have HV2 := Lib.hid hv2
              rw [← hv] at hv0 hv1 ⊢
              clear hv hv2 HDIG HBL HD HB
              unfold most at hv1
              rcases shift_cases s.data.toList with h | h | h | h
              · have H := Lib.hid h
                rw [h]
                clear h
                go_wp2
                go_ret2
                have hf := numeral_ok HBAD.out (by rw [HV2.out, H.out, most_0]; omega)
                rw [HV2.out, H.out, p2_0, Int.mul_one] at hf
                exact ⟨ret_pair (by rw [hf]) (by rw [hf]), n, rfl⟩
              · have H := Lib.hid h
                rw [h]
                clear h
                go_wp2
                · have hbig : 18014398509481983 < v := by assumption
                  go_ret2
                  have hf : numeral s.data.toList = (0, 6) := numeral_big HBAD.out (by rw [HV2.out, H.out, most_10]; exact hbig)
                  exact ⟨ret_pair (by rw [hf]) (by rw [hf]), n, rfl⟩
                · have hbig : v ≤ 18014398509481983 := by assumption
                  go_ret2
                  have hf := numeral_ok HBAD.out (by rw [HV2.out, H.out, most_10]; omega)
                  rw [HV2.out, H.out, p2_10] at hf
                  exact ⟨ret_pair (by rw [hf]) (by rw [hf]), n, rfl⟩
              · have H := Lib.hid h
                rw [h]
                clear h
                go_wp2
                · have hbig : 17592186044415 < v := by assumption
                  go_ret2
                  have hf : numeral s.data.toList = (0, 6) := numeral_big HBAD.out (by rw [HV2.out, H.out, most_20]; exact hbig)
                  exact ⟨ret_pair (by rw [hf]) (by rw [hf]), n, rfl⟩
                · have hbig : v ≤ 17592186044415 := by assumption
                  go_ret2
                  have hf := numeral_ok HBAD.out (by rw [HV2.out, H.out, most_20]; omega)
                  rw [HV2.out, H.out, p2_20] at hf
                  exact ⟨ret_pair (by rw [hf]) (by rw [hf]), n, rfl⟩
              · have H := Lib.hid h
                rw [h]
                clear h
                go_wp2
                · have hbig : 17179869183 < v := by assumption
                  go_ret2
                  have hf : numeral s.data.toList = (0, 6) := numeral_big HBAD.out (by rw [HV2.out, H.out, most_30]; exact hbig)
                  exact ⟨ret_pair (by rw [hf]) (by rw [hf]), n, rfl⟩
                · have hbig : v ≤ 17179869183 := by assumption
                  go_ret2
                  have hf := numeral_ok HBAD.out (by rw [HV2.out, H.out, most_30]; omega)
                  rw [HV2.out, H.out, p2_30] at hf
                  exact ⟨ret_pair (by rw [hf]) (by rw [hf]), n, rfl⟩
            · have hf : numeral s.data.toList = (0, 6) := numeral_over2 HD.out HB.out (by omega) HBL.out HDIG.out hj rfl
              have HF := Lib.hid hf
              clear hf hj
              go_wp2
              go_ret2
              exact ⟨ret_pair (by rw [HF.out]) (by rw [HF.out]), n, rfl⟩
end Go.Proofs.YtgeeklgojjcdmaaDoor
