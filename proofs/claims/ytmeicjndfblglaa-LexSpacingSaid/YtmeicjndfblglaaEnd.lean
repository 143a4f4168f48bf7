/- The reference's 'end'. -/
import Derived.Test.YtmeicjndfblglaaMark
namespace Go.Proofs.Ytmeicjndfblglaa
open Go.RowKit

def endLen (l : List UInt8) : Nat :=
  match l with
  | [] => 0
  | c :: r => if alnumB c.toNat = true then runLen l else if c.toNat = 34 then (if (r.drop (strLen r)).head? = some 34 then strLen r + 2 else 0) else punctLen l
theorem endLen_run {c : UInt8} {r : List UInt8} (h : alnumB c.toNat = true) : endLen (c :: r) = runLen (c :: r) := by simp only [endLen]; rw [if_pos h]
theorem endLen_str {c : UInt8} {r : List UInt8} (h : alnumB c.toNat = false) (h1 : c.toNat = 34) (h2 : (r.drop (strLen r)).head? = some 34) : endLen (c :: r) = strLen r + 2 := by
  simp only [endLen]; rw [if_neg (by rw [h]; decide), if_pos h1, if_pos h2]
theorem endLen_strbad {c : UInt8} {r : List UInt8} (h : alnumB c.toNat = false) (h1 : c.toNat = 34) (h2 : ¬ (r.drop (strLen r)).head? = some 34) : endLen (c :: r) = 0 := by
  simp only [endLen]; rw [if_neg (by rw [h]; decide), if_pos h1, if_neg h2]
theorem endLen_punct {c : UInt8} {r : List UInt8} (h : alnumB c.toNat = false) (h1 : ¬ c.toNat = 34) : endLen (c :: r) = punctLen (c :: r) := by
  simp only [endLen]; rw [if_neg (by rw [h]; decide), if_neg h1]

set_option maxHeartbeats 2000000 in
theorem end_any (s : ByteArray) (i : Nat) (w : World) (hs : s.size ≤ maxLen) (hi : i < s.size) :
    Calls Try.prog 26 #[.string s, .int .i64 i] w fun e w' => e = .returned (.int .i64 ((i + endLen (s.data.toList.drop i) : Nat))) ∧ Below w.heap.size w w' := by
  have HS0 := Lib.hid hs
  unfold maxLen at hs
  have hd := data_drop hi
  have hrl : ∀ k, runLen (s.data.toList.drop k) ≤ s.size - k := fun k => by have := runLen_le (s.data.toList.drop k); rwa [List.length_drop, data_len] at this
  have hr := hrl i
  clear hrl
  rcases Bool.eq_false_or_eq_true (alnumB s[i].toNat) with ha | ha
  · have hf : endLen (s.data.toList.drop i) = runLen (s.data.toList.drop i) := by rw [hd]; exact endLen_run ha
    have HF := Lib.hid hf
    have HD := Lib.hid hd
    have HA := Lib.hid ha
    clear hf hd ha
    go_enter Try.func26, Try.ntmps26
    go_upto_region 3 with fail
    go_cut [11] (fun s11 wx => s11 = .bool true ∧ w = wx)
    case first =>
      rcases Bool.eq_false_or_eq_true (letterB s[i].toNat) with h1 | h1
      · go_wp2_with (first | (go_at_call 27; refine (Letter_any _ _).mono ?_; rintro e w' ⟨rfl, rfl⟩) | (go_at_call 28; refine (Digit_any _ _).mono ?_; rintro e w' ⟨rfl, rfl⟩))
        go_meet
        case rel => exact ⟨rfl, rfl⟩
      · have h2 : digitB s[i].toNat = true := by have := HA.out; simpa [alnumB, h1] using this
        go_wp2_with (first | (go_at_call 27; refine (Letter_any _ _).mono ?_; rintro e w' ⟨rfl, rfl⟩) | (go_at_call 28; refine (Digit_any _ _).mono ?_; rintro e w' ⟨rfl, rfl⟩))
        go_meet
        case rel => exact ⟨rfl, rfl⟩
    case rest =>
      obtain ⟨rfl, rfl⟩ := hcut
      go_wp2_with fail
      go_loop [5] (fun c => ∃ k : Nat, i ≤ k ∧ k ≤ s.size ∧ AllP alnumB ((s.data.toList.take k).drop i) ∧ c = .int .i64 k) (fun c => s.size - (intOf c).toNat)
      case atStart => exact ⟨i, Nat.le_refl _, by omega, AllP.start _ _ _, rfl⟩
      case round =>
        obtain ⟨k, hik, hk, hall, rfl⟩ := hrel
        have HALL := Lib.hid hall
        clear hall
        by_cases hlt : k < s.size
        · rcases Bool.eq_false_or_eq_true (letterB s[k].toNat) with h1 | h1
          · go_wp2_with (first | (go_at_call 27; refine (Letter_any _ _).mono ?_; rintro e w' ⟨rfl, rfl⟩) | (go_at_call 28; refine (Digit_any _ _).mono ?_; rintro e w' ⟨rfl, rfl⟩))
            go_round
            case rel => exact ⟨k + 1, by omega, by omega, HALL.out.snocK hik hlt (by simp [alnumB, h1]), by go_num⟩
            case measure => simp [intOf]; omega
          · rcases Bool.eq_false_or_eq_true (digitB s[k].toNat) with h2 | h2
            · go_wp2_with (first | (go_at_call 27; refine (Letter_any _ _).mono ?_; rintro e w' ⟨rfl, rfl⟩) | (go_at_call 28; refine (Digit_any _ _).mono ?_; rintro e w' ⟨rfl, rfl⟩))
              go_round
              case rel => exact ⟨k + 1, by omega, by omega, HALL.out.snocK hik hlt (by simp [alnumB, h2]), by go_num⟩
              case measure => simp [intOf]; omega
            · go_wp2_with (first | (go_at_call 27; refine (Letter_any _ _).mono ?_; rintro e w' ⟨rfl, rfl⟩) | (go_at_call 28; refine (Digit_any _ _).mono ?_; rintro e w' ⟨rfl, rfl⟩))
              go_ret
              exact ⟨ret_int (by have := seg_len (p := alnumB) hik hk HALL.out (fun _ => by simp [alnumB, h1, h2]); rw [HF.out]; unfold runLen; rw [this]; omega), Below.refl _ _⟩
        · go_wp2
          go_ret
          exact ⟨ret_int (by have := seg_len (p := alnumB) hik hk HALL.out (fun h => absurd h hlt); rw [HF.out]; unfold runLen; rw [this]; omega), Below.refl _ _⟩
  · have h1 : letterB s[i].toNat = false ∧ digitB s[i].toNat = false := by simpa [alnumB] using ha
    obtain ⟨h1, h2⟩ := h1
    by_cases h3 : s[i].toNat = 34
    · have h3' : ((s[i].toNat : Int) == 34) = true := by rw [h3]; rfl
      have hst := strLen_le (s.data.toList.drop (i + 1))
      rw [List.length_drop, data_len] at hst
      have hqq : (if ((s.data.toList.drop (i + 1)).drop (strLen (s.data.toList.drop (i + 1)))).head? = some 34 then True else True) := by split <;> trivial
      have key : (∃ h : i + 1 + strLen (s.data.toList.drop (i + 1)) < s.size, s[i + 1 + strLen (s.data.toList.drop (i + 1))].toNat = 34 ∧ endLen (s.data.toList.drop i) = strLen (s.data.toList.drop (i + 1)) + 2) ∨
          ((∀ h : i + 1 + strLen (s.data.toList.drop (i + 1)) < s.size, ¬ s[i + 1 + strLen (s.data.toList.drop (i + 1))].toNat = 34) ∧ endLen (s.data.toList.drop i) = 0) := by
        by_cases h5 : ((s.data.toList.drop (i + 1)).drop (strLen (s.data.toList.drop (i + 1)))).head? = some 34
        · left
          have hE : endLen (s.data.toList.drop i) = strLen (s.data.toList.drop (i + 1)) + 2 := by rw [hd]; exact endLen_str ha h3 h5
          rw [List.drop_drop, List.head?_drop] at h5
          have hi2 : i + 1 + strLen (s.data.toList.drop (i + 1)) < s.size := by
            have := (List.getElem?_eq_some_iff.1 h5).1; rwa [data_len] at this
          refine ⟨hi2, ?_, hE⟩
          rw [List.getElem?_eq_getElem (l := s.data.toList) (by rw [data_len]; exact hi2)] at h5
          exact congrArg UInt8.toNat (Option.some.inj h5)
        · right
          have hE : endLen (s.data.toList.drop i) = 0 := by rw [hd]; exact endLen_strbad ha h3 h5
          refine ⟨fun hi2 h6 => h5 ?_, hE⟩
          rw [List.drop_drop, List.head?_drop, List.getElem?_eq_getElem (l := s.data.toList) (by rw [data_len]; exact hi2)]
          exact congrArg some (UInt8.toNat_inj.1 h6)
      have KEY := Lib.hid key
      clear key hd h3 ha hqq hr
      go_enter Try.func26, Try.ntmps26
      go_upto_block 3 with (first | (go_at_call 27; refine (Letter_any _ _).mono ?_; rintro e w' ⟨rfl, rfl⟩) | (go_at_call 28; refine (Digit_any _ _).mono ?_; rintro e w' ⟨rfl, rfl⟩))
      go_cut [5] (fun s5 wx => s5 = .int .i64 ((i + 1 + strLen (s.data.toList.drop (i + 1)) : Nat)) ∧ w = wx)
      case first =>
        go_wp2_with fail
        go_loop [5] (fun c => ∃ k : Nat, i + 1 ≤ k ∧ k ≤ s.size ∧ AllP plainB ((s.data.toList.take k).drop (i + 1)) ∧ c = .int .i64 k) (fun c => s.size - (intOf c).toNat)
        case atStart => exact ⟨i + 1, Nat.le_refl _, by omega, AllP.start _ _ _, rfl⟩
        case round =>
          obtain ⟨k, hik, hk, hall, rfl⟩ := hrel
          have HALL := Lib.hid hall
          clear hall
          by_cases hlt : k < s.size
          · rcases Bool.eq_false_or_eq_true (plainB s[k].toNat) with h6 | h6
            · go_wp2_with (go_at_call 31; refine (plain_any _ _).mono ?_; rintro e w' ⟨rfl, rfl⟩)
              go_round
              case rel => exact ⟨k + 1, by omega, by omega, HALL.out.snocK hik hlt h6, by go_num⟩
              case measure => simp [intOf]; omega
            · go_wp2_with (go_at_call 31; refine (plain_any _ _).mono ?_; rintro e w' ⟨rfl, rfl⟩)
              go_meet
              case rel => exact ⟨vint (by have := seg_len (p := plainB) hik hk HALL.out (fun _ => h6); unfold strLen; rw [this]; omega), rfl⟩
          · go_wp2
            go_meet
            case rel => exact ⟨vint (by have := seg_len (p := plainB) hik hk HALL.out (fun h => absurd h hlt); unfold strLen; rw [this]; omega), rfl⟩
      case rest =>
        obtain ⟨rfl, rfl⟩ := hcut
        obtain ⟨m, hm⟩ : ∃ m, m = i + 1 + strLen (s.data.toList.drop (i + 1)) := ⟨_, rfl⟩
        have hmle : m ≤ s.size := by omega
        have HM := Lib.hid hm
        rw [← hm]
        clear hm hst
        rcases KEY.out with ⟨hi2, h7, hE⟩ | ⟨h7, hE⟩
        · simp only [← HM.out] at hi2 h7
          have h7' : ((s[m].toNat : Int) == 34) = true := by rw [h7]; rfl
          have HE := Lib.hid hE
          clear KEY hE h7
          go_wp2
          go_ret
          exact ⟨ret_int (by rw [HE.out, HM.out]; omega), Below.refl _ _⟩
        · simp only [← HM.out] at h7
          have HE := Lib.hid hE
          have H7 := Lib.hid h7
          clear KEY hE h7
          by_cases hi2 : m < s.size
          · have h8 := H7.out hi2
            have h7' : ((s[m].toNat : Int) == 34) = false := by rw [beq_eq_false_iff_ne]; omega
            clear h8
            go_wp2
            go_ret
            exact ⟨ret_int (by rw [HE.out]; omega), Below.refl _ _⟩
          · go_wp2
            go_ret
            exact ⟨ret_int (by rw [HE.out]; omega), Below.refl _ _⟩
    · have h3' : ((s[i].toNat : Int) == 34) = false := by rw [beq_eq_false_iff_ne]; omega
      have hf : endLen (s.data.toList.drop i) = punctLen (s.data.toList.drop i) := by rw [hd]; exact endLen_punct ha h3
      have hml : (str (markOf (s.data.toList.drop i))).size = punctLen (s.data.toList.drop i) := by
        rw [← punct_mark]; show (markOf _).toArray.size = _; simp
      have hpl := punctLen_le (s.data.toList.drop i)
      obtain ⟨sm, hsm⟩ : ∃ sm, sm = str (markOf (s.data.toList.drop i)) := ⟨_, rfl⟩
      have hmk : ∀ wx, Calls Try.prog 24 #[.string s, .int .i64 i] wx fun e w' => e = .returned (.string sm) ∧ Below wx.heap.size wx w' := by
        intro wx; rw [hsm]; exact mark_any s i wx HS0.out (by omega)
      rw [← hsm] at hml
      have HMK := Lib.hid hmk
      have HF := Lib.hid hf
      have HML := Lib.hid hml
      rw [List.length_drop, data_len] at hpl
      have hml2 : i + sm.size ≤ s.size := by omega
      clear hf hml hd h3 ha hr hmk hsm hpl
      go_enter Try.func26, Try.ntmps26
      go_wp2_with (first | (go_at_call 27; refine (Letter_any _ _).mono ?_; rintro e w' ⟨rfl, rfl⟩) | (go_at_call 28; refine (Digit_any _ _).mono ?_; rintro e w' ⟨rfl, rfl⟩) | (go_at_call 24; refine (HMK.out _).mono ?_; rintro e w' ⟨rfl, hbel⟩))
      go_ret
      exact ⟨ret_int (by rw [HF.out, HML.out]; omega), by assumption⟩
end Go.Proofs.Ytmeicjndfblglaa
