/- Merged: Bytes, Leaf, ScanA, ScanB. -/
import Derived.Test.YtgeeklgojjcdmaaDoorProg
import Derived.Test.YtgeeklgojjcdmaaDoorPkBase0
import Derived.WalkKit
import Derived.WalkLawsBesides
import Derived.WalkSpells
import Derived.Outline
import Derived.Lib.Hide
import Derived.Lib.IndexBytes
import Derived.KernelRfl
import Derived.LoopTactic
import Derived.Lib.Bytealg
set_option linter.unusedVariables false
set_option linter.unusedSimpArgs false
set_option linter.unusedSectionVars false
namespace Go.Proofs.YtgeeklgojjcdmaaDoor
section
open Go.RowKit

theorem callFunc_ib (s : ByteArray) (n : Int) (w : World) :
    (callFunc 80 #[.string s, .int .u8 n]).run Tryd.prog w = .ok (.value (.int .i64 (Lib.indexByte s.data.toList n.toNat.toUInt8))) w := by
  rw [run_callFunc_extern (P := Tryd.prog) Tryd.func80 (by kernel_rfl) (by kernel_rfl) (by kernel_rfl) (e := Extern.BytealgIndexByte.indexByte) (by kernel_rfl), Lib.run_indexByteString]
  rfl
theorem IndexByte_any (s : ByteArray) (n : Int) (w : World) :
    Calls Tryd.prog 67 #[.string s, .int .u8 n] w fun e w' => e = .returned (.int .i64 (Lib.indexByte s.data.toList n.toNat.toUInt8)) ∧ w = w' := by
  have hib := callFunc_ib s n w
  go_enter Tryd.func67, Tryd.ntmps67
  go_wp2
  go_ret
  exact ⟨rfl, rfl⟩
theorem IndexByte_u8 (s : ByteArray) (c : UInt8) (w : World) :
    Calls Tryd.prog 67 #[.string s, .int .u8 c.toNat] w fun e w' => e = .returned (.int .i64 (Lib.indexByte s.data.toList c)) ∧ w = w' := by
  have h := IndexByte_any s (c.toNat : Int) w
  rw [show ((c.toNat : Int)).toNat.toUInt8 = c from by simp] at h
  exact h
end
section
open Go.RowKit

theorem isDigit_any (n : Int) (w : World) :
    Calls Tryd.prog 53 #[.int .u8 n] w fun e w' => e = .returned (.bool (digitB n)) ∧ w = w' := by
  go_enter Tryd.func53, Tryd.ntmps53
  go_wp2
  all_goals (go_ret; refine ⟨?_, rfl⟩; simp [digitB]; try omega)

theorem isLetter_any (n : Int) (w : World) :
    Calls Tryd.prog 51 #[.int .u8 n] w fun e w' => e = .returned (.bool (letterB n)) ∧ w = w' := by
  go_enter Tryd.func51, Tryd.ntmps51
  go_wp2
  all_goals (go_ret; refine ⟨ret_bool (Bool.eq_iff_iff.2 ?_), rfl⟩; simp [letterB]; try omega)

theorem inString_any (n : Int) (w : World) :
    Calls Tryd.prog 55 #[.int .u8 n] w fun e w' => e = .returned (.bool (plainB n)) ∧ w = w' := by
  go_enter Tryd.func55, Tryd.ntmps55
  go_wp2
  all_goals (go_ret; refine ⟨ret_bool (Bool.eq_iff_iff.2 ?_), rfl⟩; simp [plainB, bne]; try omega)

end
section
open Go.RowKit

theorem run_any (s : ByteArray) (w : World) (hs : s.size ≤ maxLen) :
    Calls Tryd.prog 52 #[.string s] w fun e w' => e = .returned (.int .i64 (runLen s.data.toList)) ∧ w = w' := by
  unfold maxLen at hs
  go_enter Tryd.func52, Tryd.ntmps52
  go_wp2
  go_loop [3] (fun i => ∃ k : Nat, k ≤ s.size ∧ AllP alnumB (s.data.toList.take k) ∧ i = .int .i64 k) (fun i => s.size - (intOf i).toNat)
  case atStart => exact ⟨0, Nat.zero_le _, by simpa using AllP.nil _, rfl⟩
  case round =>
    obtain ⟨k, hk, ha, rfl⟩ := hrel
    have HA := Lib.hid ha
    clear ha
    by_cases hlt : k < s.size
    · by_cases h1 : letterB s[k].toNat = true
      · go_wp2_with (first | (go_at_call 51; refine (isLetter_any _ _).mono ?_; rintro e w' ⟨rfl, rfl⟩) | (go_at_call 53; refine (isDigit_any _ _).mono ?_; rintro e w' ⟨rfl, rfl⟩))
        go_round
        case rel => exact ⟨k + 1, by omega, HA.out.snoc hlt (by simp [alnumB, h1]), by go_num⟩
        case measure => simp [intOf]; omega
      · by_cases h2 : digitB s[k].toNat = true
        · simp at h1
          go_wp2_with (first | (go_at_call 51; refine (isLetter_any _ _).mono ?_; rintro e w' ⟨rfl, rfl⟩) | (go_at_call 53; refine (isDigit_any _ _).mono ?_; rintro e w' ⟨rfl, rfl⟩))
          go_round
          case rel => exact ⟨k + 1, by omega, HA.out.snoc hlt (by simp [alnumB, h2]), by go_num⟩
          case measure => simp [intOf]; omega
        · simp at h1 h2
          go_wp2_with (first | (go_at_call 51; refine (isLetter_any _ _).mono ?_; rintro e w' ⟨rfl, rfl⟩) | (go_at_call 53; refine (isDigit_any _ _).mono ?_; rintro e w' ⟨rfl, rfl⟩))
          go_ret
          exact ⟨ret_int (by rw [runLen_eq hk HA.out (fun _ => by simp [alnumB, h1, h2])]), rfl⟩
    · go_wp2
      go_ret
      exact ⟨ret_int (by rw [runLen_eq hk HA.out (fun h => absurd h hlt)]), rfl⟩
end
section
open Go.RowKit

theorem data_len (s : ByteArray) : s.data.toList.length = s.size := rfl
theorem data_nil {s : ByteArray} (h : s.size = 0) : s.data.toList = [] := List.eq_nil_of_length_eq_zero h
theorem isEmpty_of_size {s : ByteArray} (h : s.size = 0) : s.toList = [] := by rw [Lib.toList_data]; exact data_nil h
theorem not_empty_of_size {s : ByteArray} (h : 0 < s.size) : ¬ s.toList = [] := by
  intro e; rw [Lib.toList_data] at e; have h2 := congrArg List.length e; rw [data_len] at h2; exact absurd h2 (by simp only [List.length_nil]; omega)
theorem isEmpty_false {s : ByteArray} (h : 0 < s.size) : s.toList.isEmpty = false := by
  have := not_empty_of_size h
  cases hs : s.toList with
  | nil => exact absurd hs this
  | cons => rfl
theorem data_drop {s : ByteArray} {k : Nat} (h : k < s.size) : s.data.toList.drop k = s[k] :: s.data.toList.drop (k + 1) :=
  List.drop_eq_getElem_cons (l := s.data.toList) h
theorem data_cons {s : ByteArray} (h : 0 < s.size) : s.data.toList = s[0] :: s.data.toList.drop 1 := by
  have := data_drop h
  rwa [List.drop_zero] at this
theorem all_iff_run (l : List UInt8) : (l.all fun c => alnumB c.toNat) = true ↔ (l.takeWhile fun c => alnumB c.toNat).length = l.length := by
  induction l with
  | nil => simp
  | cons a l ih =>
    by_cases ha : alnumB a.toNat = true
    · simp only [List.all_cons, ha, Bool.true_and, ih, List.takeWhile_cons, if_true, List.length_cons, Nat.add_right_cancel_iff]
    · simp only [List.all_cons, ha, Bool.false_and, List.takeWhile_cons, List.length_cons]
      simp

theorem digitValue_any (n b : Int) (w : World) (h0 : 0 ≤ n) (h1 : n ≤ 255) (h2 : 10 ≤ b) (h3 : b ≤ 16) :
    Calls Tryd.prog 66 #[.int .u8 n, .int .u64 b] w fun e w' => e = .returned (.int .i64 (digV n b)) ∧ w = w' := by
  by_cases hd : digitB n = true
  · have hd' := hd
    simp [digitB] at hd'
    go_enter Tryd.func66, Tryd.ntmps66
    go_wp2_with (go_at_call 53; refine (isDigit_any _ _).mono ?_; rintro e w' ⟨rfl, rfl⟩)
    all_goals (go_ret; refine ⟨ret_int ?_, rfl⟩; simp only [digV, hexV, hd, if_true]; split <;> omega)
  · simp at hd
    have hd' := hd
    simp [digitB] at hd'
    go_enter Tryd.func66, Tryd.ntmps66
    go_wp2_with (go_at_call 53; refine (isDigit_any _ _).mono ?_; rintro e w' ⟨rfl, rfl⟩)
    all_goals (go_ret; refine ⟨ret_int ?_, rfl⟩; simp only [digV, hexV, hd]; simp only [Bool.false_eq_true, if_false]; split <;> split <;> (try split at *) <;> (try split) <;> omega)

theorem prefix_eq (s t : List UInt8) : (s.take t.length == t) = t.isPrefixOf s := by
  rw [Bool.eq_iff_iff, beq_iff_eq, List.isPrefixOf_iff_prefix, List.prefix_iff_eq_take]
  exact eq_comm
theorem extract0 (s : ByteArray) (k : Nat) : (s.extract 0 k).toList = s.data.toList.take k := by rw [Lib.extract_toList]; simp
theorem HasPrefix_any (s t : ByteArray) (w : World) (hs : s.size ≤ maxLen) (ht : t.size ≤ maxLen) :
    Calls Tryd.prog 65 #[.string s, .string t] w fun e w' => e = .returned (.bool (t.data.toList.isPrefixOf s.data.toList)) ∧ w = w' := by
  unfold maxLen at hs ht
  go_enter Tryd.func65, Tryd.ntmps65
  go_wp2
  all_goals go_ret
  · refine ⟨ret_bool ?_, rfl⟩
    rw [← prefix_eq, ← extract0, data_len, ← Lib.toList_data t]
  · have h : ¬ t.size ≤ s.size := by assumption
    refine ⟨ret_bool ?_, rfl⟩
    symm
    rw [Bool.eq_false_iff, ne_eq, List.isPrefixOf_iff_prefix]
    exact fun hp => h hp.length_le

theorem two_of (l : List UInt8) (h : two l = true) : l = [60, 61] ∨ l = [62, 61] ∨ l = [33, 61] ∨ l = [46, 46] ∨ l = [45, 62] := by
  simp [two] at h
  rcases h with (((h | h) | h) | h) | h
  all_goals simp [h]
theorem not_two (l : List UInt8) (h : two l = false) : (l == [60, 61]) = false ∧ (l == [62, 61]) = false ∧ (l == [33, 61]) = false ∧ (l == [46, 46]) = false ∧ (l == [45, 62]) = false := by
  simp only [two, Bool.or_eq_false_iff] at h
  exact ⟨h.1.1.1.1, h.1.1.1.2, h.1.1.2, h.1.2, h.2⟩

theorem punct_any (s : ByteArray) (w : World) (hs : s.size ≤ maxLen) :
    Calls Tryd.prog 56 #[.string s] w fun e w' => e = .returned (.int .i64 (punctLen s.data.toList)) ∧ w = w' := by
  unfold maxLen at hs
  have tail : (h2 : ¬ (2 ≤ s.size ∧ two (s.extract 0 2).toList = true)) → 
      (s.size = 0 ∧ punctLen s.data.toList = 0) ∨ (∃ h : 0 < s.size, punctLen s.data.toList = if 0 ≤ Lib.indexByte marks1 s[0] then 1 else 0) := by
    intro h2
    rw [extract0] at h2
    by_cases h0 : s.size = 0
    · exact .inl ⟨h0, by rw [data_nil h0]; rfl⟩
    · refine .inr ⟨by omega, ?_⟩
      have hc := data_cons (s := s) (by omega)
      unfold punctLen
      rw [data_len, if_neg h2]
      rw [hc]
      rfl
  by_cases h2 : 2 ≤ s.size ∧ two (s.extract 0 2).toList = true
  · have hfin : punctLen s.data.toList = 2 := by unfold punctLen; rw [← extract0, data_len, if_pos h2]
    have HF := Lib.hid hfin
    clear hfin tail
    obtain ⟨h2, ht⟩ := h2
    rcases two_of _ ht with h | h | h | h | h
    all_goals
      have H := Lib.hid h
      clear ht
    · have a1 : ((s.extract 0 2).toList == [60, 61]) = true := by rw [H.out]; rfl
      clear h
      go_enter Tryd.func56, Tryd.ntmps56
      go_wp2
      go_ret
      exact ⟨ret_int (by rw [HF.out]; rfl), rfl⟩
    · have a1 : ((s.extract 0 2).toList == [60, 61]) = false := by rw [H.out]; rfl
      have a2 : ((s.extract 0 2).toList == [62, 61]) = true := by rw [H.out]; rfl
      clear h
      go_enter Tryd.func56, Tryd.ntmps56
      go_wp2
      go_ret
      exact ⟨ret_int (by rw [HF.out]; rfl), rfl⟩
    · have a1 : ((s.extract 0 2).toList == [60, 61]) = false := by rw [H.out]; rfl
      have a2 : ((s.extract 0 2).toList == [62, 61]) = false := by rw [H.out]; rfl
      have a3 : ((s.extract 0 2).toList == [33, 61]) = true := by rw [H.out]; rfl
      clear h
      go_enter Tryd.func56, Tryd.ntmps56
      go_wp2
      go_ret
      exact ⟨ret_int (by rw [HF.out]; rfl), rfl⟩
    · have a1 : ((s.extract 0 2).toList == [60, 61]) = false := by rw [H.out]; rfl
      have a2 : ((s.extract 0 2).toList == [62, 61]) = false := by rw [H.out]; rfl
      have a3 : ((s.extract 0 2).toList == [33, 61]) = false := by rw [H.out]; rfl
      have a4 : ((s.extract 0 2).toList == [46, 46]) = true := by rw [H.out]; rfl
      clear h
      go_enter Tryd.func56, Tryd.ntmps56
      go_wp2
      go_ret
      exact ⟨ret_int (by rw [HF.out]; rfl), rfl⟩
    · have a1 : ((s.extract 0 2).toList == [60, 61]) = false := by rw [H.out]; rfl
      have a2 : ((s.extract 0 2).toList == [62, 61]) = false := by rw [H.out]; rfl
      have a3 : ((s.extract 0 2).toList == [33, 61]) = false := by rw [H.out]; rfl
      have a4 : ((s.extract 0 2).toList == [46, 46]) = false := by rw [H.out]; rfl
      have a5 : ((s.extract 0 2).toList == [45, 62]) = true := by rw [H.out]; rfl
      clear h
      go_enter Tryd.func56, Tryd.ntmps56
      go_wp2
      go_ret
      exact ⟨ret_int (by rw [HF.out]; rfl), rfl⟩
  · rcases tail h2 with ⟨h0, hfin⟩ | ⟨hp, hfin⟩
    · have he := isEmpty_of_size h0
      have he2 : s.toList.isEmpty = true := by rw [he]; rfl
      have h1 : s.size < 2 := by omega
      have HF := Lib.hid hfin
      clear hfin tail h2 h0
      go_enter Tryd.func56, Tryd.ntmps56
      go_wp2
      go_ret
      exact ⟨ret_int (by rw [HF.out]; rfl), rfl⟩
    · have he := not_empty_of_size hp
      have he2 := isEmpty_false hp
      have HF := Lib.hid hfin
      clear hfin tail
      by_cases h3 : 2 ≤ s.size
      · have hn : two (s.extract 0 2).toList = false := by
          rcases Bool.eq_false_or_eq_true (two (s.extract 0 2).toList) with h | h
          · exact absurd ⟨h3, h⟩ h2
          · exact h
        obtain ⟨a1, a2, a3, a4, a5⟩ := not_two _ hn
        clear h2 hn
        go_enter Tryd.func56, Tryd.ntmps56
        go_wp2_with (go_at_call 67; refine (IndexByte_u8 _ _ _).mono ?_; rintro e w' ⟨rfl, rfl⟩)
        all_goals (go_ret; refine ⟨ret_int ?_, rfl⟩; rw [HF.out]; first | rw [if_pos ‹_›]; rfl | rw [if_neg (by unfold marks1; omega)]; rfl)
      · clear h2
        go_enter Tryd.func56, Tryd.ntmps56
        go_wp2_with (go_at_call 67; refine (IndexByte_u8 _ _ _).mono ?_; rintro e w' ⟨rfl, rfl⟩)
        all_goals (go_ret; refine ⟨ret_int ?_, rfl⟩; rw [HF.out]; first | rw [if_pos ‹_›]; rfl | rw [if_neg (by unfold marks1; omega)]; rfl)
end
end Go.Proofs.YtgeeklgojjcdmaaDoor
