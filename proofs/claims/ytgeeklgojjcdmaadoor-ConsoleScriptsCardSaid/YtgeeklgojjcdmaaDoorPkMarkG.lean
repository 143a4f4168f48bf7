/- Merged: Mark, End. -/
import Derived.Test.YtgeeklgojjcdmaaDoorPkScanP
import Derived.Deep.QuietTactic
import Derived.BigQuiet
import Derived.IntWalk
set_option linter.unusedVariables false
set_option linter.unusedSimpArgs false
set_option linter.unusedSectionVars false
namespace Go.Proofs.YtgeeklgojjcdmaaDoor
section
open Go.RowKit

def marksL : List (List UInt8) := [[60, 61], [62, 61], [33, 61], [46, 46], [45, 62], [123], [125], [40], [41], [91], [93], [44], [59], [58], [61], [60], [62], [33], [43], [45], [42], [63], [46], [47]]
def MA : Array Value := (marksL.map fun m => Value.string (str m)).toArray
def markOf (l : List UInt8) : List UInt8 := (marksL.find? fun m => m.isPrefixOf l).getD []

theorem mark_found {l m : List UInt8} {k : Nat} (hm : marksL[k]? = some m) (ha : ∀ x ∈ marksL.take k, x.isPrefixOf l = false) (hp : m.isPrefixOf l = true) : markOf l = m := by
  unfold markOf
  have hk := (List.getElem?_eq_some_iff.1 hm).1
  have hs : marksL = marksL.take k ++ m :: marksL.drop (k + 1) := by
    have := List.drop_eq_getElem_cons hk
    rw [(List.getElem?_eq_some_iff.1 hm).2] at this
    rw [← this, List.take_append_drop]
  rw [hs, List.find?_append, List.find?_eq_none.2 (by intro x hx; rw [ha x hx]; decide)]
  simp only [List.find?_cons, hp]
  rfl
theorem mark_none {l : List UInt8} (ha : ∀ x ∈ marksL, x.isPrefixOf l = false) : markOf l = [] := by
  unfold markOf
  rw [List.find?_eq_none.2 (by intro x hx; rw [ha x hx]; decide)]; rfl
theorem all_snoc {l m : List UInt8} {k : Nat} (hm : marksL[k]? = some m) (ha : ∀ x ∈ marksL.take k, x.isPrefixOf l = false) (hp : m.isPrefixOf l = false) : ∀ x ∈ marksL.take (k + 1), x.isPrefixOf l = false := by
  intro x hx
  rw [List.take_add_one, hm] at hx
  simp only [Option.toList_some, List.mem_append, List.mem_singleton] at hx
  rcases hx with hx | rfl
  · exact ha x hx
  · exact hp
theorem ext_prefix (s : ByteArray) (i : Nat) (m : List UInt8) : ((s.extract i (i + (str m).size)).toList == (str m).toList) = m.isPrefixOf (s.data.toList.drop i) := by
  have e : (str m).size = m.length := by show m.toArray.size = _; simp
  rw [Lib.extract_toList, Lib.toList_data, data_str, e, Nat.add_sub_cancel_left, prefix_eq]
theorem isPrefixOf_two (l : List UInt8) (a b : UInt8) : ([a, b] : List UInt8).isPrefixOf l = (l.take 2 == [a, b]) := (prefix_eq l [a, b]).symm
theorem single_all0 : ∀ n < 256, (((marksL.drop 5).map fun m => m.headD 0).find? fun c => c == UInt8.ofNat n) = if 0 ≤ Lib.indexByte marks1 (UInt8.ofNat n) then some (UInt8.ofNat n) else none := by decide +kernel
theorem single_all (a : UInt8) : (((marksL.drop 5).map fun m => m.headD 0).find? fun c => c == a) = if 0 ≤ Lib.indexByte marks1 a then some a else none := by
  have := single_all0 a.toNat a.toNat_lt
  rwa [UInt8.ofNat_toNat] at this
theorem find_single (a : UInt8) (r : List UInt8) : (marksL.drop 5).find? (fun m => m.isPrefixOf (a :: r)) = if 0 ≤ Lib.indexByte marks1 a then some [a] else none := by
  have h1 : marksL.drop 5 = ((marksL.drop 5).map fun m => m.headD 0).map fun c => [c] := by decide
  rw [h1, List.find?_map]
  have h2 : ((fun m : List UInt8 => m.isPrefixOf (a :: r)) ∘ fun c => [c]) = fun c => c == a := by
    funext c; simp [List.isPrefixOf]
  rw [h2, single_all]
  split <;> rfl
theorem mark_eq (l : List UInt8) : markOf l = l.take (punctLen l) := by
  have h5 : ∀ x, marksL.find? x = ((marksL.take 5).find? x).or ((marksL.drop 5).find? x) := fun x => by rw [← List.find?_append, List.take_append_drop]
  by_cases ht : two (l.take 2) = true
  · have e2 : l.take 2 = (l.take 2) := rfl
    rcases two_of _ ht with h | h | h | h | h
    all_goals
      have hl : 2 ≤ l.length := by have := congrArg List.length h; rw [List.length_take] at this; simp at this; omega
      have hp : punctLen l = 2 := by unfold punctLen; rw [if_pos ⟨hl, ht⟩]
      rw [hp, h]
      unfold markOf
      rw [h5]
      simp only [marksL, List.take, List.find?_cons, isPrefixOf_two, h]
      rfl
  · have hf : two (l.take 2) = false := by simpa using ht
    obtain ⟨a1, a2, a3, a4, a5⟩ := not_two _ hf
    have hn : (marksL.take 5).find? (fun m => m.isPrefixOf l) = none := by
      simp only [marksL, List.take, List.find?_cons, isPrefixOf_two, a1, a2, a3, a4, a5, List.find?_nil]
    unfold markOf
    rw [h5, hn, Option.none_or]
    unfold punctLen
    rw [if_neg (by rw [hf]; simp)]
    cases l with
    | nil => rfl
    | cons a r =>
      rw [find_single]
      simp only
      split <;> rfl
theorem punct_mark (l : List UInt8) : (markOf l).length = punctLen l := by rw [mark_eq, List.length_take]; have := punctLen_le l; omega

theorem marks_any (w : World) : Calls Tryd.prog 82 #[] w fun e w' => e = .returned (.slice (some ⟨w.heap.size, 0, none⟩) 24 24) ∧ w.alloc (.cells MA 9) = w' := by
  go_enter Tryd.func82, Tryd.ntmps82
  go_wp2
  go_ret
  exact ⟨rfl, rfl⟩

set_option maxHeartbeats 2000000 in
theorem mark_any (s : ByteArray) (i : Nat) (w : World) (hs : s.size ≤ maxLen) (hi : i ≤ s.size) :
    Calls Tryd.prog 73 #[.string s, .int .i64 i] w fun e w' => e = .returned (.string (str (markOf (s.data.toList.drop i)))) ∧ Below w.heap.size w w' := by
  unfold maxLen at hs
  go_enter Tryd.func73, Tryd.ntmps73
  go_wp2_with (go_at_call 82; refine (marks_any _).mono ?_; rintro e w' ⟨rfl, rfl⟩)
  go_loopw [6] (fun c wr => ∃ k : Nat, k ≤ 24 ∧ (∀ m ∈ marksL.take k, m.isPrefixOf (s.data.toList.drop i) = false) ∧ c = .int .i64 k ∧ wr.heap[w.heap.size]? = some (.cells MA 9) ∧ Below w.heap.size w wr) (fun c _ => 24 - (intOf c).toNat)
  case atStart => exact ⟨0, by omega, by simp, rfl, heap_alloc_new w _, (Below.refl _ _).alloc (Nat.le_refl _) _⟩
  case round =>
    obtain ⟨k, hk, ha, rfl, hcell, hbel⟩ := hrel
    have HA := Lib.hid ha
    have HC := Lib.hid hcell
    have HB := Lib.hid hbel
    clear ha hcell hbel
    by_cases hlt : k < 24
    · obtain ⟨m, hm⟩ : ∃ m, marksL[k]? = some m := ⟨_, List.getElem?_eq_getElem (by simpa [marksL] using hlt)⟩
      have HM := Lib.hid hm
      have hc : wr.cell? ⟨w.heap.size, k, none⟩ = some (.string (str m)) := by
        have h := HC.out
        simp only [World.cell?, h, Option.isSome_none, Bool.false_eq_true, if_false, MA, List.getElem?_toArray, List.getElem?_map, hm, Option.map_some]
      have hml : (str m).size ≤ 2 := by
        have e : (str m).size = m.length := by show m.toArray.size = _; simp
        rw [e]
        have : ∀ x ∈ marksL, x.length ≤ 2 := by decide
        exact this m (List.mem_of_getElem? hm)
      clear hm
      obtain ⟨sm, hsm⟩ : ∃ sm, sm = str m := ⟨_, rfl⟩
      rw [← hsm] at hc hml
      have HSM := Lib.hid hsm
      clear hsm
      by_cases hfit : sm.size ≤ s.size - i
      · rcases Bool.eq_false_or_eq_true (m.isPrefixOf (s.data.toList.drop i)) with hp | hp
        · have hpe : ((s.extract i (i + sm.size)).toList == sm.toList) = true := by rw [HSM.out, ext_prefix]; exact hp
          have hf : markOf (s.data.toList.drop i) = m := mark_found HM.out HA.out hp
          have HF := Lib.hid hf
          clear hp hf
          have f1 : ((sm.size : Int)) ≤ (s.size : Int) - i := by omega
          have f2 : decide ((sm.size : Int) ≤ (s.size : Int) - i) = true := by simpa using f1
          have f3 : (i : Int) + sm.size ≤ s.size := by omega
          have e1 : IntKind.i64.wrap ((s.size : Int) - i) = (s.size : Int) - i := IntWalk.i64_in _ (by omega)
          have e2 : IntKind.i64.wrap ((i : Int) + sm.size) = (i : Int) + sm.size := IntWalk.i64_in _ (by omega)
          have e3 : ((i : Int) + sm.size).toNat = i + sm.size := by omega
          have e4 : (0 : Int) ≤ (i : Int) + sm.size := by omega
          go_wp2_with fail
          go_quiet (fail)
          clear e1 e2 e3 e4 f2
          go_wp2
          go_ret
          exact ⟨ret_str (by rw [HF.out, HSM.out]), below_drewN HB.out _⟩
        · have hpe : ((s.extract i (i + sm.size)).toList == sm.toList) = false := by rw [HSM.out, ext_prefix]; exact hp
          have HP := Lib.hid hp
          clear hp
          have f1 : ((sm.size : Int)) ≤ (s.size : Int) - i := by omega
          have f2 : decide ((sm.size : Int) ≤ (s.size : Int) - i) = true := by simpa using f1
          have f3 : (i : Int) + sm.size ≤ s.size := by omega
          have e1 : IntKind.i64.wrap ((s.size : Int) - i) = (s.size : Int) - i := IntWalk.i64_in _ (by omega)
          have e2 : IntKind.i64.wrap ((i : Int) + sm.size) = (i : Int) + sm.size := IntWalk.i64_in _ (by omega)
          have e3 : ((i : Int) + sm.size).toNat = i + sm.size := by omega
          have e4 : (0 : Int) ≤ (i : Int) + sm.size := by omega
          go_wp2_with fail
          go_quiet (fail)
          clear e1 e2 e3 e4 f2
          go_wp2
          go_roundw
          case rel => exact ⟨k + 1, by omega, all_snoc HM.out HA.out HP.out, by go_num, HC.out, below_drewN HB.out _⟩
          case measure => simp [intOf]; omega
      · have hp : m.isPrefixOf (s.data.toList.drop i) = false := by
          rw [Bool.eq_false_iff, ne_eq, List.isPrefixOf_iff_prefix]
          intro h
          have h2 := h.length_le
          rw [List.length_drop, data_len] at h2
          have h3 : sm.size = m.length := by rw [HSM.out]; show m.toArray.size = _; simp
          omega
        have HP := Lib.hid hp
        clear hp
        have f1 : ¬ ((sm.size : Int)) ≤ (s.size : Int) - i := by omega
        have f2 : decide ((sm.size : Int) ≤ (s.size : Int) - i) = false := by simpa using f1
        have e1 : IntKind.i64.wrap ((s.size : Int) - i) = (s.size : Int) - i := IntWalk.i64_in _ (by omega)
        go_wp2_with fail
        go_quiet (fail)
        clear e1 f2
        go_wp2
        go_roundw
        case rel => exact ⟨k + 1, by omega, all_snoc HM.out HA.out HP.out, by go_num, HC.out, below_drewN HB.out _⟩
        case measure => simp [intOf]; omega
    · have hf : markOf (s.data.toList.drop i) = [] := mark_none (by rw [← List.take_of_length_le (l := marksL) (i := k) (by simp [marksL]; omega)]; exact HA.out)
      have HF := Lib.hid hf
      clear hf
      go_wp2
      go_ret
      exact ⟨ret_str (by rw [HF.out]; rfl), HB.out⟩
end
section
open Go.RowKit

def endLen (l : List UInt8) : Nat :=
  match l with
  | [] => 0
  | c :: r => if alnumB c.toNat = true then runLen l else if c.toNat = 34 then (if (r.drop (strLen r)).head? = some 34 then strLen r + 2 else 0) else punctLen l
theorem endLen_run {c : UInt8} {r : List UInt8} (h : alnumB c.toNat = true) : endLen (c :: r) = runLen (c :: r) := by simp only [endLen]; rw [if_pos h]
theorem endLen_str {c : UInt8} {r : List UInt8} (h : alnumB c.toNat = false) (h1 : c.toNat = 34) (h2 : (r.drop (strLen r)).head? = some 34) : endLen (c :: r) = strLen r + 2 := by
  simp only [endLen]; rw [if_neg (by rw [h]; decide), if_pos h1, if_pos h2]
theorem endLen_strbad {c : UInt8} {r : List UInt8} (h : alnumB c.toNat = false) (h1 : c.toNat = 34) (h2 : ¬ (r.drop (strLen r)).head? = some 34) : endLen (c :: r) = 0 := by
  simp only [endLen]; rw [if_neg (by rw [h]; decide), if_pos h1, if_neg h2]
theorem endLen_punct {c : UInt8} {r : List UInt8} (h : alnumB c.toNat = false) (h1 : ¬ c.toNat = 34) : endLen (c :: r) = punctLen (c :: r) := by
  simp only [endLen]; rw [if_neg (by rw [h]; decide), if_neg h1]

set_option maxHeartbeats 2000000 in
theorem end_any (s : ByteArray) (i : Nat) (w : World) (hs : s.size ≤ maxLen) (hi : i < s.size) :
    Calls Tryd.prog 58 #[.string s, .int .i64 i] w fun e w' => e = .returned (.int .i64 ((i + endLen (s.data.toList.drop i) : Nat))) ∧ Below w.heap.size w w' := by
  have HS0 := Lib.hid hs
  unfold maxLen at hs
  have hd := data_drop hi
  have hrl : ∀ k, runLen (s.data.toList.drop k) ≤ s.size - k := fun k => by have := runLen_le (s.data.toList.drop k); rwa [List.length_drop, data_len] at this
  have hr := hrl i
  clear hrl
  rcases Bool.eq_false_or_eq_true (alnumB s[i].toNat) with ha | ha
  · have hf : endLen (s.data.toList.drop i) = runLen (s.data.toList.drop i) := by rw [hd]; exact endLen_run ha
    have HF := Lib.hid hf
    have HD := Lib.hid hd
    have HA := Lib.hid ha
    clear hf hd ha
    go_enter Tryd.func58, Tryd.ntmps58
    go_upto_region 3 with fail
    go_cut [11] (fun s11 wx => s11 = .bool true ∧ w = wx)
    case first =>
      rcases Bool.eq_false_or_eq_true (letterB s[i].toNat) with h1 | h1
      · go_wp2_with (first | (go_at_call 59; refine (Letter_any _ _).mono ?_; rintro e w' ⟨rfl, rfl⟩) | (go_at_call 60; refine (Digit_any _ _).mono ?_; rintro e w' ⟨rfl, rfl⟩))
        go_meet
        case rel => exact ⟨rfl, rfl⟩
      · have h2 : digitB s[i].toNat = true := by have := HA.out; simpa [alnumB, h1] using this
        go_wp2_with (first | (go_at_call 59; refine (Letter_any _ _).mono ?_; rintro e w' ⟨rfl, rfl⟩) | (go_at_call 60; refine (Digit_any _ _).mono ?_; rintro e w' ⟨rfl, rfl⟩))
        go_meet
        case rel => exact ⟨rfl, rfl⟩
    case rest =>
      obtain ⟨rfl, rfl⟩ := hcut
      go_wp2_with fail
      go_loop [5] (fun c => ∃ k : Nat, i ≤ k ∧ k ≤ s.size ∧ AllP alnumB ((s.data.toList.take k).drop i) ∧ c = .int .i64 k) (fun c => s.size - (intOf c).toNat)
      case atStart => exact ⟨i, Nat.le_refl _, by omega, AllP.start _ _ _, rfl⟩
      case round =>
        obtain ⟨k, hik, hk, hall, rfl⟩ := hrel
        have HALL := Lib.hid hall
        clear hall
        by_cases hlt : k < s.size
        · rcases Bool.eq_false_or_eq_true (letterB s[k].toNat) with h1 | h1
          · go_wp2_with (first | (go_at_call 59; refine (Letter_any _ _).mono ?_; rintro e w' ⟨rfl, rfl⟩) | (go_at_call 60; refine (Digit_any _ _).mono ?_; rintro e w' ⟨rfl, rfl⟩))
            go_round
            case rel => exact ⟨k + 1, by omega, by omega, HALL.out.snocK hik hlt (by simp [alnumB, h1]), by go_num⟩
            case measure => simp [intOf]; omega
          · rcases Bool.eq_false_or_eq_true (digitB s[k].toNat) with h2 | h2
            · go_wp2_with (first | (go_at_call 59; refine (Letter_any _ _).mono ?_; rintro e w' ⟨rfl, rfl⟩) | (go_at_call 60; refine (Digit_any _ _).mono ?_; rintro e w' ⟨rfl, rfl⟩))
              go_round
              case rel => exact ⟨k + 1, by omega, by omega, HALL.out.snocK hik hlt (by simp [alnumB, h2]), by go_num⟩
              case measure => simp [intOf]; omega
            · go_wp2_with (first | (go_at_call 59; refine (Letter_any _ _).mono ?_; rintro e w' ⟨rfl, rfl⟩) | (go_at_call 60; refine (Digit_any _ _).mono ?_; rintro e w' ⟨rfl, rfl⟩))
              go_ret
              exact ⟨ret_int (by have := seg_len (p := alnumB) hik hk HALL.out (fun _ => by simp [alnumB, h1, h2]); rw [HF.out]; unfold runLen; rw [this]; omega), Below.refl _ _⟩
        · go_wp2
          go_ret
          exact ⟨ret_int (by have := seg_len (p := alnumB) hik hk HALL.out (fun h => absurd h hlt); rw [HF.out]; unfold runLen; rw [this]; omega), Below.refl _ _⟩
  · have h1 : letterB s[i].toNat = false ∧ digitB s[i].toNat = false := by simpa [alnumB] using ha
    obtain ⟨h1, h2⟩ := h1
    by_cases h3 : s[i].toNat = 34
    · have h3' : ((s[i].toNat : Int) == 34) = true := by rw [h3]; rfl
      have hst := strLen_le (s.data.toList.drop (i + 1))
      rw [List.length_drop, data_len] at hst
      have hqq : (if ((s.data.toList.drop (i + 1)).drop (strLen (s.data.toList.drop (i + 1)))).head? = some 34 then True else True) := by split <;> trivial
      have key : (∃ h : i + 1 + strLen (s.data.toList.drop (i + 1)) < s.size, s[i + 1 + strLen (s.data.toList.drop (i + 1))].toNat = 34 ∧ endLen (s.data.toList.drop i) = strLen (s.data.toList.drop (i + 1)) + 2) ∨
          ((∀ h : i + 1 + strLen (s.data.toList.drop (i + 1)) < s.size, ¬ s[i + 1 + strLen (s.data.toList.drop (i + 1))].toNat = 34) ∧ endLen (s.data.toList.drop i) = 0) := by
        by_cases h5 : ((s.data.toList.drop (i + 1)).drop (strLen (s.data.toList.drop (i + 1)))).head? = some 34
        · left
          have hE : endLen (s.data.toList.drop i) = strLen (s.data.toList.drop (i + 1)) + 2 := by rw [hd]; exact endLen_str ha h3 h5
          rw [List.drop_drop, List.head?_drop] at h5
          have hi2 : i + 1 + strLen (s.data.toList.drop (i + 1)) < s.size := by
            have := (List.getElem?_eq_some_iff.1 h5).1; rwa [data_len] at this
          refine ⟨hi2, ?_, hE⟩
          rw [List.getElem?_eq_getElem (l := s.data.toList) (by rw [data_len]; exact hi2)] at h5
          exact congrArg UInt8.toNat (Option.some.inj h5)
        · right
          have hE : endLen (s.data.toList.drop i) = 0 := by rw [hd]; exact endLen_strbad ha h3 h5
          refine ⟨fun hi2 h6 => h5 ?_, hE⟩
          rw [List.drop_drop, List.head?_drop, List.getElem?_eq_getElem (l := s.data.toList) (by rw [data_len]; exact hi2)]
          exact congrArg some (UInt8.toNat_inj.1 h6)
      have KEY := Lib.hid key
      clear key hd h3 ha hqq hr
      go_enter Tryd.func58, Tryd.ntmps58
      go_upto_block 3 with (first | (go_at_call 59; refine (Letter_any _ _).mono ?_; rintro e w' ⟨rfl, rfl⟩) | (go_at_call 60; refine (Digit_any _ _).mono ?_; rintro e w' ⟨rfl, rfl⟩))
      go_cut [5] (fun s5 wx => s5 = .int .i64 ((i + 1 + strLen (s.data.toList.drop (i + 1)) : Nat)) ∧ w = wx)
      case first =>
        go_wp2_with fail
        go_loop [5] (fun c => ∃ k : Nat, i + 1 ≤ k ∧ k ≤ s.size ∧ AllP plainB ((s.data.toList.take k).drop (i + 1)) ∧ c = .int .i64 k) (fun c => s.size - (intOf c).toNat)
        case atStart => exact ⟨i + 1, Nat.le_refl _, by omega, AllP.start _ _ _, rfl⟩
        case round =>
          obtain ⟨k, hik, hk, hall, rfl⟩ := hrel
          have HALL := Lib.hid hall
          clear hall
          by_cases hlt : k < s.size
          · rcases Bool.eq_false_or_eq_true (plainB s[k].toNat) with h6 | h6
            · go_wp2_with (go_at_call 72; refine (plain_any _ _).mono ?_; rintro e w' ⟨rfl, rfl⟩)
              go_round
              case rel => exact ⟨k + 1, by omega, by omega, HALL.out.snocK hik hlt h6, by go_num⟩
              case measure => simp [intOf]; omega
            · go_wp2_with (go_at_call 72; refine (plain_any _ _).mono ?_; rintro e w' ⟨rfl, rfl⟩)
              go_meet
              case rel => exact ⟨vint (by have := seg_len (p := plainB) hik hk HALL.out (fun _ => h6); unfold strLen; rw [this]; omega), rfl⟩
          · go_wp2
            go_meet
            case rel => exact ⟨vint (by have := seg_len (p := plainB) hik hk HALL.out (fun h => absurd h hlt); unfold strLen; rw [this]; omega), rfl⟩
      case rest =>
        obtain ⟨rfl, rfl⟩ := hcut
        obtain ⟨m, hm⟩ : ∃ m, m = i + 1 + strLen (s.data.toList.drop (i + 1)) := ⟨_, rfl⟩
        have hmle : m ≤ s.size := by omega
        have HM := Lib.hid hm
        rw [← hm]
        clear hm hst
        rcases KEY.out with ⟨hi2, h7, hE⟩ | ⟨h7, hE⟩
        · simp only [← HM.out] at hi2 h7
          have h7' : ((s[m].toNat : Int) == 34) = true := by rw [h7]; rfl
          have HE := Lib.hid hE
          clear KEY hE h7
          go_wp2
          go_ret
          exact ⟨ret_int (by rw [HE.out, HM.out]; omega), Below.refl _ _⟩
        · simp only [← HM.out] at h7
          have HE := Lib.hid hE
          have H7 := Lib.hid h7
          clear KEY hE h7
          by_cases hi2 : m < s.size
          · have h8 := H7.out hi2
            have h7' : ((s[m].toNat : Int) == 34) = false := by rw [beq_eq_false_iff_ne]; omega
            clear h8
            go_wp2
            go_ret
            exact ⟨ret_int (by rw [HE.out]; omega), Below.refl _ _⟩
          · go_wp2
            go_ret
            exact ⟨ret_int (by rw [HE.out]; omega), Below.refl _ _⟩
    · have h3' : ((s[i].toNat : Int) == 34) = false := by rw [beq_eq_false_iff_ne]; omega
      have hf : endLen (s.data.toList.drop i) = punctLen (s.data.toList.drop i) := by rw [hd]; exact endLen_punct ha h3
      have hml : (str (markOf (s.data.toList.drop i))).size = punctLen (s.data.toList.drop i) := by
        rw [← punct_mark]; show (markOf _).toArray.size = _; simp
      have hpl := punctLen_le (s.data.toList.drop i)
      obtain ⟨sm, hsm⟩ : ∃ sm, sm = str (markOf (s.data.toList.drop i)) := ⟨_, rfl⟩
      have hmk : ∀ wx, Calls Tryd.prog 73 #[.string s, .int .i64 i] wx fun e w' => e = .returned (.string sm) ∧ Below wx.heap.size wx w' := by
        intro wx; rw [hsm]; exact mark_any s i wx HS0.out (by omega)
      rw [← hsm] at hml
      have HMK := Lib.hid hmk
      have HF := Lib.hid hf
      have HML := Lib.hid hml
      rw [List.length_drop, data_len] at hpl
      have hml2 : i + sm.size ≤ s.size := by omega
      clear hf hml hd h3 ha hr hmk hsm hpl
      go_enter Tryd.func58, Tryd.ntmps58
      go_wp2_with (first | (go_at_call 59; refine (Letter_any _ _).mono ?_; rintro e w' ⟨rfl, rfl⟩) | (go_at_call 60; refine (Digit_any _ _).mono ?_; rintro e w' ⟨rfl, rfl⟩) | (go_at_call 73; refine (HMK.out _).mono ?_; rintro e w' ⟨rfl, hbel⟩))
      go_ret
      exact ⟨ret_int (by rw [HF.out, HML.out]; omega), by assumption⟩
end
end Go.Proofs.YtgeeklgojjcdmaaDoor
