/- The reference's Plain and Text. -/
import Derived.Test.YtmeicjndfblglaaDoorTextPlain
import Derived.Test.YtmeicjndfblglaaDoorLawNumbers
import Derived.Deep.RegionHeld3
import Derived.Deep.DrawnRows
set_option linter.unusedVariables false
set_option linter.unusedSimpArgs false
set_option linter.unusedSectionVars false
namespace Go.Proofs.YtmeicjndfblglaaDoor
open Go.RowKit

theorem Plain_any (s : ByteArray) (w : World) (hs : s.size ≤ maxLen) :
    Calls Tryd.prog 24 #[.string s] w fun e w' => e = .returned (.bool (s.data.toList.all fun c => plainB c.toNat)) ∧ w = w' := by
  unfold maxLen at hs
  go_enter Tryd.func24, Tryd.ntmps24
  go_wp2_with fail
  go_loop [3] (fun i => ∃ k : Nat, k ≤ s.size ∧ AllP plainB (s.data.toList.take k) ∧ i = .int .i64 k) (fun i => s.size - (intOf i).toNat)
  case atStart => exact ⟨0, Nat.zero_le _, by simpa using AllP.nil _, rfl⟩
  case round =>
    obtain ⟨k, hk, ha, rfl⟩ := hrel
    have HA := Lib.hid ha
    clear ha
    by_cases hlt : k < s.size
    · rcases Bool.eq_false_or_eq_true (plainB s[k].toNat) with h1 | h1
      · go_wp2_with (go_at_call 35; refine (plain_any _ _).mono ?_; rintro e w' ⟨rfl, rfl⟩)
        go_round
        case rel => exact ⟨k + 1, by omega, HA.out.snoc hlt h1, by go_num⟩
        case measure => simp [intOf]; omega
      · go_wp2_with (go_at_call 35; refine (plain_any _ _).mono ?_; rintro e w' ⟨rfl, rfl⟩)
        go_ret
        refine ⟨ret_bool ?_, rfl⟩
        symm
        rw [List.all_eq_false]
        exact ⟨s[k], List.getElem_mem (l := s.data.toList) hlt, by simp [h1]⟩
    · go_wp2
      go_ret
      refine ⟨ret_bool ?_, rfl⟩
      have h5 := HA.out
      rw [List.take_of_length_le (by rw [data_len]; omega)] at h5
      have e : (s.data.toList.all fun c => plainB c.toNat) = true := List.all_eq_true.2 h5
      first | exact e.symm | simpa using e

theorem startT (w : World) (sm : ByteArray) (a c d e : Value) {T : TypeId} : ((w.alloc (.cells #[a, .string sm, c, d, e] T)).drew).cell? ⟨w.heap.size, 1, none⟩ = some (.string sm) ∧ w.heap.size < ((w.alloc (.cells #[a, .string sm, c, d, e] T)).drew).heap.size ∧ Below w.heap.size w ((w.alloc (.cells #[a, .string sm, c, d, e] T)).drew) :=
  ⟨by simp, by simp, ((Below.refl _ _).alloc (Nat.le_refl _) _).drew⟩
theorem keepT {w W w' : World} {sm : ByteArray} (h : W.cell? ⟨w.heap.size, 1, none⟩ = some (.string sm) ∧ w.heap.size < W.heap.size ∧ Below w.heap.size w W) (hb : Below W.heap.size W w') :
    w'.cell? ⟨w.heap.size, 1, none⟩ = some (.string sm) ∧ w.heap.size < w'.heap.size ∧ Below w.heap.size w w' :=
  ⟨(hb.cell h.2.1).trans h.1, Nat.lt_of_lt_of_le h.2.1 hb.size, h.2.2.trans (hb.mono (Nat.le_of_lt h.2.1))⟩
set_option maxRecDepth 100000 in
set_option maxHeartbeats 2000000 in
theorem Text_any (r : Raw) (line col : Int) (w : World) (hs : (str r.text).size ≤ 140737488351232) (hv : 0 ≤ r.value ∧ r.value ≤ 18446744073709551615) :
    Calls Tryd.prog 15 #[.agg #[.int .i64 r.kind, .string (str r.text), .int .u64 r.value, .int .i64 line, .int .i64 col]] w fun e w' => e = .returned (.tuple #[.string (str (textOf r).1), .bool (textOf r).2]) ∧ Below w.heap.size w w' := by
  obtain ⟨kind, text, value⟩ := r
  simp only at hs hv ⊢
  obtain ⟨hv0, hv1⟩ := hv
  by_cases h0 : ¬ kind = 2 ∧ ¬ value = 0
  · have hf : textOf ⟨kind, text, value⟩ = ([], false) := by unfold textOf; rw [if_pos h0]
    have HF := Lib.hid hf
    have b1 : (kind != 2) = true := by rw [bne_iff_ne]; exact h0.1
    have b2 : (value != 0) = true := by rw [bne_iff_ne]; exact h0.2
    clear hf h0
    go_enter Tryd.func15, Tryd.ntmps15
    go_wp2
    go_ret2
    exact ⟨by rw [HF.out]; rfl, (Below.refl _ _).alloc (Nat.le_refl _) _⟩
  · have hk : kind = 1 ∨ kind = 2 ∨ kind = 3 ∨ kind = 4 ∨ (¬ kind = 1 ∧ ¬ kind = 2 ∧ ¬ kind = 3 ∧ ¬ kind = 4) := by omega
    have H0 := Lib.hid h0
    rcases hk with rfl | rfl | rfl | rfl | hk
    · have hv : value = 0 := by omega
      subst hv
      clear h0 hv0 hv1
      have hf : textOf ⟨1, text, 0⟩ = (text, wordB text) := rfl
      have HF := Lib.hid hf
      clear hf
      go_enter Tryd.func15, Tryd.ntmps15
      go_wp2_with fail
      go_quiet ((go_at_call 22; exact Calls.quiet_of_same ((Word_any _ _ (by unfold maxLen; omega)).mono fun _ _ h => ⟨h.1, h.2.symm⟩)))
      go_wp2
      refine bodyPost_ret (v := .tuple #[.string (str text), .bool (wordB (str text).data.toList)]) (by simp [results, Tryd.results15, go_sem]) rfl ?_
      exact ⟨by rw [HF.out, data_str], below_drewN ((Below.refl _ _).alloc (Nat.le_refl _) _) _⟩
    · clear h0
      obtain ⟨n, rfl⟩ := Int.eq_ofNat_of_zero_le hv0
      have hf : textOf ⟨2, text, n⟩ = (numL 10 n, decide (text = [])) := by unfold textOf; rw [if_neg (by simp)]; rfl
      have HF := Lib.hid hf
      clear hf
      cases text with
      | nil =>
        rw [show str ([] : List UInt8) = ⟨#[]⟩ from rfl]
        go_enter Tryd.func15, Tryd.ntmps15
        go_wp2_with fail
        go_quiet ((go_at_call 23; exact Calls.quiet_of_same ((Decimal_any n (by omega) _).mono fun _ _ h => ⟨h.1, h.2.symm⟩)))
        go_wp2
        refine bodyPost_ret (v := .tuple #[.string (str (numL 10 n)), .bool true]) (by simp [results, Tryd.results15, go_sem]) rfl ?_
        exact ⟨by rw [HF.out]; rfl, below_drewN ((Below.refl _ _).alloc (Nat.le_refl _) _) _⟩
      | cons c t =>
        have hsz : 0 < (str (c :: t)).size := by show 0 < (c :: t).toArray.size; simp
        have HF1 : textOf ⟨2, c :: t, n⟩ = (numL 10 n, false) := by rw [HF.out]; rfl
        have HF := Lib.hid HF1
        have e1 := not_empty_of_size hsz
        have e2 := isEmpty_false hsz
        obtain ⟨sm, hsm⟩ : ∃ sm, sm = str (c :: t) := ⟨_, rfl⟩
        rw [← hsm] at hs e1 e2 ⊢
        clear hsz HF1 hsm
        go_enter Tryd.func15, Tryd.ntmps15
        go_wp2_with fail
        go_quiet ((go_at_call 23; exact Calls.quiet_of_same ((Decimal_any n (by omega) _).mono fun _ _ h => ⟨h.1, h.2.symm⟩)))
        go_wp2
        refine bodyPost_ret (v := .tuple #[.string (str (numL 10 n)), .bool false]) (by simp [results, Tryd.results15, go_sem]) rfl ?_
        exact ⟨by rw [HF.out], below_drewN ((Below.refl _ _).alloc (Nat.le_refl _) _) _⟩
    · have hv : value = 0 := by omega
      subst hv
      clear h0 hv0 hv1
      have hf : textOf ⟨3, text, 0⟩ = ([34] ++ text ++ [34], text.all fun c => plainB c.toNat) := rfl
      have HF := Lib.hid hf
      have hcat : (⟨#[34]⟩ : ByteArray) ++ str text ++ ⟨#[34]⟩ = str ([34] ++ text ++ [34]) := bytes_ext (by simp [str])
      have HCAT := Lib.hid hcat
      clear hf hcat
      go_enter Tryd.func15, Tryd.ntmps15
      go_wp2_with fail
      go_quiet ((go_at_call 24; exact Calls.quiet_of_same ((Plain_any _ _ (by unfold maxLen; omega)).mono fun _ _ h => ⟨h.1, h.2.symm⟩)))
      go_wp2
      refine bodyPost_ret (v := .tuple #[.string (⟨#[34]⟩ ++ str text ++ ⟨#[34]⟩), .bool ((str text).data.toList.all fun c => plainB c.toNat)]) (by simp [results, Tryd.results15, go_sem]) rfl ?_
      exact ⟨by rw [HF.out, data_str, HCAT.out], below_drewN ((Below.refl _ _).alloc (Nat.le_refl _) _) _⟩
    · have hv : value = 0 := by omega
      subst hv
      clear h0 hv0 hv1
      have hf : textOf ⟨4, text, 0⟩ = (text, decide (¬ text = []) && decide (markOf text = text)) := rfl
      cases text with
      | nil =>
        have HF := Lib.hid hf
        clear hf
        rw [show str ([] : List UInt8) = ⟨#[]⟩ from rfl]
        go_enter Tryd.func15, Tryd.ntmps15
        go_wp2_with fail
        go_quiet (fail)
        go_wp2
        refine bodyPost_ret (v := .tuple #[.string ⟨#[]⟩, .bool false]) (by simp [results, Tryd.results15, go_sem]) rfl ?_
        exact ⟨by rw [HF.out]; rfl, below_drewN ((Below.refl _ _).alloc (Nat.le_refl _) _) _⟩
      | cons c t =>
        have hsz : 0 < (str (c :: t)).size := by show 0 < (c :: t).toArray.size; simp
        have e1 := not_empty_of_size hsz
        have e2 := isEmpty_false hsz
        have hm : ((str (markOf (c :: t))).toList == (str (c :: t)).toList) = decide (markOf (c :: t) = c :: t) := by
          rw [Lib.toList_data, Lib.toList_data, data_str, data_str, Bool.eq_iff_iff]; simp
        have hf' : textOf ⟨4, c :: t, 0⟩ = (c :: t, decide (markOf (c :: t) = c :: t)) := by rw [hf]; simp
        obtain ⟨mk, hmk⟩ : ∃ mk, mk = str (markOf (c :: t)) := ⟨_, rfl⟩
        obtain ⟨sm, hsm⟩ : ∃ sm, sm = str (c :: t) := ⟨_, rfl⟩
        obtain ⟨bm, hbm⟩ : ∃ bm, bm = decide (markOf (c :: t) = c :: t) := ⟨_, rfl⟩
        rw [← hmk, ← hsm, ← hbm] at hm
        rw [← hbm] at hf'
        have HF := Lib.hid hf'
        have HSM := Lib.hid hsm
        have hmk2 : mk = str (markOf (sm.data.toList.drop 0)) := by rw [hmk, hsm, data_str]; rfl
        have HMK := Lib.hid hmk2
        rw [← hsm] at hs e1 e2 ⊢
        have HM := Lib.hid hm
        have ha := World.new_ne w
        clear hf hf' hmk hmk2 hsm hbm hsz hm
        go_enter Tryd.func15, Tryd.ntmps15
        go_wp2_with fail
        go_region_held3 (fun w' => w'.cell? ⟨w.heap.size, 1, none⟩ = some (.string sm) ∧ w.heap.size < w'.heap.size ∧ Below w.heap.size w w') (first | (refine keepT ?_ hb <;> assumption) | (exact startT w sm _ _ _ _)) ((go_at_call 25; refine (mark_any sm 0 _ (by unfold maxLen; omega) (Nat.zero_le _)).mono ?_; rintro e w' ⟨rfl, hb⟩))
        go_wp2
        refine bodyPost_ret (v := .tuple #[.string sm, .bool ((str (markOf sm.data.toList)).toList == sm.toList)]) (by simp [results, Tryd.results15, go_sem]) rfl ?_
        refine ⟨?_, And.right (And.right (by assumption))⟩
        have e5 : ((str (markOf sm.data.toList)).toList == sm.toList) = bm := by rw [← HM.out, HMK.out]; rfl
        rw [HF.out, e5, HSM.out]
    · obtain ⟨k1, k2, k3, k4⟩ := hk
      have hf : textOf ⟨kind, text, value⟩ = ([], false) := by unfold textOf; rw [if_neg h0, if_neg k1, if_neg k2, if_neg k3, if_neg k4]
      have HF := Lib.hid hf
      have hv : value = 0 := by omega
      subst hv
      clear h0 hf
      have b1 : (kind != 2) = true := by rw [bne_iff_ne]; exact k2
      have c1 : (kind == 1) = false := by rw [beq_eq_false_iff_ne]; exact k1
      have c2 : (kind == 2) = false := by rw [beq_eq_false_iff_ne]; exact k2
      have c3 : (kind == 3) = false := by rw [beq_eq_false_iff_ne]; exact k3
      have c4 : (kind == 4) = false := by rw [beq_eq_false_iff_ne]; exact k4
      clear k1 k2 k3 k4
      go_enter Tryd.func15, Tryd.ntmps15
      go_wp2
      go_ret2
      exact ⟨by rw [HF.out]; rfl, (Below.refl _ _).alloc (Nat.le_refl _) _⟩
end Go.Proofs.YtmeicjndfblglaaDoor
