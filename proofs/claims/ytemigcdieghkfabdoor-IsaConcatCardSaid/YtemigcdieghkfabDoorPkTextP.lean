/- The program's own text of a token. -/
import Derived.Test.YtemigcdieghkfabDoorPkNumText
import Derived.Test.YtemigcdieghkfabDoorPkText
set_option linter.unusedVariables false
set_option linter.unusedSimpArgs false
set_option linter.unusedSectionVars false
namespace Go.Proofs.YtemigcdieghkfabDoor
open Go.RowKit

theorem startU (w : World) (sm : ByteArray) (n : Int) (a d e : Value) {T : TypeId} (hp : Pow w) : ((w.alloc (.cells #[a, .string sm, .int .u64 n, d, e] T)).drew).cell? ⟨w.heap.size, 1, none⟩ = some (.string sm) ∧ ((w.alloc (.cells #[a, .string sm, .int .u64 n, d, e] T)).drew).cell? ⟨w.heap.size, 2, none⟩ = some (.int .u64 n) ∧ w.heap.size < ((w.alloc (.cells #[a, .string sm, .int .u64 n, d, e] T)).drew).heap.size ∧ Below w.heap.size w ((w.alloc (.cells #[a, .string sm, .int .u64 n, d, e] T)).drew) ∧ Pow ((w.alloc (.cells #[a, .string sm, .int .u64 n, d, e] T)).drew) :=
  have hb := ((Below.refl w.heap.size w).alloc (Nat.le_refl _) (.cells #[a, .string sm, .int .u64 n, d, e] T)).drew
  ⟨by simp, by simp, by simp, hb, hp.below hb⟩
theorem keepU {w W w' : World} {sm : ByteArray} {n : Int} (h : W.cell? ⟨w.heap.size, 1, none⟩ = some (.string sm) ∧ W.cell? ⟨w.heap.size, 2, none⟩ = some (.int .u64 n) ∧ w.heap.size < W.heap.size ∧ Below w.heap.size w W ∧ Pow W) (hb : Below W.heap.size W w') :
    w'.cell? ⟨w.heap.size, 1, none⟩ = some (.string sm) ∧ w'.cell? ⟨w.heap.size, 2, none⟩ = some (.int .u64 n) ∧ w.heap.size < w'.heap.size ∧ Below w.heap.size w w' ∧ Pow w' :=
  ⟨(hb.cell h.2.2.1).trans h.1, (hb.cell h.2.2.1).trans h.2.1, Nat.lt_of_lt_of_le h.2.2.1 hb.size, h.2.2.2.1.trans (hb.mono (Nat.le_of_lt h.2.2.1)), h.2.2.2.2.below hb⟩
/-- What 'text' hands back. -/
def TextPost (r : Raw) (w : World) (e : Ending) (w' : World) : Prop :=
  ∃ x, e = .returned (.tuple #[.string (str x), .bool (textOf r).2]) ∧ ((textOf r).2 = true → x = (textOf r).1) ∧ Below w.heap.size w w'
theorem TextPost.mk {r : Raw} {w w' : World} {x : List UInt8} {s : ByteArray} {b : Bool} (h : textOf r = (x, b)) (hs : s = str x) (hb : Below w.heap.size w w') : TextPost r w (.returned (.tuple #[.string s, .bool b])) w' := by
  subst hs
  exact ⟨x, by rw [h], fun _ => by rw [h], hb⟩
theorem TextPost.bad {r : Raw} {w w' : World} (h : (textOf r).2 = false) {s : ByteArray} (hb : Below w.heap.size w w') : TextPost r w (.returned (.tuple #[.string s, .bool false])) w' :=
  ⟨s.data.toList, (by rw [h, str_data]), (fun q => by rw [h] at q; cases q), hb⟩

set_option maxRecDepth 100000 in
set_option maxHeartbeats 4000000 in
theorem text_any (r : Raw) (line col : Int) (w : World) (hs : (str r.text).size ≤ 140737488351232) (hv : 0 ≤ r.value ∧ r.value ≤ 18446744073709551615) (hp : Pow w) :
    Calls Tryd.prog 35 #[.agg #[.int .i64 r.kind, .string (str r.text), .int .u64 r.value, .int .i64 line, .int .i64 col]] w (TextPost r w) := by
  obtain ⟨kind, text, value⟩ := r
  simp only at hs hv ⊢
  obtain ⟨hv0, hv1⟩ := hv
  have HP := Lib.hid hp
  clear hp
  by_cases h0 : ¬ kind = 2 ∧ ¬ value = 0
  · have hf : (textOf ⟨kind, text, value⟩).2 = false := by unfold textOf; rw [if_pos h0]
    have HF := Lib.hid hf
    have b1 : (kind != 2) = true := by rw [bne_iff_ne]; exact h0.1
    have b2 : (value != 0) = true := by rw [bne_iff_ne]; exact h0.2
    clear hf h0
    go_enter Tryd.func35, Tryd.ntmps35
    go_wp2
    go_ret2
    exact TextPost.bad HF.out ((Below.refl _ _).alloc (Nat.le_refl _) _)
  · have hk : kind = 1 ∨ kind = 2 ∨ kind = 3 ∨ kind = 4 ∨ (¬ kind = 1 ∧ ¬ kind = 2 ∧ ¬ kind = 3 ∧ ¬ kind = 4) := by omega
    rcases hk with rfl | rfl | rfl | rfl | hk
    · have hv : value = 0 := by omega
      subst hv
      clear h0 hv0 hv1
      have hf : textOf ⟨1, text, 0⟩ = (text, wordB text) := rfl
      have HF := Lib.hid hf
      clear hf
      go_enter Tryd.func35, Tryd.ntmps35
      go_wp2_with fail
      go_quiet ((go_at_call 38; exact Calls.quiet_of_same ((isWord_any _ _ (by unfold maxLen; omega)).mono fun _ _ h => ⟨h.1, h.2.symm⟩)))
      go_wp2
      refine bodyPost_ret (v := .tuple #[.string (str text), .bool (wordB (str text).data.toList)]) (by simp [results, Tryd.results35, go_sem]) rfl ?_
      exact TextPost.mk (by rw [HF.out, data_str]) rfl (below_drewN ((Below.refl _ _).alloc (Nat.le_refl _) _) _)
    · clear h0
      obtain ⟨n, rfl⟩ := Int.eq_ofNat_of_zero_le hv0
      have hf : textOf ⟨2, text, n⟩ = (numL 10 n, decide (text = [])) := by unfold textOf; rw [if_neg (by simp)]; rfl
      have HF := Lib.hid hf
      have he : ((str text).toList == (⟨#[]⟩ : ByteArray).toList) = decide (text = []) := by
        rw [Lib.toList_data, Lib.toList_data, data_str, Bool.eq_iff_iff]; simp
      obtain ⟨sm, hsm⟩ : ∃ sm, sm = str text := ⟨_, rfl⟩
      obtain ⟨bm, hbm⟩ : ∃ bm, bm = decide (text = []) := ⟨_, rfl⟩
      have hf' := HF.out
      rw [← hbm] at hf'
      have HF' := Lib.hid hf'
      rw [← hsm, ← hbm] at he
      have HE := Lib.hid he
      rw [← hsm] at hs ⊢
      have ha := World.new_ne w
      clear hf hf' HF hsm hbm he
      go_enter Tryd.func35, Tryd.ntmps35
      go_wp2_with fail
      go_region_held3 (fun w' => w'.cell? ⟨w.heap.size, 1, none⟩ = some (.string sm) ∧ w'.cell? ⟨w.heap.size, 2, none⟩ = some (.int .u64 (n : Int)) ∧ w.heap.size < w'.heap.size ∧ Below w.heap.size w w' ∧ Pow w') (first | (refine keepU ?_ hb <;> assumption) | (exact startU w sm _ _ _ _ HP.out)) ((go_at_call 66; refine (FormatUint_any n (by omega) _ (by first | assumption | exact And.right (And.right (And.right (And.right (by assumption)))))).mono ?_; rintro e w' ⟨rfl, hb⟩))
      go_wp2
      refine bodyPost_ret (v := .tuple #[.string (str (numL 10 n)), .bool (sm.toList == (⟨#[]⟩ : ByteArray).toList)]) (by simp [results, Tryd.results35, go_sem]) rfl ?_
      rw [HE.out]
      exact TextPost.mk HF'.out rfl (And.left (And.right (And.right (And.right (by assumption)))))
    · have hv : value = 0 := by omega
      subst hv
      clear h0 hv0 hv1
      have hf : textOf ⟨3, text, 0⟩ = ([34] ++ text ++ [34], text.all fun c => plainB c.toNat) := rfl
      have HF := Lib.hid hf
      have hcat : (⟨#[34]⟩ : ByteArray) ++ str text ++ ⟨#[34]⟩ = str ([34] ++ text ++ [34]) := bytes_ext (by simp [str])
      have HCAT := Lib.hid hcat
      obtain ⟨sm, hsm⟩ : ∃ sm, sm = str text := ⟨_, rfl⟩
      have htx : text = sm.data.toList := by rw [hsm, data_str]
      have HTX := Lib.hid htx
      rw [← hsm] at hs ⊢
      have HSM := Lib.hid hsm
      clear hf hcat hsm htx
      go_enter Tryd.func35, Tryd.ntmps35
      go_wp2_with fail
      go_loop [4] (fun i => ∃ k : Nat, k ≤ sm.size ∧ AllP plainB (sm.data.toList.take k) ∧ i = .int .i64 k) (fun i => sm.size - (intOf i).toNat)
      case atStart => exact ⟨0, Nat.zero_le _, by simpa using AllP.nil _, rfl⟩
      case round =>
        obtain ⟨k, hk, ha, rfl⟩ := hrel
        have HA := Lib.hid ha
        clear ha
        by_cases hlt : k < sm.size
        · rcases Bool.eq_false_or_eq_true (plainB sm[k].toNat) with h1 | h1
          · go_wp2_with (go_at_call 64; refine (inString_any _ _).mono ?_; rintro e w' ⟨rfl, rfl⟩)
            go_round
            case rel => exact ⟨k + 1, by omega, HA.out.snoc hlt h1, by go_num⟩
            case measure => simp [intOf]; omega
          · have hb : (textOf ⟨3, text, 0⟩).2 = false := by
              rw [HF.out, HTX.out]
              rw [List.all_eq_false]
              exact ⟨sm[k], List.getElem_mem (l := sm.data.toList) hlt, by simp [h1]⟩
            have HB := Lib.hid hb
            clear hb
            go_wp2_with (go_at_call 64; refine (inString_any _ _).mono ?_; rintro e w' ⟨rfl, rfl⟩)
            go_ret2
            exact TextPost.bad HB.out ((Below.refl _ _).alloc (Nat.le_refl _) _)
        · have hb : textOf ⟨3, text, 0⟩ = ([34] ++ text ++ [34], true) := by
            rw [HF.out]
            congr 1
            have h5 := HA.out
            rw [List.take_of_length_le (by rw [data_len]; omega), ← HTX.out] at h5
            exact List.all_eq_true.2 h5
          have HB := Lib.hid hb
          clear hb
          go_wp2
          go_ret2
          exact TextPost.mk HB.out (by rw [HSM.out, HCAT.out]) ((Below.refl _ _).alloc (Nat.le_refl _) _)
    · have hv : value = 0 := by omega
      subst hv
      clear h0 hv0 hv1
      have hf : textOf ⟨4, text, 0⟩ = (text, decide (¬ text = []) && decide (markOf text = text)) := rfl
      cases text with
      | nil =>
        have HF := Lib.hid hf
        clear hf
        rw [show str ([] : List UInt8) = ⟨#[]⟩ from rfl]
        go_enter Tryd.func35, Tryd.ntmps35
        go_wp2_with fail
        go_quiet (fail)
        go_wp2
        refine bodyPost_ret (v := .tuple #[.string ⟨#[]⟩, .bool false]) (by simp [results, Tryd.results35, go_sem]) rfl ?_
        exact TextPost.bad (by rw [HF.out]; rfl) (below_drewN ((Below.refl _ _).alloc (Nat.le_refl _) _) _)
      | cons c t =>
        have hsz : 0 < (str (c :: t)).size := by show 0 < (c :: t).toArray.size; simp
        have e1 := not_empty_of_size hsz
        have e2 := isEmpty_false hsz
        have hm : ((punctLen (str (c :: t)).data.toList : Int) == ((str (c :: t)).size : Int)) = decide (markOf (c :: t) = c :: t) := by
          rw [data_str, str_size, Bool.eq_iff_iff]
          simp only [beq_iff_eq, decide_eq_true_eq]
          have h1 := punct_mark (c :: t)
          constructor
          · intro h
            have h2 : (markOf (c :: t)).length = (c :: t).length := by omega
            have h3 := mark_eq (c :: t)
            rw [h1] at h2
            rw [h3, h2, List.take_length]
          · intro h
            rw [h] at h1
            omega
        have hf' : textOf ⟨4, c :: t, 0⟩ = (c :: t, decide (markOf (c :: t) = c :: t)) := by rw [hf]; simp
        have HF := Lib.hid hf'
        have HM := Lib.hid hm
        obtain ⟨sm, hsm⟩ : ∃ sm, sm = str (c :: t) := ⟨_, rfl⟩
        have hm2 := HM.out
        rw [← hsm] at hm2 hs e1 e2 ⊢
        have HM2 := Lib.hid hm2
        have HSM := Lib.hid hsm
        clear hf hf' hm hm2 HM hsm hsz
        go_enter Tryd.func35, Tryd.ntmps35
        go_wp2_with fail
        go_quiet ((go_at_call 65; exact Calls.quiet_of_same ((punct_any _ _ (by unfold maxLen; omega)).mono fun _ _ h => ⟨h.1, h.2.symm⟩)))
        go_wp2
        refine bodyPost_ret (v := .tuple #[.string sm, .bool ((punctLen sm.data.toList : Int) == (sm.size : Int))]) (by simp [results, Tryd.results35, go_sem]) rfl ?_
        rw [HM2.out]
        exact TextPost.mk HF.out HSM.out (below_drewN ((Below.refl _ _).alloc (Nat.le_refl _) _) _)
    · obtain ⟨k1, k2, k3, k4⟩ := hk
      have hf : (textOf ⟨kind, text, value⟩).2 = false := by unfold textOf; rw [if_neg h0, if_neg k1, if_neg k2, if_neg k3, if_neg k4]
      have HF := Lib.hid hf
      have hv : value = 0 := by omega
      subst hv
      clear h0 hf
      have b1 : (kind != 2) = true := by rw [bne_iff_ne]; exact k2
      have c1 : (kind == 1) = false := by rw [beq_eq_false_iff_ne]; exact k1
      have c2 : (kind == 2) = false := by rw [beq_eq_false_iff_ne]; exact k2
      have c3 : (kind == 3) = false := by rw [beq_eq_false_iff_ne]; exact k3
      have c4 : (kind == 4) = false := by rw [beq_eq_false_iff_ne]; exact k4
      clear k1 k2 k3 k4
      go_enter Tryd.func35, Tryd.ntmps35
      go_wp2
      go_ret2
      exact TextPost.bad HF.out ((Below.refl _ _).alloc (Nat.le_refl _) _)
end Go.Proofs.YtemigcdieghkfabDoor
