/- Valid ranges, their ends, overlaps: the program's and the reference's. -/
import Derived.Test.YtbgdjcoliiinjaaGreatPkCPlain
set_option linter.unusedVariables false
set_option linter.unusedSimpArgs false
set_option linter.unusedSectionVars false
namespace Go.Proofs.YtbgdjcoliiinjaaGreat
open Go.RowKit Go.BigFrame
def I64 (z : Int) : Prop := -9223372036854775808 ≤ z ∧ z ≤ 9223372036854775807
theorem wrap_p2 {k : Int} (h1 : k ≤ 40) : wrap64 (2 ^ k.toNat) = p2 k := by
  have h2 := p2_pos k
  have h3 := p2_le h1
  unfold p2 at h2 h3
  unfold p2 wrap64
  omega
abbrev cmpVP (b z : Int) : Prop := b ≤ 1099511627776 - z
abbrev cmpVR (b z : Int) : Prop := b + z ≤ 1099511627776
set_option maxRecDepth 100000 in
set_option maxHeartbeats 4000000 in
theorem PValid_any (b k : Int) (hb : I64 b) (hk : I64 k) (w : World) : Calls Tryz.prog 140 #[.agg #[.int .i64 b, .int .i64 k]] w fun e w' => e = .returned (.bool (decide (okB b k))) ∧ Below w.heap.size w w' := by
  have KN := Kn.start w
  obtain ⟨b0, b1⟩ := hb
  obtain ⟨k0, k1⟩ := hk
  by_cases h1 : k < 6
  · have HF := Lib.hid (decide_eq_false (p := okB b k) (fun q => by have := q.1; omega))
    go_enter Tryz.func140, Tryz.ntmps140
    go_wp2_with (first | ((with_reducible refine wpList_gate ?_); first | ((with_reducible refine gate_load ?_ ?_); rfl; first | (refine ks_load1 KN 3 Tryz.underlying3 ?_)) | ((with_reducible refine gate_new ?_ ?_); rfl; first | (refine ks_boxA KN 90 (q := 1) ?_; clear KN; intro g1 wx hg1 KN))))
    go_ret
    exact ⟨by rw [HF.out]; rfl, KN.toBelow⟩
  · by_cases h2 : 40 < k
    · have HF := Lib.hid (decide_eq_false (p := okB b k) (fun q => by have := q.2.1; omega))
      go_enter Tryz.func140, Tryz.ntmps140
      go_wp2_with (first | ((with_reducible refine wpList_gate ?_); first | ((with_reducible refine gate_load ?_ ?_); rfl; first | (refine ks_load1 KN 3 Tryz.underlying3 ?_)) | ((with_reducible refine gate_new ?_ ?_); rfl; first | (refine ks_boxA KN 90 (q := 1) ?_; clear KN; intro g1 wx hg1 KN))))
      go_ret
      exact ⟨by rw [HF.out]; rfl, KN.toBelow⟩
    · by_cases h3 : b < 0
      · have HF := Lib.hid (decide_eq_false (p := okB b k) (fun q => by have := q.2.2.1; omega))
        go_enter Tryz.func140, Tryz.ntmps140
        go_wp2_with (first | ((with_reducible refine wpList_gate ?_); first | ((with_reducible refine gate_load ?_ ?_); rfl; first | (refine ks_load1 KN 3 Tryz.underlying3 ?_)) | ((with_reducible refine gate_new ?_ ?_); rfl; first | (refine ks_boxA KN 90 (q := 1) ?_; clear KN; intro g1 wx hg1 KN))))
        go_ret
        exact ⟨by rw [HF.out]; rfl, KN.toBelow⟩
      · have HW := Lib.hid (wrap_p2 (k := k) (by omega))
        have hp := p2_pos k
        have hl := p2_le (k := k) (by omega)
        have HZ := Lib.hid (show okB b k ↔ b % p2 k = 0 ∧ b + p2 k ≤ 1099511627776 from ⟨fun q => q.2.2.2, fun q => ⟨by omega, by omega, by omega, q⟩⟩)
        obtain ⟨z, hz⟩ : ∃ z, z = p2 k := ⟨_, rfl⟩
        rw [← hz] at HW hp hl HZ
        clear hz
        have ht : b.tmod z = b % z := Int.tmod_eq_emod_of_nonneg (by omega)
        have hm0 := Int.emod_nonneg b (b := z) (by omega)
        have hm1 := Int.emod_lt_of_pos b hp
        go_enter Tryz.func140, Tryz.ntmps140
        go_upto_region 4 with (first | ((with_reducible refine wpList_gate ?_); first | ((with_reducible refine gate_load ?_ ?_); rfl; first | (refine ks_load1 KN 3 Tryz.underlying3 ?_)) | ((with_reducible refine gate_new ?_ ?_); rfl; first | (refine ks_boxA KN 90 (q := 1) ?_; clear KN; intro g1 wx hg1 KN))))
        (try go_frame)
        rw [HW.out]
        by_cases hq : b % z = 0
        · by_cases hr : b + z ≤ 1099511627776
          · have HF := Lib.hid (decide_eq_true (p := okB b k) (HZ.out.2 ⟨hq, hr⟩))
            have HE := Lib.hid (decide_eq_true (p := cmpVP b z) (by simp only [cmpVP]; omega))
            clear HZ HW
            go_wp2_with (first | ((with_reducible refine wpList_gate ?_); first | ((with_reducible refine gate_load ?_ ?_); rfl; first | (refine ks_load1 KN 3 Tryz.underlying3 ?_)) | ((with_reducible refine gate_new ?_ ?_); rfl; first | (refine ks_boxA KN 90 (q := 1) ?_; clear KN; intro g1 wx hg1 KN))))
            go_ret
            exact ⟨by rw [HF.out]; exact congrArg (fun x => Ending.returned (.bool x)) HE.out, KN.toBelow⟩
          · have HF := Lib.hid (decide_eq_false (p := okB b k) (fun q => hr (HZ.out.1 q).2))
            have HE := Lib.hid (decide_eq_false (p := cmpVP b z) (by simp only [cmpVP]; omega))
            clear HZ HW
            go_wp2_with (first | ((with_reducible refine wpList_gate ?_); first | ((with_reducible refine gate_load ?_ ?_); rfl; first | (refine ks_load1 KN 3 Tryz.underlying3 ?_)) | ((with_reducible refine gate_new ?_ ?_); rfl; first | (refine ks_boxA KN 90 (q := 1) ?_; clear KN; intro g1 wx hg1 KN))))
            go_ret
            exact ⟨by rw [HF.out]; exact congrArg (fun x => Ending.returned (.bool x)) HE.out, KN.toBelow⟩
        · have HF := Lib.hid (decide_eq_false (p := okB b k) (fun q => hq (HZ.out.1 q).1))
          clear HZ HW
          go_wp2_with (first | ((with_reducible refine wpList_gate ?_); first | ((with_reducible refine gate_load ?_ ?_); rfl; first | (refine ks_load1 KN 3 Tryz.underlying3 ?_)) | ((with_reducible refine gate_new ?_ ?_); rfl; first | (refine ks_boxA KN 90 (q := 1) ?_; clear KN; intro g1 wx hg1 KN))))
          go_ret
          exact ⟨by rw [HF.out]; rfl, KN.toBelow⟩
set_option maxRecDepth 100000 in
set_option maxHeartbeats 4000000 in
theorem RValid_any (b k : Int) (hb : I64 b) (hk : I64 k) (w : World) : Calls Tryz.prog 74 #[.agg #[.int .i64 b, .int .i64 k]] w fun e w' => e = .returned (.bool (decide (okB b k))) ∧ Below w.heap.size w w' := by
  have KN := Kn.start w
  obtain ⟨b0, b1⟩ := hb
  obtain ⟨k0, k1⟩ := hk
  by_cases h1 : k < 6
  · have HF := Lib.hid (decide_eq_false (p := okB b k) (fun q => by have := q.1; omega))
    go_enter Tryz.func74, Tryz.ntmps74
    go_wp2_with (first | ((with_reducible refine wpList_gate ?_); first | ((with_reducible refine gate_load ?_ ?_); rfl; first | (refine ks_load1 KN 3 Tryz.underlying3 ?_)) | ((with_reducible refine gate_new ?_ ?_); rfl; first | (refine ks_boxA KN 90 (q := 1) ?_; clear KN; intro g1 wx hg1 KN))))
    go_ret
    exact ⟨by rw [HF.out]; rfl, KN.toBelow⟩
  · by_cases h2 : 40 < k
    · have HF := Lib.hid (decide_eq_false (p := okB b k) (fun q => by have := q.2.1; omega))
      go_enter Tryz.func74, Tryz.ntmps74
      go_wp2_with (first | ((with_reducible refine wpList_gate ?_); first | ((with_reducible refine gate_load ?_ ?_); rfl; first | (refine ks_load1 KN 3 Tryz.underlying3 ?_)) | ((with_reducible refine gate_new ?_ ?_); rfl; first | (refine ks_boxA KN 90 (q := 1) ?_; clear KN; intro g1 wx hg1 KN))))
      go_ret
      exact ⟨by rw [HF.out]; rfl, KN.toBelow⟩
    · by_cases h3 : b < 0
      · have HF := Lib.hid (decide_eq_false (p := okB b k) (fun q => by have := q.2.2.1; omega))
        go_enter Tryz.func74, Tryz.ntmps74
        go_wp2_with (first | ((with_reducible refine wpList_gate ?_); first | ((with_reducible refine gate_load ?_ ?_); rfl; first | (refine ks_load1 KN 3 Tryz.underlying3 ?_)) | ((with_reducible refine gate_new ?_ ?_); rfl; first | (refine ks_boxA KN 90 (q := 1) ?_; clear KN; intro g1 wx hg1 KN))))
        go_ret
        exact ⟨by rw [HF.out]; rfl, KN.toBelow⟩
      · by_cases h4 : 1099511627776 ≤ b
        · have HF := Lib.hid (decide_eq_false (p := okB b k) (fun q => by have := q.2.2.2.2; have := p2_pos k; omega))
          go_enter Tryz.func74, Tryz.ntmps74
          go_wp2_with (first | ((with_reducible refine wpList_gate ?_); first | ((with_reducible refine gate_load ?_ ?_); rfl; first | (refine ks_load1 KN 3 Tryz.underlying3 ?_)) | ((with_reducible refine gate_new ?_ ?_); rfl; first | (refine ks_boxA KN 90 (q := 1) ?_; clear KN; intro g1 wx hg1 KN))))
          go_ret
          exact ⟨by rw [HF.out]; rfl, KN.toBelow⟩
        have h4' : b < 1099511627776 := by omega
        have HW := Lib.hid (wrap_p2 (k := k) (by omega))
        have hp := p2_pos k
        have hl := p2_le (k := k) (by omega)
        have HZ := Lib.hid (show okB b k ↔ b % p2 k = 0 ∧ b + p2 k ≤ 1099511627776 from ⟨fun q => q.2.2.2, fun q => ⟨by omega, by omega, by omega, q⟩⟩)
        obtain ⟨z, hz⟩ : ∃ z, z = p2 k := ⟨_, rfl⟩
        rw [← hz] at HW hp hl HZ
        clear hz
        have ht : b.tmod z = b % z := Int.tmod_eq_emod_of_nonneg (by omega)
        have hm0 := Int.emod_nonneg b (b := z) (by omega)
        have hm1 := Int.emod_lt_of_pos b hp
        go_enter Tryz.func74, Tryz.ntmps74
        go_upto_region 4 with (first | ((with_reducible refine wpList_gate ?_); first | ((with_reducible refine gate_load ?_ ?_); rfl; first | (refine ks_load1 KN 3 Tryz.underlying3 ?_)) | ((with_reducible refine gate_new ?_ ?_); rfl; first | (refine ks_boxA KN 90 (q := 1) ?_; clear KN; intro g1 wx hg1 KN))))
        (try go_frame)
        rw [HW.out]
        by_cases hq : b % z = 0
        · by_cases hr : b + z ≤ 1099511627776
          · have HF := Lib.hid (decide_eq_true (p := okB b k) (HZ.out.2 ⟨hq, hr⟩))
            have HE := Lib.hid (decide_eq_true (p := cmpVR b z) (by simp only [cmpVR]; omega))
            clear HZ HW
            go_wp2_with (first | ((with_reducible refine wpList_gate ?_); first | ((with_reducible refine gate_load ?_ ?_); rfl; first | (refine ks_load1 KN 3 Tryz.underlying3 ?_)) | ((with_reducible refine gate_new ?_ ?_); rfl; first | (refine ks_boxA KN 90 (q := 1) ?_; clear KN; intro g1 wx hg1 KN))))
            go_ret
            exact ⟨by rw [HF.out]; rfl, KN.toBelow⟩
          · have HF := Lib.hid (decide_eq_false (p := okB b k) (fun q => hr (HZ.out.1 q).2))
            have HE := Lib.hid (decide_eq_false (p := cmpVR b z) (by simp only [cmpVR]; omega))
            clear HZ HW
            go_wp2_with (first | ((with_reducible refine wpList_gate ?_); first | ((with_reducible refine gate_load ?_ ?_); rfl; first | (refine ks_load1 KN 3 Tryz.underlying3 ?_)) | ((with_reducible refine gate_new ?_ ?_); rfl; first | (refine ks_boxA KN 90 (q := 1) ?_; clear KN; intro g1 wx hg1 KN))))
            go_ret
            exact ⟨by rw [HF.out]; rfl, KN.toBelow⟩
        · have HF := Lib.hid (decide_eq_false (p := okB b k) (fun q => hq (HZ.out.1 q).1))
          clear HZ HW
          go_wp2_with (first | ((with_reducible refine wpList_gate ?_); first | ((with_reducible refine gate_load ?_ ?_); rfl; first | (refine ks_load1 KN 3 Tryz.underlying3 ?_)) | ((with_reducible refine gate_new ?_ ?_); rfl; first | (refine ks_boxA KN 90 (q := 1) ?_; clear KN; intro g1 wx hg1 KN))))
          go_ret
          exact ⟨by rw [HF.out]; rfl, KN.toBelow⟩
end Go.Proofs.YtbgdjcoliiinjaaGreat
