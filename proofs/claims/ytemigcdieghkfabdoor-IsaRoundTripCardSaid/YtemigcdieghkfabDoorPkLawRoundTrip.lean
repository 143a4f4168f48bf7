/- IsaRoundTrip. -/
import Derived.Test.YtemigcdieghkfabDoorPkRoundP
import Derived.Test.YtemigcdieghkfabDoorPkSameI
import Derived.Test.YtemigcdieghkfabDoorPkU8Conv
import Derived.Test.YtemigcdieghkfabDoorPkProgG
set_option linter.unusedVariables false
set_option linter.unusedSimpArgs false
set_option linter.unusedSectionVars false
namespace Go.Proofs.YtemigcdieghkfabDoor
open Go.RowKit Go.BigFrame

theorem OwnT.instrs {w0 w : World} {v : Value} {p : List Ins} {ol : Ents} (OW : OwnT 48 5 v (p.map fun x => x.cells.toList) ol) (KN : Kn [] w0 w ol) (h : ∀ x ∈ p, x.fits) : Instrs w v p := Instrs.ofT (f := fun o => o) OW KN .id h
set_option maxRecDepth 100000 in
set_option maxHeartbeats 40000000 in
theorem roundtrip_near (va vb : Value) (zl zs : List Int) (w : World) (hz : Ints w va zl) (hb : U8s w vb zs) (hzl : zl.length ≤ 200) (hbl : zs.length ≤ 1000) (hp : Pow w) :
    Calls Tryd.prog 3 #[va, vb] w fun e w' => e = .returned (.bool true) ∧ Below w.heap.size w w' := by
  have KN := Kn.start w
  obtain ⟨za, zc, rfl, hzm⟩ := hz.form
  obtain ⟨ba, bc, rfl, hbm, _⟩ := hb.form
  obtain ⟨zn, hzn⟩ : ∃ zn, zn = zl.length := ⟨_, rfl⟩
  obtain ⟨bn, hbn⟩ : ∃ bn, bn = zs.length := ⟨_, rfl⟩
  have HZ := Lib.hid hz
  have HB := Lib.hid hb
  have HP := Lib.hid hp
  rw [← hzn] at hzl ⊢
  rw [← hbn] at hbl ⊢
  have HZN := Lib.hid hzn
  have HBN := Lib.hid hbn
  clear hz hb hp hzn hbn hzm hbm
  go_enter Tryd.func3, Tryd.ntmps3
  go_upto_region 4 with (first | (go_at_call 7; refine (Program_any _ zl _ (by rw [HZN.out]; exact HZ.out)).mono ?_; rintro e wx ⟨g, cap, p, rfl, h1, h2, h3, h4, h5, h6, K2⟩; replace KN := KN.call0 K2; clear K2; simp only [List.append_nil] at KN) | ((with_reducible refine wpList_gate ?_); first | ((refine gate_store (by rfl) ?_); first | (refine wpList_kn_storeW KN (by rfl) 33 _ _ rfl _ rfl _ rfl _ _ (by repeat (first | exact Repl.here | apply Repl.there)) (by kernel_rfl) (by kernel_rfl) (by kernel_rfl) ?_; clear KN; intro wx KN) | (refine wpList_kn_storeA KN (by rfl) 33 _ _ rfl _ _ rfl _ rfl _ _ (by repeat (first | exact Repl.here | apply Repl.there)) (by (try simp only [Array.size_setIfInBounds, putL_size]); first | exact Nat.le_of_ble_eq_true rfl | (simp; omega)) (by kernel_rfl) (by kernel_rfl) ?_; clear KN; intro wx KN)) | ((refine gate_new (by rfl) ?_); first | (refine wpList_kn_alloc KN (by rfl) 33 rfl 11 rfl #[.int .i64 0, .int .i64 0] (by kernel_rfl) ?_; clear KN; intro g11 wx hg11 KN))))
  (try go_frame)
  obtain ⟨n, hn⟩ : ∃ n, n = p.length := ⟨_, rfl⟩
  have HI : Hid (Instrs wx (.slice (some ⟨g, 0, none⟩) n cap) p) := Lib.hid (Instrs.of_kn' KN (by repeat (first | exact Has.here | refine Has.there ?_)) hn.symm h1 h2 h6)
  have HOK : Hid (∀ x ∈ p, InsOk x) := Lib.hid (fun x hx => InsOk.of (progErr_all h5 x hx) (h6 x hx).1)
  have HW : Hid (Below w.heap.size w wx) := Lib.hid KN.toBelow
  rw [← hn] at h1 h3 h4 ⊢
  have HN := Lib.hid hn
  have H5 := Lib.hid h5
  have H6 := Lib.hid h6
  clear hn h5 h6
  replace KN := Kn.start wx
  go_upto_region 5 with (first | (go_at_call 8; refine (Encode_any _ p _ HI.out).mono ?_; rintro e wy ⟨vx, ol, rfl, OW, K2⟩; rw [H5.out]) | ((with_reducible refine wpList_gate ?_); first | ((refine gate_store (by rfl) ?_); first | (refine wpList_kn_storeW KN (by rfl) 33 _ _ rfl _ rfl _ rfl _ _ (by repeat (first | exact Repl.here | apply Repl.there)) (by kernel_rfl) (by kernel_rfl) (by kernel_rfl) ?_; clear KN; intro wx KN) | (refine wpList_kn_storeA KN (by rfl) 33 _ _ rfl _ _ rfl _ rfl _ _ (by repeat (first | exact Repl.here | apply Repl.there)) (by (try simp only [Array.size_setIfInBounds, putL_size]); first | exact Nat.le_of_ble_eq_true rfl | (simp; omega)) (by kernel_rfl) (by kernel_rfl) ?_; clear KN; intro wx KN)) | ((refine gate_new (by rfl) ?_); first | (refine wpList_kn_alloc KN (by rfl) 33 rfl 11 rfl #[.int .i64 0, .int .i64 0] (by kernel_rfl) ?_; clear KN; intro g11 wx hg11 KN))))
  (try go_frame)
  have hX := U8s.of_own (f := fun o => o) OW K2 .id (encR_bytes p)
  have hec : encR p = encP p := by unfold encR; rw [if_pos H5.out]
  rw [hec] at OW hX
  obtain ⟨xa, xc, hvx⟩ := OW.form
  rw [u8C_len, encP_len, ← HN.out] at hvx
  subst hvx
  have HX := Lib.hid hX
  have HI2 := Lib.hid (HI.out.below K2.toBelow)
  have HW2 := Lib.hid (HW.out.trans (K2.toBelow.mono HW.out.size))
  clear HI HW OW K2 KN hX hec
  have KN := Kn.start wy
  go_upto_region 6 with (first | (go_at_call 9; refine (Decode_any _ (encP p) _ HX.out).mono ?_; intro e wz hd; obtain ⟨vq, ol, he, OW, K2⟩ := hd; rw [dec_enc H5.out HOK.out] at he OW; subst he) | ((with_reducible refine wpList_gate ?_); first | ((refine gate_store (by rfl) ?_); first | (refine wpList_kn_storeW KN (by rfl) 33 _ _ rfl _ rfl _ rfl _ _ (by repeat (first | exact Repl.here | apply Repl.there)) (by kernel_rfl) (by kernel_rfl) (by kernel_rfl) ?_; clear KN; intro wx KN) | (refine wpList_kn_storeA KN (by rfl) 33 _ _ rfl _ _ rfl _ rfl _ _ (by repeat (first | exact Repl.here | apply Repl.there)) (by (try simp only [Array.size_setIfInBounds, putL_size]); first | exact Nat.le_of_ble_eq_true rfl | (simp; omega)) (by kernel_rfl) (by kernel_rfl) ?_; clear KN; intro wx KN)) | ((refine gate_new (by rfl) ?_); first | (refine wpList_kn_alloc KN (by rfl) 33 rfl 11 rfl #[.int .i64 0, .int .i64 0] (by kernel_rfl) ?_; clear KN; intro g11 wx hg11 KN))))
  (try go_frame)
  have HQ : Hid (Instrs wz vq p) := Lib.hid (OwnT.instrs OW K2 H6.out)
  obtain ⟨qa, qc, hvq⟩ := OW.form
  rw [List.length_map, ← HN.out] at hvq
  subst hvq
  have HI3 := Lib.hid (HI2.out.below K2.toBelow)
  have HW3 := Lib.hid (HW2.out.trans (K2.toBelow.mono HW2.out.size))
  clear HI2 HW2 OW K2 KN HX
  have KN := Kn.start wz
  have HDL : Hid ((str (disL p)).size ≤ maxLen) := Lib.hid (by
    rw [str_size]
    unfold disL maxLen
    rw [if_pos H5.out]
    have := linesT_len p p 0 HOK.out (by rw [← HN.out]; omega)
    rw [← HN.out] at this
    omega)
  go_upto_region 7 with (first | (go_at_call 11; refine (Disassemble_any _ p _ HI3.out (HP.out.below HW3.out)).mono ?_; rintro e wx ⟨rfl, hb⟩; replace KN := KN.below hb; clear hb) | (go_at_call 10; refine (Assemble_any (str (disL p)) _ HDL.out).mono ?_; intro e wx hq; obtain ⟨vr, ol, he, OW, K2⟩ := hq; rw [data_str, asm_dis H5.out HOK.out (by rw [← HN.out]; omega)] at he OW; subst he; replace KN := KN.call0 K2; clear K2; simp only [List.append_nil] at KN; obtain ⟨ra, rc, hvr⟩ := OW.form; rw [List.length_map, ← HN.out] at hvr; subst hvr; have HR := Lib.hid OW; clear OW) | ((with_reducible refine wpList_gate ?_); first | ((refine gate_store (by rfl) ?_); first | (refine wpList_kn_storeW KN (by rfl) 33 _ _ rfl _ rfl _ rfl _ _ (by repeat (first | exact Repl.here | apply Repl.there)) (by kernel_rfl) (by kernel_rfl) (by kernel_rfl) ?_; clear KN; intro wx KN) | (refine wpList_kn_storeA KN (by rfl) 33 _ _ rfl _ _ rfl _ rfl _ _ (by repeat (first | exact Repl.here | apply Repl.there)) (by (try simp only [Array.size_setIfInBounds, putL_size]); first | exact Nat.le_of_ble_eq_true rfl | (simp; omega)) (by kernel_rfl) (by kernel_rfl) ?_; clear KN; intro wx KN)) | ((refine gate_new (by rfl) ?_); first | (refine wpList_kn_alloc KN (by rfl) 33 rfl 11 rfl #[.int .i64 0, .int .i64 0] (by kernel_rfl) ?_; clear KN; intro g11 wx hg11 KN))))
  (try go_frame)
  have HI4 := Lib.hid (HI3.out.below KN.toBelow)
  have HQ4 := Lib.hid (HQ.out.below KN.toBelow)
  have HR4 := Lib.hid (OwnT.instrs HR.out (KN.sub ((List.Sublist.refl _).cons _)) H6.out)
  have HW4 := Lib.hid (HW3.out.trans (KN.toBelow.mono HW3.out.size))
  clear HI3 HQ HR HW3 hg11
  replace KN := Kn.start wx
  have e8 : (8 * (n : Int) != 8 * (n : Int)) = false := by simp
  go_upto_region 9 with (first | (go_at_call 12; ((with_reducible refine (Same_eq _ _ p _ (HI4.out.below KN.toBelow) (HQ4.out.below KN.toBelow)).mono ?_); rintro e wx ⟨rfl, hb⟩; replace KN := KN.below hb; clear hb)) | (go_at_call 12; ((with_reducible refine (Same_eq _ _ p _ (HI4.out.below KN.toBelow) (HR4.out.below KN.toBelow)).mono ?_); rintro e wx ⟨rfl, hb⟩; replace KN := KN.below hb; clear hb)) | ((with_reducible refine wpList_gate ?_); first | ((refine gate_store (by rfl) ?_); first | (refine wpList_kn_storeW KN (by rfl) 33 _ _ rfl _ rfl _ rfl _ _ (by repeat (first | exact Repl.here | apply Repl.there)) (by kernel_rfl) (by kernel_rfl) (by kernel_rfl) ?_; clear KN; intro wx KN) | (refine wpList_kn_storeA KN (by rfl) 33 _ _ rfl _ _ rfl _ rfl _ _ (by repeat (first | exact Repl.here | apply Repl.there)) (by (try simp only [Array.size_setIfInBounds, putL_size]); first | exact Nat.le_of_ble_eq_true rfl | (simp; omega)) (by kernel_rfl) (by kernel_rfl) ?_; clear KN; intro wx KN)) | ((refine gate_new (by rfl) ?_); first | (refine wpList_kn_alloc KN (by rfl) 33 rfl 11 rfl #[.int .i64 0, .int .i64 0] (by kernel_rfl) ?_; clear KN; intro g11 wx hg11 KN))))
  (try go_frame)
  have HW5 := Lib.hid (HW4.out.trans (KN.toBelow.mono HW4.out.size))
  obtain ⟨s, e0, hd⟩ : ∃ s e0, decR zs = (s, e0) := ⟨_, _, rfl⟩
  have HD := Lib.hid hd
  have HBY : Hid (BytesOk zs) := Lib.hid HB.out.2
  have HB5 : Hid (U8s wx (.slice ba bn bc) zs) := Lib.hid (by rw [HBN.out]; exact HB.out.below HW5.out)
  clear HI4 HQ4 HR4 HW4 hd KN
  by_cases he0 : e0 = 0
  · subst he0
    have hed := enc_dec HBY.out HD.out
    have HED := Lib.hid hed
    have hsf : ∀ x ∈ s, x.fits := by
      have h1 : (decR zs).1 = s := by rw [HD.out]
      unfold decR at h1
      split at h1
      · rw [← h1]; intro x hx; cases hx
      · split at h1
        · rw [← h1]; exact decL_fits HBY.out _
        · rw [← h1]; intro x hx; cases hx
    have HSF := Lib.hid hsf
    clear hed hsf
    go_upto_region 12 with (first | (go_at_call 9; refine (Decode_any _ zs _ HB5.out).mono ?_; intro e wy hq; obtain ⟨vs, ol, he, OW, K2⟩ := hq; rw [HD.out] at he OW; subst he) | ((with_reducible refine wpList_gate ?_); first | ((refine gate_store (by rfl) ?_); first | (refine wpList_kn_storeW KN (by rfl) 33 _ _ rfl _ rfl _ rfl _ _ (by repeat (first | exact Repl.here | apply Repl.there)) (by kernel_rfl) (by kernel_rfl) (by kernel_rfl) ?_; clear KN; intro wx KN) | (refine wpList_kn_storeA KN (by rfl) 33 _ _ rfl _ _ rfl _ rfl _ _ (by repeat (first | exact Repl.here | apply Repl.there)) (by (try simp only [Array.size_setIfInBounds, putL_size]); first | exact Nat.le_of_ble_eq_true rfl | (simp; omega)) (by kernel_rfl) (by kernel_rfl) ?_; clear KN; intro wx KN)) | ((refine gate_new (by rfl) ?_); first | (refine wpList_kn_alloc KN (by rfl) 33 rfl 11 rfl #[.int .i64 0, .int .i64 0] (by kernel_rfl) ?_; clear KN; intro g11 wx hg11 KN))))
    (try go_frame)
    have HS : Hid (Instrs wy vs s) := Lib.hid (OwnT.instrs OW K2 HSF.out)
    have HB6 := Lib.hid (HB5.out.below K2.toBelow)
    have HW6 := Lib.hid (HW5.out.trans (K2.toBelow.mono HW5.out.size))
    clear HB5 HW5 OW K2
    go_upto_region 13 with (first | (go_at_call 8; refine (Encode_any _ s _ HS.out).mono ?_; rintro e wv ⟨vy, ol, rfl, OW, K2⟩; rw [HED.out.2]; rw [HED.out.1] at OW) | ((with_reducible refine wpList_gate ?_); first | ((refine gate_store (by rfl) ?_); first | (refine wpList_kn_storeW KN (by rfl) 33 _ _ rfl _ rfl _ rfl _ _ (by repeat (first | exact Repl.here | apply Repl.there)) (by kernel_rfl) (by kernel_rfl) (by kernel_rfl) ?_; clear KN; intro wx KN) | (refine wpList_kn_storeA KN (by rfl) 33 _ _ rfl _ _ rfl _ rfl _ _ (by repeat (first | exact Repl.here | apply Repl.there)) (by (try simp only [Array.size_setIfInBounds, putL_size]); first | exact Nat.le_of_ble_eq_true rfl | (simp; omega)) (by kernel_rfl) (by kernel_rfl) ?_; clear KN; intro wx KN)) | ((refine gate_new (by rfl) ?_); first | (refine wpList_kn_alloc KN (by rfl) 33 rfl 11 rfl #[.int .i64 0, .int .i64 0] (by kernel_rfl) ?_; clear KN; intro g11 wx hg11 KN))))
    (try go_frame)
    have hY := U8s.of_own (f := fun o => o) OW K2 .id HBY.out
    have hc1 := hY.conv
    have hc2 := (HB6.out.below K2.toBelow).conv
    have HW7 := Lib.hid (HW6.out.trans (K2.toBelow.mono HW6.out.size))
    clear hY OW K2 HB6 HW6
    go_wp2_with (go_at_call 6; refine (awake_any _).mono ?_; rintro e wx ⟨rfl, hb⟩)
    go_ret
    exact ⟨rfl, HW7.out.trans (hb.mono HW7.out.size)⟩
  · have hs0 : s = [] := by
      have h1 : decR zs = (s, e0) := HD.out
      unfold decR at h1
      split at h1
      · exact (congrArg Prod.fst h1).symm
      · split at h1
        · exact absurd (congrArg Prod.snd h1).symm he0
        · exact (congrArg Prod.fst h1).symm
    subst hs0
    have hne : (e0 != 0) = true := by rw [bne_iff_ne]; exact he0
    clear he0
    go_upto_region 11 with (first | (go_at_call 9; refine (Decode_any _ zs _ HB5.out).mono ?_; intro e wy hq; obtain ⟨vs, ol, he, OW, K2⟩ := hq; rw [HD.out] at he OW; subst he; obtain ⟨sa, sc, rfl⟩ := OW.form; have HW6 := Lib.hid (HW5.out.trans (K2.toBelow.mono HW5.out.size)); clear OW K2) | ((with_reducible refine wpList_gate ?_); first | ((refine gate_store (by rfl) ?_); first | (refine wpList_kn_storeW KN (by rfl) 33 _ _ rfl _ rfl _ rfl _ _ (by repeat (first | exact Repl.here | apply Repl.there)) (by kernel_rfl) (by kernel_rfl) (by kernel_rfl) ?_; clear KN; intro wx KN) | (refine wpList_kn_storeA KN (by rfl) 33 _ _ rfl _ _ rfl _ rfl _ _ (by repeat (first | exact Repl.here | apply Repl.there)) (by (try simp only [Array.size_setIfInBounds, putL_size]); first | exact Nat.le_of_ble_eq_true rfl | (simp; omega)) (by kernel_rfl) (by kernel_rfl) ?_; clear KN; intro wx KN)) | ((refine gate_new (by rfl) ?_); first | (refine wpList_kn_alloc KN (by rfl) 33 rfl 11 rfl #[.int .i64 0, .int .i64 0] (by kernel_rfl) ?_; clear KN; intro g11 wx hg11 KN))))
    (try go_frame)
    go_wp2_with (go_at_call 6; refine (awake_any _).mono ?_; rintro e wx ⟨rfl, hb⟩)
    go_ret
    exact ⟨rfl, HW6.out.trans (hb.mono HW6.out.size)⟩
theorem isaRoundTrip_any (va vb : Value) (zl zs : List Int) (w : World) (hz : Ints w va zl) (hb : U8s w vb zs) (hp : Pow w) :
    Calls Tryd.prog 3 #[va, vb] w fun e w' => e = .returned (.bool true) ∧ Below w.heap.size w w' := by
  by_cases h : zl.length ≤ 200 ∧ zs.length ≤ 1000
  · exact roundtrip_near va vb zl zs w hz hb h.1 h.2 hp
  · obtain ⟨za, zc, rfl, hzm⟩ := hz.form
    obtain ⟨ba, bc, rfl, hbm, _⟩ := hb.form
    obtain ⟨zn, hzn⟩ : ∃ zn, zn = zl.length := ⟨_, rfl⟩
    obtain ⟨bn, hbn⟩ : ∃ bn, bn = zs.length := ⟨_, rfl⟩
    rw [← hzn] at h hzm ⊢
    rw [← hbn] at h hbm ⊢
    unfold maxLen at hzm hbm
    clear hz hb hzn hbn
    have hor : 200 < zn ∨ (zn ≤ 200 ∧ 1000 < bn) := by omega
    clear h
    rcases hor with h | ⟨h, h'⟩
    all_goals
      go_enter Tryd.func3, Tryd.ntmps3
      go_wp2_with (go_at_call 6; refine (awake_any _).mono ?_; rintro e wx ⟨rfl, hb⟩)
      go_ret
      exact ⟨rfl, hb⟩
end Go.Proofs.YtemigcdieghkfabDoor
