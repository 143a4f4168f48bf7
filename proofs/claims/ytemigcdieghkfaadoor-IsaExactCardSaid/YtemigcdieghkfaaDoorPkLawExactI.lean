/- IsaExact. -/
import Derived.Test.YtemigcdieghkfaaDoorPkDisR
import Derived.Test.YtemigcdieghkfaaDoorPkEncR
import Derived.Test.YtemigcdieghkfaaDoorPkDecR
import Derived.Test.YtemigcdieghkfaaDoorPkSameI
import Derived.Test.YtemigcdieghkfaaDoorPkU8Conv
import Derived.Test.YtemigcdieghkfaaDoorPkAwakeI
import Derived.Test.YtemigcdieghkfaaDoorPkKnAll
set_option linter.unusedVariables false
set_option linter.unusedSimpArgs false
set_option linter.unusedSectionVars false
namespace Go.Proofs.YtemigcdieghkfaaDoor
open Go.RowKit Go.BigFrame

theorem insC_len (p : List Ins) : ∀ c ∈ p.map (fun x => x.cells.toList), c.length = 5 := by intro c hc; obtain ⟨x, _, rfl⟩ := List.mem_map.1 hc; rfl
theorem insC_one (p : List Ins) : ∀ c ∈ p.map (fun x => x.cells.toList), ∀ u ∈ c, u.oneCell' = true := by
  intro c hc u hu
  obtain ⟨x, _, rfl⟩ := List.mem_map.1 hc
  simp [Ins.cells] at hu
  rcases hu with rfl | rfl | rfl | rfl | rfl <;> rfl
theorem u8x_len (p : List Int) : ∀ c ∈ p.map (fun x => [Value.int .u8 x]), c.length = 1 := by intro c hc; obtain ⟨x, _, rfl⟩ := List.mem_map.1 hc; rfl
theorem u8x_one (p : List Int) : ∀ c ∈ p.map (fun x => [Value.int .u8 x]), ∀ u ∈ c, u.oneCell' = true := by
  intro c hc u hu
  obtain ⟨x, _, rfl⟩ := List.mem_map.1 hc
  rw [List.mem_singleton.1 hu]; rfl
theorem insI_info : (Tryd.prog.info? 35).map (fun i => (i.size, i.bytes, i.zero.map (·.cells.size))) = some (5, 40, some 5) := by kernel_rfl
theorem u8I_info : (Tryd.prog.info? 5).map (fun i => (i.size, i.bytes, i.zero.map (·.cells.size))) = some (1, 1, some 1) := by kernel_rfl
theorem decR_fits {zs : List Int} (h : BytesOk zs) : ∀ x ∈ (decR zs).1, x.fits := by
  unfold decR
  split
  · intro x hx; cases hx
  · split
    · exact decL_fits h _
    · intro x hx; cases hx
theorem OwnT.instrs' {w0 w : World} {v : Value} {p : List Ins} {ol : Ents} (OW : OwnT 35 5 v (p.map fun x => x.cells.toList) ol) (KN : Kn [] w0 w ol) (h : ∀ x ∈ p, x.fits) : Instrs w v p := Instrs.ofT (f := fun o => o) OW KN .id h
set_option maxRecDepth 100000 in
set_option maxHeartbeats 40000000 in
theorem exactI_near (va vb : Value) (p : List Ins) (zs : List Int) (w : World) (hi : Instrs w va p) (hb : U8s w vb zs) (hpl : p.length ≤ 100) (hbl : zs.length ≤ 1000) (hp : Pow w) :
    Calls Tryd.prog 6 #[va, vb] w fun e w' => e = .returned (.bool true) ∧ Below w.heap.size w w' := by
  have KN := Kn.start w
  obtain ⟨pa, pc, rfl, _⟩ := hi.form
  obtain ⟨ba, bc, rfl, hbm, _⟩ := hb.form
  obtain ⟨pn, hpn⟩ : ∃ pn, pn = p.length := ⟨_, rfl⟩
  obtain ⟨bn, hbn⟩ : ∃ bn, bn = zs.length := ⟨_, rfl⟩
  have HPL : Hid (p.length ≤ 100) := Lib.hid hpl
  have HBL : Hid (zs.length ≤ 1000) := Lib.hid hbl
  have HI := Lib.hid hi
  have HB := Lib.hid hb
  have HP := Lib.hid hp
  have HBY : Hid (BytesOk zs) := Lib.hid hb.2
  rw [← hpn] at hpl HI ⊢
  rw [← hbn] at hbl HB ⊢
  clear hi hb hp hpn hbn hbm
  go_enter Tryd.func6, Tryd.ntmps6
  go_upto_region 4 with (first | (go_at_call 13; refine (Encode_any _ p _ HR.out).mono ?_; intro e wy hq; obtain ⟨vx, ol, rfl, OW, K2⟩ := hq; have HX : Hid (U8s wy vx (encR p)) := Lib.hid (U8s.of_own (f := fun o => o) OW K2 .id (encR_bytes p)); replace KN := KN.below K2.toBelow; clear OW K2 HR) | ((with_reducible refine wpList_gate ?_); first | (refine wpList_kn_copy KN rfl _ _ 23 rfl 35 5 40 Tryd.underlying23 insI_info (by decide) rfl _ rfl _ (HI.out.1.below KN.toBelow) (insC_len p) (insC_one p) (by have := HPL.out; rw [List.length_map]; omega) ?_; clear KN; intro vc wx KN hrow; have HR : Hid (Instrs wx vc p) := Lib.hid ⟨hrow, HI.out.2⟩; clear hrow)))
  (try go_frame)
  go_upto_region 5 with (first | (go_at_call 17; refine (REncode_any _ p _ (HI.out.below KN.toBelow)).mono ?_; intro e wz hq; obtain ⟨vy, ol, rfl, OW, K2⟩ := hq; have HY : Hid (U8s wz vy (encR p)) := Lib.hid (U8s.of_own (f := fun o => o) OW K2 .id (encR_bytes p)); have HX2 := Lib.hid (HX.out.below K2.toBelow); replace KN := KN.below K2.toBelow; clear OW K2 HX))
  (try go_frame)
  obtain ⟨dz, hdz⟩ : ∃ d, d = decR zs := ⟨_, rfl⟩
  have HDZ := Lib.hid hdz
  have HDF : Hid (∀ x ∈ dz.1, x.fits) := Lib.hid (by rw [hdz]; exact decR_fits HBY.out)
  clear hdz
  have HW4 : Hid (Below w.heap.size w wz) := Lib.hid KN.toBelow
  have HI4 := Lib.hid (HI.out.below KN.toBelow)
  have HB4 := Lib.hid (HB.out.below KN.toBelow)
  clear HI HB
  replace KN := Kn.start wz
  go_upto_region 6 with (first | (go_at_call 18; refine (Decode_any _ zs _ HD.out).mono ?_; intro e wy hq; obtain ⟨vq, ol, he, OW, K2⟩ := hq; rw [← HDZ.out] at he OW; subst he; have HQ : Hid (Instrs wy vq dz.1) := Lib.hid (OwnT.instrs' OW K2 HDF.out); replace KN := KN.below K2.toBelow; clear OW K2 HD) | ((with_reducible refine wpList_gate ?_); first | (refine wpList_kn_copy KN rfl _ _ 36 rfl 5 1 1 Tryd.underlying36 u8I_info (by decide) rfl _ rfl _ (HB4.out.1.below KN.toBelow) (u8x_len zs) (u8x_one zs) (by have := HBL.out; rw [List.length_map]; omega) ?_; clear KN; intro vd wx KN hrow; have HD : Hid (U8s wx vd zs) := Lib.hid ⟨hrow, HBY.out⟩; clear hrow)))
  (try go_frame)
  go_upto_region 7 with (first | (go_at_call 19; refine (RDecode_any _ zs _ (HB4.out.below KN.toBelow) (by have := HBL.out; omega)).mono ?_; intro e wv hq; obtain ⟨vr, ol, he, OW, K2⟩ := hq; rw [← HDZ.out] at he OW; subst he; have HV : Hid (Instrs wv vr dz.1) := Lib.hid (OwnT.instrs' OW K2 HDF.out); have HQ2 := Lib.hid (HQ.out.below K2.toBelow); replace KN := KN.below K2.toBelow; clear OW K2 HQ))
  (try go_frame)
  have HI7 := Lib.hid (HI4.out.below KN.toBelow)
  have HW7 := Lib.hid (HW4.out.trans (KN.toBelow.mono HW4.out.size))
  have hc1 := (HX2.out.below KN.toBelow).conv
  have hc2 := (HY.out.below KN.toBelow).conv
  clear HI4 HB4 HX2 HY HW4
  replace KN := Kn.start wv
  obtain ⟨pe, hpe⟩ : ∃ pe, pe = progErr p := ⟨_, rfl⟩
  rw [← hpe]
  have HPE := Lib.hid hpe
  obtain ⟨de, hde⟩ : ∃ de, de = dz.2 := ⟨_, rfl⟩
  rw [← hde]
  obtain ⟨us, hus⟩ : ∃ us, us = strOfNums (encR p) := ⟨_, rfl⟩
  rw [← hus] at hc1 hc2
  obtain ⟨ut, hut⟩ : ∃ ut, ut = str (disL p) := ⟨_, rfl⟩
  have HUT := Lib.hid hut
  clear hpe hde hus hut
  have e1 : (pe == pe) = true := beq_self_eq_true _
  have e2 : (de == de) = true := beq_self_eq_true _
  go_wp2_with (first | (go_at_call 10; refine (Same_eq _ _ dz.1 _ (HQ2.out.below KN.toBelow) (HV.out.below KN.toBelow)).mono ?_; rintro e wx ⟨rfl, hb⟩; replace KN := KN.below hb; clear hb) | (go_at_call 14; refine (Validate_any _ p _ HR.out).mono ?_; rintro e wx ⟨rfl, hb⟩; rw [← HPE.out]; replace KN := KN.below hb; clear hb HR) | (go_at_call 20; refine (RValidate_any _ p _ (HI7.out.below KN.toBelow)).mono ?_; rintro e wx ⟨rfl, hb⟩; rw [← HPE.out]; replace KN := KN.below hb; clear hb) | (go_at_call 15; refine (Disassemble_any _ p _ HR.out ((HP.out.below HW7.out).below KN.toBelow)).mono ?_; rintro e wx ⟨rfl, hb⟩; rw [← HUT.out]; replace KN := KN.below hb; clear hb HR) | (go_at_call 21; refine (RDisassemble_any _ p _ (HI7.out.below KN.toBelow)).mono ?_; rintro e wx ⟨rfl, hb⟩; rw [← HUT.out]; replace KN := KN.below hb; clear hb) | (go_at_call 7; refine (awake_any _).mono ?_; rintro e wx ⟨rfl, hb⟩; replace KN := KN.below hb; clear hb) | ((with_reducible refine wpList_gate ?_); first | (refine wpList_kn_copy KN (by rfl) _ _ 23 rfl 35 5 40 Tryd.underlying23 insI_info (by decide) rfl _ rfl _ (HI7.out.1.below KN.toBelow) (insC_len p) (insC_one p) (by have := HPL.out; rw [List.length_map]; omega) ?_; clear KN; intro vc wx KN hrow; have HR : Hid (Instrs wx vc p) := Lib.hid ⟨hrow, HI7.out.2⟩; clear hrow)))
  go_ret
  exact ⟨rfl, HW7.out.trans (KN.toBelow.mono HW7.out.size)⟩
theorem isaExact_any (va vb : Value) (p : List Ins) (zs : List Int) (w : World) (hi : Instrs w va p) (hb : U8s w vb zs) (hp : Pow w) :
    Calls Tryd.prog 6 #[va, vb] w fun e w' => e = .returned (.bool true) ∧ Below w.heap.size w w' := by
  by_cases h : p.length ≤ 100 ∧ zs.length ≤ 1000
  · exact exactI_near va vb p zs w hi hb h.1 h.2 hp
  · have hzm := hi.1.1
    rw [List.length_map] at hzm
    obtain ⟨za, zc, rfl, _⟩ := hi.form
    obtain ⟨ba, bc, rfl, hbm, _⟩ := hb.form
    obtain ⟨zn, hzn⟩ : ∃ zn, zn = p.length := ⟨_, rfl⟩
    obtain ⟨bn, hbn⟩ : ∃ bn, bn = zs.length := ⟨_, rfl⟩
    rw [← hzn] at h hzm ⊢
    rw [← hbn] at h hbm ⊢
    unfold maxLen at hzm hbm
    clear hi hb hzn hbn
    have hor : 100 < zn ∨ (zn ≤ 100 ∧ 1000 < bn) := by omega
    clear h
    rcases hor with h | ⟨h, h'⟩
    all_goals
      go_enter Tryd.func6, Tryd.ntmps6
      go_wp2_with (go_at_call 7; refine (awake_any _).mono ?_; rintro e wx ⟨rfl, hb⟩)
      go_ret
      exact ⟨rfl, hb⟩
end Go.Proofs.YtemigcdieghkfaaDoor
