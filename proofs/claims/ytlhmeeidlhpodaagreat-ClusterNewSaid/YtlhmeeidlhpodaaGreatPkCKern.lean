/- kernel.New: what it refuses; the kernel that it makes. -/
import Derived.Test.YtlhmeeidlhpodaaGreatPkCOwn
import Derived.Test.YtlhmeeidlhpodaaGreatPkCLem
import Derived.Deep.DeepCutAuto
set_option linter.unusedVariables false
set_option linter.unusedSimpArgs false
set_option linter.unusedSectionVars false
namespace Go.Proofs.YtlhmeeidlhpodaaGreat
open Go.RowKit Go.BigFrame
set_option maxRecDepth 100000 in
set_option maxHeartbeats 4000000 in
theorem KNew_bad {w : World} {sw sr so : Value} {c : Cfg} (core : Nat) (h : CfgRd w sw sr so c) (hv : ¬ ValidC c) : Calls Tryz.prog 16 #[.int .i64 (core : Int), .agg #[sw, .int .i64 c.st, .int .i64 c.sl, sr, so]] w fun e w' => e = .returned (.tuple #[.pointer none, .int .i64 1]) ∧ Below w.heap.size w w' := by
  have KN := Kn.start w
  have HC := Lib.hid h
  have HV := Lib.hid hv
  obtain ⟨st, hst⟩ : ∃ x, x = c.st := ⟨_, rfl⟩
  obtain ⟨sl, hsl⟩ : ∃ x, x = c.sl := ⟨_, rfl⟩
  have HPV : Hid (∀ wx, Below w.heap.size w wx → Calls Tryz.prog 37 #[.agg #[sw, .int .i64 st, .int .i64 sl, sr, so]] wx fun e w' => e = .returned (.bool false) ∧ Below wx.heap.size wx w') := Lib.hid fun wx hb => by
    rw [hst, hsl]
    refine (PValidC_any (HC.out.below hb)).mono ?_
    rintro e w' ⟨b, rfl, hb, hb1⟩
    cases b with
    | true => exact absurd (hb.1 rfl) HV.out
    | false => exact ⟨rfl, hb1⟩
  rw [← hst, ← hsl]
  clear h hv hst hsl
  go_enter Tryz.func16, Tryz.ntmps16
  go_wp2_with (first | (go_at_call 37; refine (HPV.out _ KN.toBelow).mono ?_; rintro e wx ⟨rfl, hb1⟩; replace KN := KN.below hb1; clear hb1) | ((with_reducible refine wpList_gate ?_); first | ((with_reducible refine gate_load ?_ ?_); rfl; first | (refine ks_loadW KN 25 Tryz.underlying25 ?_) | (refine ks_load1 KN 22 Tryz.underlying22 ?_) | (refine ks_load1 KN 23 Tryz.underlying23 ?_) | (refine ks_load1 KN 3 Tryz.underlying3 ?_) | (refine ks_loadW KN 63 Tryz.underlying63 ?_)) | ((with_reducible refine gate_store ?_ ?_); rfl; first | (refine ks_store1 KN 22 ?_; clear KN; intro wx KN) | (refine ks_store1 KN 23 ?_; clear KN; intro wx KN) | (refine ks_storeW KN 63 ?_; clear KN; intro wx KN) | (refine ks_storeA KN 63 ?_; clear KN; intro wx KN) | (refine ks_store1 KN 93 ?_; clear KN; intro wx KN)) | ((with_reducible refine gate_new ?_ ?_); rfl; first | (refine ks_boxA KN 25 (q := 3) ?_; clear KN; intro g3 wx hg3 KN) | (refine ks_boxA KN 95 (q := 45) ?_; clear KN; intro g45 wx hg45 KN) | (refine ks_alloc KN 63 (q := 7) #[.int .i64 0, .slice none 0 0, .slice none 0 0] ?_; clear KN; intro g7 wx hg7 KN))))
  refine bodyPost_ret (results_tmp2 rfl _ _ _) rfl ?_
  exact ⟨rfl, KN.toBelow⟩
/-- The configuration's lists are cloned. -/
def CutA (w : World) (g : Nat) (c : Cfg) (st sl : Int) (wz : World) : Prop := ∃ (a1 a2 a3 : Option Addr) (c1 c2 c3 : Nat) (ol1 ol2 ol3 : Ents), OwnT 3 1 (.slice a1 c.ws.length c1) (intRows c.ws) ol1 ∧ OwnT 57 3 (.slice a2 c.rs.length c2) (regRows c.rs) ol2 ∧ OwnT 3 1 (.slice a3 c.os.length c3) (intRows c.os) ol3 ∧
  Kn [] w wz ((g, At #[.slice a1 c.ws.length c1, .int .i64 st, .int .i64 sl, .slice a2 c.rs.length c2, .slice a3 c.os.length c3] 25) :: (ol1 ++ (ol2 ++ ol3)))
theorem ownp_info : (Tryz.prog.info? 133).map (fun i => (i.size, i.bytes, i.zero.map (·.cells.size))) = some (1, 8, some 1) := by kernel_rfl
theorem ownp_zero : (((Tryz.prog.info? 133).bind (·.zero)).map (·.cells) |>.getD #[]) = #[.pointer none] := by kernel_rfl
/-- A kernel, as it is made. -/
def kernA (core : Int) (sw : Value) (st sl : Int) (sr so ss sg sy : Value) : Array Value := #[.int .i64 core, sw, .int .i64 st, .int .i64 sl, sr, so, .int .i64 0, ss, .slice none 0 0, .slice none 0 0, .slice none 0 0, .slice none 0 0, sg, sy]
def CutB (w : World) (g : Nat) (core : Int) (cfg : Array Value) (n : Nat) (sw : Value) (st : Int) (sn : Nat) (sr so : Value) (ol : Ents) (s6 : Value) (wz : World) : Prop := ∃ (gk go gs : Nat) (oc : Array Value), s6 = .pointer (some ⟨gk, 0, none⟩) ∧ oc.size = n ∧ Ptrs oc ∧
  Kn [] w wz ((gk, At (kernA core sw st (sn : Int) sr so (.slice (some ⟨gs, 0, none⟩) sn sn) (.slice (some ⟨go, 0, none⟩) n n) (.pointer none)) 95) :: (go, At oc 133) :: (g, At cfg 25) :: ol)
def KOut (w : World) (core num : Int) (mem own : List Int) (e : Ending) (w' : World) : Prop := ∃ (gk gy : Nat) (ka : Array Value) (rg m o : Value) (sl : Int) (om oo : Ents), e = .returned (.tuple #[.pointer (some ⟨gk, 0, none⟩), .int .i64 0]) ∧ ka[13]? = some (.pointer (some ⟨gy, 0, none⟩)) ∧ OwnT 3 1 m (intRows mem) om ∧ OwnT 3 1 o (intRows own) oo ∧
  Kn [] w w' ((gk, At ka 95) :: (gy, At (syncN core rg sl num m o) 146) :: (om ++ oo))
def MLoop (w : World) (g7 : Nat) (so : Value) (n : Nat) (pre : Ents → Ents) (i : Value) (wr : World) : Prop := ∃ (k : Nat) (vm : Value) (om : Ents), i = .int .i64 (k : Int) ∧ k ≤ n ∧ OwnT 3 1 vm (intRows (upto k)) om ∧ Kn [] w wr ((g7, At #[.int .i64 1, vm, so] 63) :: pre om)
theorem Row.nil_ {w : World} {sz : Nat} : Row w (.slice none 0 0) sz [] := ⟨by simp, .inl ⟨rfl, none, 0, rfl⟩⟩
theorem sub_2 (a b c d : Ents) : b.Sublist ((a ++ (b ++ c)) ++ d) := ((List.sublist_append_left b c).trans (List.sublist_append_right a _)).trans (List.sublist_append_left _ d)
theorem sub_3 (a b c d : Ents) : c.Sublist ((a ++ (b ++ c)) ++ d) := ((List.sublist_append_right b c).trans (List.sublist_append_right a _)).trans (List.sublist_append_left _ d)
theorem sub_c4 {x y z t : Nat × (Obj → Prop)} {l l' : Ents} (h : l'.Sublist l) : l'.Sublist (x :: y :: z :: t :: l) := .cons _ (.cons _ (.cons _ (.cons _ h)))
set_option maxRecDepth 100000 in
set_option maxHeartbeats 16000000 in
theorem KNew_any {w : World} {sw sr so : Value} {c : Cfg} (core : Nat) (h : CfgRd w sw sr so c) (hv : ValidC c) (hcore : core < c.ws.length) : Calls Tryz.prog 16 #[.int .i64 (core : Int), .agg #[sw, .int .i64 c.st, .int .i64 c.sl, sr, so]] w (KOut w (core : Int) (if (core : Int) < c.st then 1 else 0) (if (core : Int) < c.st then upto c.st.toNat else []) (if (core : Int) < c.st then c.os else [])) := by
  have KN := Kn.start w
  have HC := Lib.hid h
  obtain ⟨wa, wc, rfl, hwm, hwf⟩ := ints_form h.rw_
  obtain ⟨ra, rc, rfl, hrm, hrf⟩ := reg_at h.rr
  obtain ⟨oa, oc, rfl, hom, hof⟩ := ints_form h.ro
  have HV := Lib.hid hv
  obtain ⟨st, hst⟩ : ∃ x, x = c.st := ⟨_, rfl⟩
  obtain ⟨sl, hsl⟩ : ∃ x, x = c.sl := ⟨_, rfl⟩
  obtain ⟨nw, hnw⟩ : ∃ n, n = c.ws.length := ⟨_, rfl⟩
  obtain ⟨nr, hnr⟩ : ∃ n, n = c.rs.length := ⟨_, rfl⟩
  obtain ⟨no, hno⟩ : ∃ n, n = c.os.length := ⟨_, rfl⟩
  have HPV : Hid (∀ wx, Below w.heap.size w wx → Calls Tryz.prog 37 #[.agg #[.slice wa nw wc, .int .i64 st, .int .i64 sl, .slice ra nr rc, .slice oa no oc]] wx fun e w' => e = .returned (.bool true) ∧ Below wx.heap.size wx w') := Lib.hid fun wx hb => by
    rw [hst, hsl, hnw, hnr, hno]
    refine (PValidC_any (HC.out.below hb)).mono ?_
    rintro e w' ⟨b, rfl, hb, hb1⟩
    cases b with
    | true => exact ⟨rfl, hb1⟩
    | false => exact absurd (hb.2 HV.out) (by simp)
  have e1 : decide (nw ≤ core) = false := decide_eq_false (by omega)
  have HST := Lib.hid hst
  have HSL := Lib.hid hsl
  have HNW := Lib.hid hnw
  have HNR := Lib.hid hnr
  have HNO := Lib.hid hno
  have HCW := Lib.hid h.rw_
  have HCR := Lib.hid h.rr
  have HCO := Lib.hid h.ro
  rw [← hnw] at HCW hwm ⊢
  rw [← hnr] at HCR hrm ⊢
  rw [← hno] at HCO hom ⊢
  rw [← hst, ← hsl]
  have hst1 := hv.head.s1
  have hst2 := hv.head.s2
  have hl2 := hv.head.l2
  have hl1 := hv.head.l1
  have hr1 := hv.head.r1
  have ho1 := hv.head.o1
  have hw2 := hv.head.w2
  rw [← hst] at hst1 hst2
  rw [← hsl] at hl1 hl2
  rw [← hnw] at hst2 hw2 hcore
  rw [← hnr] at hr1 ho1
  rw [← hno] at ho1
  clear h hv hst hsl hnw hnr hno hwf hrf hof hwm hrm hom
  subst ho1
  obtain ⟨sn, hsn⟩ : ∃ n : Nat, sl = (n : Int) := ⟨sl.toNat, by omega⟩
  subst hsn
  obtain ⟨sm, hsm⟩ : ∃ n : Nat, st = (n : Int) := ⟨st.toNat, by omega⟩
  subst hsm
  go_enter Tryz.func16, Tryz.ntmps16
  go_upto_region 3 with (first | (go_at_call 37; refine (HPV.out _ KN.toBelow).mono ?_; rintro e wx ⟨rfl, hb1⟩; replace KN := KN.below hb1; clear hb1) | ((with_reducible refine wpList_gate ?_); first | ((with_reducible refine gate_load ?_ ?_); rfl; first | (refine ks_loadW KN 25 Tryz.underlying25 ?_) | (refine ks_load1 KN 22 Tryz.underlying22 ?_) | (refine ks_load1 KN 23 Tryz.underlying23 ?_) | (refine ks_load1 KN 3 Tryz.underlying3 ?_) | (refine ks_loadW KN 63 Tryz.underlying63 ?_)) | ((with_reducible refine gate_store ?_ ?_); rfl; first | (refine ks_store1 KN 22 ?_; clear KN; intro wx KN) | (refine ks_store1 KN 23 ?_; clear KN; intro wx KN) | (refine ks_storeW KN 63 ?_; clear KN; intro wx KN) | (refine ks_storeA KN 63 ?_; clear KN; intro wx KN) | (refine ks_store1 KN 93 ?_; clear KN; intro wx KN)) | ((with_reducible refine gate_new ?_ ?_); rfl; first | (refine ks_boxA KN 25 (q := 3) ?_; clear KN; intro g3 wx hg3 KN) | (refine ks_boxA KN 95 (q := 45) ?_; clear KN; intro g45 wx hg45 KN) | (refine ks_alloc KN 63 (q := 7) #[.int .i64 0, .slice none 0 0, .slice none 0 0] ?_; clear KN; intro g7 wx hg7 KN))))
  (try go_frame)
  go_cut [34] (fun _ wz => CutA w g3 c (sm : Int) (sn : Int) wz)
  case first =>
    replace KN := KN.drew
    refine wp_region_held_drew (S := (fun _ => True)) (by kernel_rfl) ?kahS (fun hHeld => ?karest)
    case kahS => exact trivial
    refine wpAnyH_take (i := 0) (oi := ⟨some 23, _, _, _, _, _⟩) (v := ?kav0) rfl (by kernel_rfl) (by kernel_rfl) (by kernel_rfl) (fun _ _ _ h => h) (Or.inl ⟨by rfl, ?kahy0⟩) hHeld ?kar0
    case kahy0 => (intro w hSw; (try dsimp only at hSw); go_simp; (try with_reducible rfl))
    (try simp only [Act.put, List.setIfInBounds_toArray, List.set_cons_zero, List.set_cons_succ])
    refine wpAnyH_take (i := 3) (oi := ⟨some 26, _, _, _, _, _⟩) (v := ?kav3) rfl (by kernel_rfl) (by kernel_rfl) (by kernel_rfl) (fun _ _ _ h => h) (Or.inl ⟨by rfl, ?kahy3⟩) hHeld ?kar3
    case kahy3 => (intro w hSw; (try dsimp only at hSw); go_simp; (try with_reducible rfl))
    (try simp only [Act.put, List.setIfInBounds_toArray, List.set_cons_zero, List.set_cons_succ])
    refine wpAnyH_take (i := 6) (oi := ⟨some 29, _, _, _, _, _⟩) (v := ?kav6) rfl (by kernel_rfl) (by kernel_rfl) (by kernel_rfl) (fun _ _ _ h => h) (Or.inl ⟨by rfl, ?kahy6⟩) hHeld ?kar6
    case kahy6 => (intro w hSw; (try dsimp only at hSw); go_simp; (try with_reducible rfl))
    (try simp only [Act.put, List.setIfInBounds_toArray, List.set_cons_zero, List.set_cons_succ])
    refine wpAnyH_ready (rs := [1, 4, 7]) (by kernel_rfl) (by simp) ?kac1_4_7
    refine (AllReadyH.cons (o := ⟨some 24, _, _, _, _, _⟩) rfl (fun K hK => ?kast1) (AllReadyH.cons (o := ⟨some 27, _, _, _, _, _⟩) rfl (fun K hK => ?kast4) (AllReadyH.cons (o := ⟨some 30, _, _, _, _, _⟩) rfl (fun K hK => ?kast7) AllReadyH.nil)))
    case kast1 =>
      (rw [if_pos (by rfl)]; refine wp_kn_load1 KN 22 _ rfl g3 0 rfl _ 25 (by repeat (first | exact Has.here | refine Has.there ?_)) (.slice wa nw wc) rfl _ Tryz.underlying22 rfl ?_)
      refine hK.out _ _ ?ka1xk1 (fun hHeld2 => ?ka1xm1)
      case ka1xk1 => exact trivial
      clear hK K hHeld
      have hHeld := hHeld2; clear hHeld2
      (try simp only [Act.put, List.setIfInBounds_toArray, List.set_cons_zero, List.set_cons_succ])
      refine wpAnyH_ready (rs := [2, 4, 7]) (by kernel_rfl) (by simp) ?ka1xc2_4_7
      refine (AllReadyH.cons (o := ⟨some 25, _, _, _, _, _⟩) rfl (fun K hK => ?ka1xst2) (AllReadyH.cons (o := ⟨some 27, _, _, _, _, _⟩) rfl (fun K hK => ?ka1xst4) (AllReadyH.cons (o := ⟨some 30, _, _, _, _, _⟩) rfl (fun K hK => ?ka1xst7) AllReadyH.nil)))
      case ka1xst2 =>
        go_simp
        (refine (Clone_any (HCW.out.below KN.toBelow) (by rw [← HNW.out]; omega)).mono ?_; rintro e wx ⟨v1, ol1, rfl, O1, K2, _⟩; obtain ⟨a1, n1, c1, rfl, hn1⟩ := O1.form4; have HO1 := Lib.hid O1; have HN1 := Lib.hid hn1; replace KN := (KN.call0 K2).perm List.perm_append_comm; simp only [List.cons_append, List.nil_append, List.append_assoc] at KN; clear K2 O1 hn1)
        refine hK.out _ _ ?ka1x2xk2 (fun hHeld2 => ?ka1x2xm2)
        case ka1x2xk2 => exact trivial
        clear hK K hHeld
        have hHeld := hHeld2; clear hHeld2
        (try simp only [Act.put, List.setIfInBounds_toArray, List.set_cons_zero, List.set_cons_succ])
        refine wpAnyH_ready (rs := [4, 7]) (by kernel_rfl) (by simp) ?ka1x2xc4_7
        refine (AllReadyH.cons (o := ⟨some 27, _, _, _, _, _⟩) rfl (fun K hK => ?ka1x2xst4) (AllReadyH.cons (o := ⟨some 30, _, _, _, _, _⟩) rfl (fun K hK => ?ka1x2xst7) AllReadyH.nil))
        case ka1x2xst4 =>
          (rw [if_pos (by rfl)]; refine wp_kn_load1 KN 23 _ rfl g3 3 rfl _ 25 (by repeat (first | exact Has.here | refine Has.there ?_)) (.slice ra no rc) rfl _ Tryz.underlying23 rfl ?_)
          refine hK.out _ _ ?ka1x2x4xk4 (fun hHeld2 => ?ka1x2x4xm4)
          case ka1x2x4xk4 => exact trivial
          clear hK K hHeld
          have hHeld := hHeld2; clear hHeld2
          (try simp only [Act.put, List.setIfInBounds_toArray, List.set_cons_zero, List.set_cons_succ])
          refine wpAnyH_ready (rs := [5, 7]) (by kernel_rfl) (by simp) ?ka1x2x4xc5_7
          refine (AllReadyH.cons (o := ⟨some 28, _, _, _, _, _⟩) rfl (fun K hK => ?ka1x2x4xst5) (AllReadyH.cons (o := ⟨some 30, _, _, _, _, _⟩) rfl (fun K hK => ?ka1x2x4xst7) AllReadyH.nil))
          case ka1x2x4xst5 =>
            go_simp
            (refine (CloneR_any (HCR.out.below KN.toBelow) (by rw [← HNR.out]; omega)).mono ?_; rintro e wx ⟨v2, ol2, rfl, O1, K2⟩; obtain ⟨a2, n2, c2, rfl, hn2⟩ := O1.form4; have HO2 := Lib.hid O1; have HN2 := Lib.hid hn2; replace KN := (KN.call0 K2).perm List.perm_append_comm; simp only [List.cons_append, List.nil_append, List.append_assoc] at KN; clear K2 O1 hn2)
            refine hK.out _ _ ?ka1x2x4x5xk5 (fun hHeld2 => ?ka1x2x4x5xm5)
            case ka1x2x4x5xk5 => exact trivial
            clear hK K hHeld
            have hHeld := hHeld2; clear hHeld2
            (try simp only [Act.put, List.setIfInBounds_toArray, List.set_cons_zero, List.set_cons_succ])
            refine wpAnyH_ready (rs := [7]) (by kernel_rfl) (by simp) ?ka1x2x4x5xc7
            refine AllReadyH.cons (o := ⟨some 30, _, _, _, _, _⟩) rfl (fun K hK => ?ka1x2x4x5xst7) AllReadyH.nil
            (rw [if_pos (by rfl)]; refine wp_kn_load1 KN 22 _ rfl g3 4 rfl _ 25 (by repeat (first | exact Has.here | refine Has.there ?_)) (.slice oa no oc) rfl _ Tryz.underlying22 rfl ?_)
            refine hK.out _ _ ?ka1x2x4x5xk7 (fun hHeld2 => ?ka1x2x4x5xm7)
            case ka1x2x4x5xk7 => exact trivial
            clear hK K hHeld
            have hHeld := hHeld2; clear hHeld2
            (try simp only [Act.put, List.setIfInBounds_toArray, List.set_cons_zero, List.set_cons_succ])
            refine wpAnyH_take (i := 9) (oi := ⟨some 32, _, _, _, _, _⟩) (v := ?ka1x2x4x5xv9) rfl (by kernel_rfl) (by kernel_rfl) (by kernel_rfl) (fun _ _ _ h => h) (Or.inl ⟨by rfl, ?ka1x2x4x5xhy9⟩) hHeld ?ka1x2x4x5xr9
            case ka1x2x4x5xhy9 => (intro w hSw; (try dsimp only at hSw); go_simp; (try with_reducible rfl))
            (try simp only [Act.put, List.setIfInBounds_toArray, List.set_cons_zero, List.set_cons_succ])
            refine wpAnyH_ready (rs := [8]) (by kernel_rfl) (by simp) ?ka1x2x4x5xc8
            refine AllReadyH.cons (o := ⟨some 31, _, _, _, _, _⟩) rfl (fun K hK => ?ka1x2x4x5xst8) AllReadyH.nil
            go_simp
            (refine (Clone_any (HCO.out.below KN.toBelow) (by rw [← HNO.out]; omega)).mono ?_; rintro e wx ⟨v3, ol3, rfl, O1, K2, _⟩; obtain ⟨a3, n3, c3, rfl, hn3⟩ := O1.form4; have HO3 := Lib.hid O1; have HN3 := Lib.hid hn3; replace KN := (KN.call0 K2).perm List.perm_append_comm; simp only [List.cons_append, List.nil_append, List.append_assoc] at KN; clear K2 O1 hn3)
            refine hK.out _ _ ?ka1x2x4x5xk8 (fun hHeld2 => ?ka1x2x4x5xm8)
            case ka1x2x4x5xk8 => exact trivial
            clear hK K hHeld
            have hHeld := hHeld2; clear hHeld2
            (try simp only [Act.put, List.setIfInBounds_toArray, List.set_cons_zero, List.set_cons_succ])
            refine wpAnyH_ready (rs := [10]) (by kernel_rfl) (by simp) ?ka1x2x4x5xc10
            refine AllReadyH.cons (o := ⟨none, _, _, _, _, _⟩) rfl (fun K hK => ?ka1x2x4x5xst10) AllReadyH.nil
            (rw [if_pos (by rfl)]; refine wp_kn_store1 KN 22 _ _ rfl g3 0 rfl (.slice a1 n1 c1) rfl rfl _ 25 (by repeat (first | exact Repl.here | apply Repl.there)) (by (try simp only [Array.size_setIfInBounds, putL_size]); first | exact Nat.le_of_ble_eq_true rfl | (simp; omega)) (by kernel_rfl) (by rfl) ?_; clear KN; intro wx KN)
            refine hK.out _ _ ?ka1x2x4x5xk10 (fun hHeld2 => ?ka1x2x4x5xm10)
            case ka1x2x4x5xk10 => exact trivial
            clear hK K hHeld
            have hHeld := hHeld2; clear hHeld2
            (try simp only [Act.put, List.setIfInBounds_toArray, List.set_cons_zero, List.set_cons_succ])
            refine wpAnyH_take (i := 11) (oi := ⟨some 33, _, _, _, _, _⟩) (v := ?ka1x2x4x5xv11) rfl (by kernel_rfl) (by kernel_rfl) (by kernel_rfl) (fun _ _ _ h => h) (Or.inl ⟨by rfl, ?ka1x2x4x5xhy11⟩) hHeld ?ka1x2x4x5xr11
            case ka1x2x4x5xhy11 => (intro w hSw; (try dsimp only at hSw); go_simp; (try with_reducible rfl))
            (try simp only [Act.put, List.setIfInBounds_toArray, List.set_cons_zero, List.set_cons_succ])
            refine wpAnyH_ready (rs := [12]) (by kernel_rfl) (by simp) ?ka1x2x4x5xc12
            refine AllReadyH.cons (o := ⟨none, _, _, _, _, _⟩) rfl (fun K hK => ?ka1x2x4x5xst12) AllReadyH.nil
            (rw [if_pos (by rfl)]; refine wp_kn_store1 KN 23 _ _ rfl g3 3 rfl (.slice a2 n2 c2) rfl rfl _ 25 (by repeat (first | exact Repl.here | apply Repl.there)) (by (try simp only [Array.size_setIfInBounds, putL_size]); first | exact Nat.le_of_ble_eq_true rfl | (simp; omega)) (by kernel_rfl) (by rfl) ?_; clear KN; intro wx KN)
            refine hK.out _ _ ?ka1x2x4x5xk12 (fun hHeld2 => ?ka1x2x4x5xm12)
            case ka1x2x4x5xk12 => exact trivial
            clear hK K hHeld
            have hHeld := hHeld2; clear hHeld2
            (try simp only [Act.put, List.setIfInBounds_toArray, List.set_cons_zero, List.set_cons_succ])
            refine wpAnyH_take (i := 13) (oi := ⟨some 34, _, _, _, _, _⟩) (v := ?ka1x2x4x5xv13) rfl (by kernel_rfl) (by kernel_rfl) (by kernel_rfl) (fun _ _ _ h => h) (Or.inl ⟨by rfl, ?ka1x2x4x5xhy13⟩) hHeld ?ka1x2x4x5xr13
            case ka1x2x4x5xhy13 => (intro w hSw; (try dsimp only at hSw); go_simp; (try with_reducible rfl))
            (try simp only [Act.put, List.setIfInBounds_toArray, List.set_cons_zero, List.set_cons_succ])
            refine wpAnyH_ready (rs := [14]) (by kernel_rfl) (by simp) ?ka1x2x4x5xc14
            refine AllReadyH.cons (o := ⟨none, _, _, _, _, _⟩) rfl (fun K hK => ?ka1x2x4x5xst14) AllReadyH.nil
            (rw [if_pos (by rfl)]; refine wp_kn_store1 KN 22 _ _ rfl g3 4 rfl (.slice a3 n3 c3) rfl rfl _ 25 (by repeat (first | exact Repl.here | apply Repl.there)) (by (try simp only [Array.size_setIfInBounds, putL_size]); first | exact Nat.le_of_ble_eq_true rfl | (simp; omega)) (by kernel_rfl) (by rfl) ?_; clear KN; intro wx KN)
            refine hK.out _ _ ?ka1x2x4x5xk14 (fun hHeld2 => ?ka1x2x4x5xm14)
            case ka1x2x4x5xk14 => exact trivial
            clear hK K hHeld
            have hHeld := hHeld2; clear hHeld2
            (try simp only [Act.put, List.setIfInBounds_toArray, List.set_cons_zero, List.set_cons_succ])
            refine wpAnyH_done (by kernel_rfl) ?ka1x2x4x5xdone _
            replace KN := KN.as_ g3 #[.slice a1 n1 c1, .int .i64 (sm : Int), .int .i64 (sn : Int), .slice a2 n2 c2, .slice a3 n3 c3] (by repeat (first | exact Repl.here | apply Repl.there)) (by kernel_rfl)
            go_wp2_with fail
            go_meet
            case rel =>
            have h1 := HN1.out
            have h2 := HN2.out
            have h3 := HN3.out
            rw [List.length_map] at h1 h3
            unfold regRows at h2
            rw [List.length_map] at h2
            subst h1
            subst h2
            subst h3
            exact ⟨a1, a2, a3, c1, c2, c3, ol1, ol2, ol3, HO1.out, HO2.out, HO3.out, KN⟩
          case ka1x2x4xst7 =>
            (rw [if_pos (by rfl)]; refine wp_kn_load1 KN 22 _ rfl g3 4 rfl _ 25 (by repeat (first | exact Has.here | refine Has.there ?_)) (.slice oa no oc) rfl _ Tryz.underlying22 rfl ?_)
            refine hK.out _ _ ?ka1x2x4x7xk7 (fun hHeld2 => ?ka1x2x4x7xm7)
            case ka1x2x4x7xk7 => exact trivial
            clear hK K hHeld
            have hHeld := hHeld2; clear hHeld2
            (try simp only [Act.put, List.setIfInBounds_toArray, List.set_cons_zero, List.set_cons_succ])
            refine wpAnyH_take (i := 9) (oi := ⟨some 32, _, _, _, _, _⟩) (v := ?ka1x2x4x7xv9) rfl (by kernel_rfl) (by kernel_rfl) (by kernel_rfl) (fun _ _ _ h => h) (Or.inl ⟨by rfl, ?ka1x2x4x7xhy9⟩) hHeld ?ka1x2x4x7xr9
            case ka1x2x4x7xhy9 => (intro w hSw; (try dsimp only at hSw); go_simp; (try with_reducible rfl))
            (try simp only [Act.put, List.setIfInBounds_toArray, List.set_cons_zero, List.set_cons_succ])
            refine wpAnyH_ready (rs := [5]) (by kernel_rfl) (by simp) ?ka1x2x4x7xc5
            refine AllReadyH.cons (o := ⟨some 28, _, _, _, _, _⟩) rfl (fun K hK => ?ka1x2x4x7xst5) AllReadyH.nil
            go_simp
            (refine (CloneR_any (HCR.out.below KN.toBelow) (by rw [← HNR.out]; omega)).mono ?_; rintro e wx ⟨v2, ol2, rfl, O1, K2⟩; obtain ⟨a2, n2, c2, rfl, hn2⟩ := O1.form4; have HO2 := Lib.hid O1; have HN2 := Lib.hid hn2; replace KN := (KN.call0 K2).perm List.perm_append_comm; simp only [List.cons_append, List.nil_append, List.append_assoc] at KN; clear K2 O1 hn2)
            refine hK.out _ _ ?ka1x2x4x7xk5 (fun hHeld2 => ?ka1x2x4x7xm5)
            case ka1x2x4x7xk5 => exact trivial
            clear hK K hHeld
            have hHeld := hHeld2; clear hHeld2
            (try simp only [Act.put, List.setIfInBounds_toArray, List.set_cons_zero, List.set_cons_succ])
            refine wpAnyH_ready (rs := [8]) (by kernel_rfl) (by simp) ?ka1x2x4x7xc8
            refine AllReadyH.cons (o := ⟨some 31, _, _, _, _, _⟩) rfl (fun K hK => ?ka1x2x4x7xst8) AllReadyH.nil
            go_simp
            (refine (Clone_any (HCO.out.below KN.toBelow) (by rw [← HNO.out]; omega)).mono ?_; rintro e wx ⟨v3, ol3, rfl, O1, K2, _⟩; obtain ⟨a3, n3, c3, rfl, hn3⟩ := O1.form4; have HO3 := Lib.hid O1; have HN3 := Lib.hid hn3; replace KN := (KN.call0 K2).perm List.perm_append_comm; simp only [List.cons_append, List.nil_append, List.append_assoc] at KN; clear K2 O1 hn3)
            refine hK.out _ _ ?ka1x2x4x7xk8 (fun hHeld2 => ?ka1x2x4x7xm8)
            case ka1x2x4x7xk8 => exact trivial
            clear hK K hHeld
            have hHeld := hHeld2; clear hHeld2
            (try simp only [Act.put, List.setIfInBounds_toArray, List.set_cons_zero, List.set_cons_succ])
            refine wpAnyH_ready (rs := [10]) (by kernel_rfl) (by simp) ?ka1x2x4x7xc10
            refine AllReadyH.cons (o := ⟨none, _, _, _, _, _⟩) rfl (fun K hK => ?ka1x2x4x7xst10) AllReadyH.nil
            (rw [if_pos (by rfl)]; refine wp_kn_store1 KN 22 _ _ rfl g3 0 rfl (.slice a1 n1 c1) rfl rfl _ 25 (by repeat (first | exact Repl.here | apply Repl.there)) (by (try simp only [Array.size_setIfInBounds, putL_size]); first | exact Nat.le_of_ble_eq_true rfl | (simp; omega)) (by kernel_rfl) (by rfl) ?_; clear KN; intro wx KN)
            refine hK.out _ _ ?ka1x2x4x7xk10 (fun hHeld2 => ?ka1x2x4x7xm10)
            case ka1x2x4x7xk10 => exact trivial
            clear hK K hHeld
            have hHeld := hHeld2; clear hHeld2
            (try simp only [Act.put, List.setIfInBounds_toArray, List.set_cons_zero, List.set_cons_succ])
            refine wpAnyH_take (i := 11) (oi := ⟨some 33, _, _, _, _, _⟩) (v := ?ka1x2x4x7xv11) rfl (by kernel_rfl) (by kernel_rfl) (by kernel_rfl) (fun _ _ _ h => h) (Or.inl ⟨by rfl, ?ka1x2x4x7xhy11⟩) hHeld ?ka1x2x4x7xr11
            case ka1x2x4x7xhy11 => (intro w hSw; (try dsimp only at hSw); go_simp; (try with_reducible rfl))
            (try simp only [Act.put, List.setIfInBounds_toArray, List.set_cons_zero, List.set_cons_succ])
            refine wpAnyH_ready (rs := [12]) (by kernel_rfl) (by simp) ?ka1x2x4x7xc12
            refine AllReadyH.cons (o := ⟨none, _, _, _, _, _⟩) rfl (fun K hK => ?ka1x2x4x7xst12) AllReadyH.nil
            (rw [if_pos (by rfl)]; refine wp_kn_store1 KN 23 _ _ rfl g3 3 rfl (.slice a2 n2 c2) rfl rfl _ 25 (by repeat (first | exact Repl.here | apply Repl.there)) (by (try simp only [Array.size_setIfInBounds, putL_size]); first | exact Nat.le_of_ble_eq_true rfl | (simp; omega)) (by kernel_rfl) (by rfl) ?_; clear KN; intro wx KN)
            refine hK.out _ _ ?ka1x2x4x7xk12 (fun hHeld2 => ?ka1x2x4x7xm12)
            case ka1x2x4x7xk12 => exact trivial
            clear hK K hHeld
            have hHeld := hHeld2; clear hHeld2
            (try simp only [Act.put, List.setIfInBounds_toArray, List.set_cons_zero, List.set_cons_succ])
            refine wpAnyH_take (i := 13) (oi := ⟨some 34, _, _, _, _, _⟩) (v := ?ka1x2x4x7xv13) rfl (by kernel_rfl) (by kernel_rfl) (by kernel_rfl) (fun _ _ _ h => h) (Or.inl ⟨by rfl, ?ka1x2x4x7xhy13⟩) hHeld ?ka1x2x4x7xr13
            case ka1x2x4x7xhy13 => (intro w hSw; (try dsimp only at hSw); go_simp; (try with_reducible rfl))
            (try simp only [Act.put, List.setIfInBounds_toArray, List.set_cons_zero, List.set_cons_succ])
            refine wpAnyH_ready (rs := [14]) (by kernel_rfl) (by simp) ?ka1x2x4x7xc14
            refine AllReadyH.cons (o := ⟨none, _, _, _, _, _⟩) rfl (fun K hK => ?ka1x2x4x7xst14) AllReadyH.nil
            (rw [if_pos (by rfl)]; refine wp_kn_store1 KN 22 _ _ rfl g3 4 rfl (.slice a3 n3 c3) rfl rfl _ 25 (by repeat (first | exact Repl.here | apply Repl.there)) (by (try simp only [Array.size_setIfInBounds, putL_size]); first | exact Nat.le_of_ble_eq_true rfl | (simp; omega)) (by kernel_rfl) (by rfl) ?_; clear KN; intro wx KN)
            refine hK.out _ _ ?ka1x2x4x7xk14 (fun hHeld2 => ?ka1x2x4x7xm14)
            case ka1x2x4x7xk14 => exact trivial
            clear hK K hHeld
            have hHeld := hHeld2; clear hHeld2
            (try simp only [Act.put, List.setIfInBounds_toArray, List.set_cons_zero, List.set_cons_succ])
            refine wpAnyH_done (by kernel_rfl) ?ka1x2x4x7xdone _
            replace KN := KN.as_ g3 #[.slice a1 n1 c1, .int .i64 (sm : Int), .int .i64 (sn : Int), .slice a2 n2 c2, .slice a3 n3 c3] (by repeat (first | exact Repl.here | apply Repl.there)) (by kernel_rfl)
            go_wp2_with fail
            go_meet
            case rel =>
            have h1 := HN1.out
            have h2 := HN2.out
            have h3 := HN3.out
            rw [List.length_map] at h1 h3
            unfold regRows at h2
            rw [List.length_map] at h2
            subst h1
            subst h2
            subst h3
            exact ⟨a1, a2, a3, c1, c2, c3, ol1, ol2, ol3, HO1.out, HO2.out, HO3.out, KN⟩
        case ka1x2xst7 =>
          (rw [if_pos (by rfl)]; refine wp_kn_load1 KN 22 _ rfl g3 4 rfl _ 25 (by repeat (first | exact Has.here | refine Has.there ?_)) (.slice oa no oc) rfl _ Tryz.underlying22 rfl ?_)
          refine hK.out _ _ ?ka1x2x7xk7 (fun hHeld2 => ?ka1x2x7xm7)
          case ka1x2x7xk7 => exact trivial
          clear hK K hHeld
          have hHeld := hHeld2; clear hHeld2
          (try simp only [Act.put, List.setIfInBounds_toArray, List.set_cons_zero, List.set_cons_succ])
          refine wpAnyH_ready (rs := [4]) (by kernel_rfl) (by simp) ?ka1x2x7xc4
          refine AllReadyH.cons (o := ⟨some 27, _, _, _, _, _⟩) rfl (fun K hK => ?ka1x2x7xst4) AllReadyH.nil
          (rw [if_pos (by rfl)]; refine wp_kn_load1 KN 23 _ rfl g3 3 rfl _ 25 (by repeat (first | exact Has.here | refine Has.there ?_)) (.slice ra no rc) rfl _ Tryz.underlying23 rfl ?_)
          refine hK.out _ _ ?ka1x2x7xk4 (fun hHeld2 => ?ka1x2x7xm4)
          case ka1x2x7xk4 => exact trivial
          clear hK K hHeld
          have hHeld := hHeld2; clear hHeld2
          (try simp only [Act.put, List.setIfInBounds_toArray, List.set_cons_zero, List.set_cons_succ])
          refine wpAnyH_take (i := 9) (oi := ⟨some 32, _, _, _, _, _⟩) (v := ?ka1x2x7xv9) rfl (by kernel_rfl) (by kernel_rfl) (by kernel_rfl) (fun _ _ _ h => h) (Or.inl ⟨by rfl, ?ka1x2x7xhy9⟩) hHeld ?ka1x2x7xr9
          case ka1x2x7xhy9 => (intro w hSw; (try dsimp only at hSw); go_simp; (try with_reducible rfl))
          (try simp only [Act.put, List.setIfInBounds_toArray, List.set_cons_zero, List.set_cons_succ])
          refine wpAnyH_ready (rs := [5]) (by kernel_rfl) (by simp) ?ka1x2x7xc5
          refine AllReadyH.cons (o := ⟨some 28, _, _, _, _, _⟩) rfl (fun K hK => ?ka1x2x7xst5) AllReadyH.nil
          go_simp
          (refine (CloneR_any (HCR.out.below KN.toBelow) (by rw [← HNR.out]; omega)).mono ?_; rintro e wx ⟨v2, ol2, rfl, O1, K2⟩; obtain ⟨a2, n2, c2, rfl, hn2⟩ := O1.form4; have HO2 := Lib.hid O1; have HN2 := Lib.hid hn2; replace KN := (KN.call0 K2).perm List.perm_append_comm; simp only [List.cons_append, List.nil_append, List.append_assoc] at KN; clear K2 O1 hn2)
          refine hK.out _ _ ?ka1x2x7xk5 (fun hHeld2 => ?ka1x2x7xm5)
          case ka1x2x7xk5 => exact trivial
          clear hK K hHeld
          have hHeld := hHeld2; clear hHeld2
          (try simp only [Act.put, List.setIfInBounds_toArray, List.set_cons_zero, List.set_cons_succ])
          refine wpAnyH_ready (rs := [8]) (by kernel_rfl) (by simp) ?ka1x2x7xc8
          refine AllReadyH.cons (o := ⟨some 31, _, _, _, _, _⟩) rfl (fun K hK => ?ka1x2x7xst8) AllReadyH.nil
          go_simp
          (refine (Clone_any (HCO.out.below KN.toBelow) (by rw [← HNO.out]; omega)).mono ?_; rintro e wx ⟨v3, ol3, rfl, O1, K2, _⟩; obtain ⟨a3, n3, c3, rfl, hn3⟩ := O1.form4; have HO3 := Lib.hid O1; have HN3 := Lib.hid hn3; replace KN := (KN.call0 K2).perm List.perm_append_comm; simp only [List.cons_append, List.nil_append, List.append_assoc] at KN; clear K2 O1 hn3)
          refine hK.out _ _ ?ka1x2x7xk8 (fun hHeld2 => ?ka1x2x7xm8)
          case ka1x2x7xk8 => exact trivial
          clear hK K hHeld
          have hHeld := hHeld2; clear hHeld2
          (try simp only [Act.put, List.setIfInBounds_toArray, List.set_cons_zero, List.set_cons_succ])
          refine wpAnyH_ready (rs := [10]) (by kernel_rfl) (by simp) ?ka1x2x7xc10
          refine AllReadyH.cons (o := ⟨none, _, _, _, _, _⟩) rfl (fun K hK => ?ka1x2x7xst10) AllReadyH.nil
          (rw [if_pos (by rfl)]; refine wp_kn_store1 KN 22 _ _ rfl g3 0 rfl (.slice a1 n1 c1) rfl rfl _ 25 (by repeat (first | exact Repl.here | apply Repl.there)) (by (try simp only [Array.size_setIfInBounds, putL_size]); first | exact Nat.le_of_ble_eq_true rfl | (simp; omega)) (by kernel_rfl) (by rfl) ?_; clear KN; intro wx KN)
          refine hK.out _ _ ?ka1x2x7xk10 (fun hHeld2 => ?ka1x2x7xm10)
          case ka1x2x7xk10 => exact trivial
          clear hK K hHeld
          have hHeld := hHeld2; clear hHeld2
          (try simp only [Act.put, List.setIfInBounds_toArray, List.set_cons_zero, List.set_cons_succ])
          refine wpAnyH_take (i := 11) (oi := ⟨some 33, _, _, _, _, _⟩) (v := ?ka1x2x7xv11) rfl (by kernel_rfl) (by kernel_rfl) (by kernel_rfl) (fun _ _ _ h => h) (Or.inl ⟨by rfl, ?ka1x2x7xhy11⟩) hHeld ?ka1x2x7xr11
          case ka1x2x7xhy11 => (intro w hSw; (try dsimp only at hSw); go_simp; (try with_reducible rfl))
          (try simp only [Act.put, List.setIfInBounds_toArray, List.set_cons_zero, List.set_cons_succ])
          refine wpAnyH_ready (rs := [12]) (by kernel_rfl) (by simp) ?ka1x2x7xc12
          refine AllReadyH.cons (o := ⟨none, _, _, _, _, _⟩) rfl (fun K hK => ?ka1x2x7xst12) AllReadyH.nil
          (rw [if_pos (by rfl)]; refine wp_kn_store1 KN 23 _ _ rfl g3 3 rfl (.slice a2 n2 c2) rfl rfl _ 25 (by repeat (first | exact Repl.here | apply Repl.there)) (by (try simp only [Array.size_setIfInBounds, putL_size]); first | exact Nat.le_of_ble_eq_true rfl | (simp; omega)) (by kernel_rfl) (by rfl) ?_; clear KN; intro wx KN)
          refine hK.out _ _ ?ka1x2x7xk12 (fun hHeld2 => ?ka1x2x7xm12)
          case ka1x2x7xk12 => exact trivial
          clear hK K hHeld
          have hHeld := hHeld2; clear hHeld2
          (try simp only [Act.put, List.setIfInBounds_toArray, List.set_cons_zero, List.set_cons_succ])
          refine wpAnyH_take (i := 13) (oi := ⟨some 34, _, _, _, _, _⟩) (v := ?ka1x2x7xv13) rfl (by kernel_rfl) (by kernel_rfl) (by kernel_rfl) (fun _ _ _ h => h) (Or.inl ⟨by rfl, ?ka1x2x7xhy13⟩) hHeld ?ka1x2x7xr13
          case ka1x2x7xhy13 => (intro w hSw; (try dsimp only at hSw); go_simp; (try with_reducible rfl))
          (try simp only [Act.put, List.setIfInBounds_toArray, List.set_cons_zero, List.set_cons_succ])
          refine wpAnyH_ready (rs := [14]) (by kernel_rfl) (by simp) ?ka1x2x7xc14
          refine AllReadyH.cons (o := ⟨none, _, _, _, _, _⟩) rfl (fun K hK => ?ka1x2x7xst14) AllReadyH.nil
          (rw [if_pos (by rfl)]; refine wp_kn_store1 KN 22 _ _ rfl g3 4 rfl (.slice a3 n3 c3) rfl rfl _ 25 (by repeat (first | exact Repl.here | apply Repl.there)) (by (try simp only [Array.size_setIfInBounds, putL_size]); first | exact Nat.le_of_ble_eq_true rfl | (simp; omega)) (by kernel_rfl) (by rfl) ?_; clear KN; intro wx KN)
          refine hK.out _ _ ?ka1x2x7xk14 (fun hHeld2 => ?ka1x2x7xm14)
          case ka1x2x7xk14 => exact trivial
          clear hK K hHeld
          have hHeld := hHeld2; clear hHeld2
          (try simp only [Act.put, List.setIfInBounds_toArray, List.set_cons_zero, List.set_cons_succ])
          refine wpAnyH_done (by kernel_rfl) ?ka1x2x7xdone _
          replace KN := KN.as_ g3 #[.slice a1 n1 c1, .int .i64 (sm : Int), .int .i64 (sn : Int), .slice a2 n2 c2, .slice a3 n3 c3] (by repeat (first | exact Repl.here | apply Repl.there)) (by kernel_rfl)
          go_wp2_with fail
          go_meet
          case rel =>
          have h1 := HN1.out
          have h2 := HN2.out
          have h3 := HN3.out
          rw [List.length_map] at h1 h3
          unfold regRows at h2
          rw [List.length_map] at h2
          subst h1
          subst h2
          subst h3
          exact ⟨a1, a2, a3, c1, c2, c3, ol1, ol2, ol3, HO1.out, HO2.out, HO3.out, KN⟩
      case ka1xst4 =>
        (rw [if_pos (by rfl)]; refine wp_kn_load1 KN 23 _ rfl g3 3 rfl _ 25 (by repeat (first | exact Has.here | refine Has.there ?_)) (.slice ra no rc) rfl _ Tryz.underlying23 rfl ?_)
        refine hK.out _ _ ?ka1x4xk4 (fun hHeld2 => ?ka1x4xm4)
        case ka1x4xk4 => exact trivial
        clear hK K hHeld
        have hHeld := hHeld2; clear hHeld2
        (try simp only [Act.put, List.setIfInBounds_toArray, List.set_cons_zero, List.set_cons_succ])
        refine wpAnyH_ready (rs := [2, 7]) (by kernel_rfl) (by simp) ?ka1x4xc2_7
        refine (AllReadyH.cons (o := ⟨some 25, _, _, _, _, _⟩) rfl (fun K hK => ?ka1x4xst2) (AllReadyH.cons (o := ⟨some 30, _, _, _, _, _⟩) rfl (fun K hK => ?ka1x4xst7) AllReadyH.nil))
        case ka1x4xst2 =>
          go_simp
          (refine (Clone_any (HCW.out.below KN.toBelow) (by rw [← HNW.out]; omega)).mono ?_; rintro e wx ⟨v1, ol1, rfl, O1, K2, _⟩; obtain ⟨a1, n1, c1, rfl, hn1⟩ := O1.form4; have HO1 := Lib.hid O1; have HN1 := Lib.hid hn1; replace KN := (KN.call0 K2).perm List.perm_append_comm; simp only [List.cons_append, List.nil_append, List.append_assoc] at KN; clear K2 O1 hn1)
          refine hK.out _ _ ?ka1x4x2xk2 (fun hHeld2 => ?ka1x4x2xm2)
          case ka1x4x2xk2 => exact trivial
          clear hK K hHeld
          have hHeld := hHeld2; clear hHeld2
          (try simp only [Act.put, List.setIfInBounds_toArray, List.set_cons_zero, List.set_cons_succ])
          refine wpAnyH_ready (rs := [5, 7]) (by kernel_rfl) (by simp) ?ka1x4x2xc5_7
          refine (AllReadyH.cons (o := ⟨some 28, _, _, _, _, _⟩) rfl (fun K hK => ?ka1x4x2xst5) (AllReadyH.cons (o := ⟨some 30, _, _, _, _, _⟩) rfl (fun K hK => ?ka1x4x2xst7) AllReadyH.nil))
          case ka1x4x2xst5 =>
            go_simp
            (refine (CloneR_any (HCR.out.below KN.toBelow) (by rw [← HNR.out]; omega)).mono ?_; rintro e wx ⟨v2, ol2, rfl, O1, K2⟩; obtain ⟨a2, n2, c2, rfl, hn2⟩ := O1.form4; have HO2 := Lib.hid O1; have HN2 := Lib.hid hn2; replace KN := (KN.call0 K2).perm List.perm_append_comm; simp only [List.cons_append, List.nil_append, List.append_assoc] at KN; clear K2 O1 hn2)
            refine hK.out _ _ ?ka1x4x2x5xk5 (fun hHeld2 => ?ka1x4x2x5xm5)
            case ka1x4x2x5xk5 => exact trivial
            clear hK K hHeld
            have hHeld := hHeld2; clear hHeld2
            (try simp only [Act.put, List.setIfInBounds_toArray, List.set_cons_zero, List.set_cons_succ])
            refine wpAnyH_ready (rs := [7]) (by kernel_rfl) (by simp) ?ka1x4x2x5xc7
            refine AllReadyH.cons (o := ⟨some 30, _, _, _, _, _⟩) rfl (fun K hK => ?ka1x4x2x5xst7) AllReadyH.nil
            (rw [if_pos (by rfl)]; refine wp_kn_load1 KN 22 _ rfl g3 4 rfl _ 25 (by repeat (first | exact Has.here | refine Has.there ?_)) (.slice oa no oc) rfl _ Tryz.underlying22 rfl ?_)
            refine hK.out _ _ ?ka1x4x2x5xk7 (fun hHeld2 => ?ka1x4x2x5xm7)
            case ka1x4x2x5xk7 => exact trivial
            clear hK K hHeld
            have hHeld := hHeld2; clear hHeld2
            (try simp only [Act.put, List.setIfInBounds_toArray, List.set_cons_zero, List.set_cons_succ])
            refine wpAnyH_take (i := 9) (oi := ⟨some 32, _, _, _, _, _⟩) (v := ?ka1x4x2x5xv9) rfl (by kernel_rfl) (by kernel_rfl) (by kernel_rfl) (fun _ _ _ h => h) (Or.inl ⟨by rfl, ?ka1x4x2x5xhy9⟩) hHeld ?ka1x4x2x5xr9
            case ka1x4x2x5xhy9 => (intro w hSw; (try dsimp only at hSw); go_simp; (try with_reducible rfl))
            (try simp only [Act.put, List.setIfInBounds_toArray, List.set_cons_zero, List.set_cons_succ])
            refine wpAnyH_ready (rs := [8]) (by kernel_rfl) (by simp) ?ka1x4x2x5xc8
            refine AllReadyH.cons (o := ⟨some 31, _, _, _, _, _⟩) rfl (fun K hK => ?ka1x4x2x5xst8) AllReadyH.nil
            go_simp
            (refine (Clone_any (HCO.out.below KN.toBelow) (by rw [← HNO.out]; omega)).mono ?_; rintro e wx ⟨v3, ol3, rfl, O1, K2, _⟩; obtain ⟨a3, n3, c3, rfl, hn3⟩ := O1.form4; have HO3 := Lib.hid O1; have HN3 := Lib.hid hn3; replace KN := (KN.call0 K2).perm List.perm_append_comm; simp only [List.cons_append, List.nil_append, List.append_assoc] at KN; clear K2 O1 hn3)
            refine hK.out _ _ ?ka1x4x2x5xk8 (fun hHeld2 => ?ka1x4x2x5xm8)
            case ka1x4x2x5xk8 => exact trivial
            clear hK K hHeld
            have hHeld := hHeld2; clear hHeld2
            (try simp only [Act.put, List.setIfInBounds_toArray, List.set_cons_zero, List.set_cons_succ])
            refine wpAnyH_ready (rs := [10]) (by kernel_rfl) (by simp) ?ka1x4x2x5xc10
            refine AllReadyH.cons (o := ⟨none, _, _, _, _, _⟩) rfl (fun K hK => ?ka1x4x2x5xst10) AllReadyH.nil
            (rw [if_pos (by rfl)]; refine wp_kn_store1 KN 22 _ _ rfl g3 0 rfl (.slice a1 n1 c1) rfl rfl _ 25 (by repeat (first | exact Repl.here | apply Repl.there)) (by (try simp only [Array.size_setIfInBounds, putL_size]); first | exact Nat.le_of_ble_eq_true rfl | (simp; omega)) (by kernel_rfl) (by rfl) ?_; clear KN; intro wx KN)
            refine hK.out _ _ ?ka1x4x2x5xk10 (fun hHeld2 => ?ka1x4x2x5xm10)
            case ka1x4x2x5xk10 => exact trivial
            clear hK K hHeld
            have hHeld := hHeld2; clear hHeld2
            (try simp only [Act.put, List.setIfInBounds_toArray, List.set_cons_zero, List.set_cons_succ])
            refine wpAnyH_take (i := 11) (oi := ⟨some 33, _, _, _, _, _⟩) (v := ?ka1x4x2x5xv11) rfl (by kernel_rfl) (by kernel_rfl) (by kernel_rfl) (fun _ _ _ h => h) (Or.inl ⟨by rfl, ?ka1x4x2x5xhy11⟩) hHeld ?ka1x4x2x5xr11
            case ka1x4x2x5xhy11 => (intro w hSw; (try dsimp only at hSw); go_simp; (try with_reducible rfl))
            (try simp only [Act.put, List.setIfInBounds_toArray, List.set_cons_zero, List.set_cons_succ])
            refine wpAnyH_ready (rs := [12]) (by kernel_rfl) (by simp) ?ka1x4x2x5xc12
            refine AllReadyH.cons (o := ⟨none, _, _, _, _, _⟩) rfl (fun K hK => ?ka1x4x2x5xst12) AllReadyH.nil
            (rw [if_pos (by rfl)]; refine wp_kn_store1 KN 23 _ _ rfl g3 3 rfl (.slice a2 n2 c2) rfl rfl _ 25 (by repeat (first | exact Repl.here | apply Repl.there)) (by (try simp only [Array.size_setIfInBounds, putL_size]); first | exact Nat.le_of_ble_eq_true rfl | (simp; omega)) (by kernel_rfl) (by rfl) ?_; clear KN; intro wx KN)
            refine hK.out _ _ ?ka1x4x2x5xk12 (fun hHeld2 => ?ka1x4x2x5xm12)
            case ka1x4x2x5xk12 => exact trivial
            clear hK K hHeld
            have hHeld := hHeld2; clear hHeld2
            (try simp only [Act.put, List.setIfInBounds_toArray, List.set_cons_zero, List.set_cons_succ])
            refine wpAnyH_take (i := 13) (oi := ⟨some 34, _, _, _, _, _⟩) (v := ?ka1x4x2x5xv13) rfl (by kernel_rfl) (by kernel_rfl) (by kernel_rfl) (fun _ _ _ h => h) (Or.inl ⟨by rfl, ?ka1x4x2x5xhy13⟩) hHeld ?ka1x4x2x5xr13
            case ka1x4x2x5xhy13 => (intro w hSw; (try dsimp only at hSw); go_simp; (try with_reducible rfl))
            (try simp only [Act.put, List.setIfInBounds_toArray, List.set_cons_zero, List.set_cons_succ])
            refine wpAnyH_ready (rs := [14]) (by kernel_rfl) (by simp) ?ka1x4x2x5xc14
            refine AllReadyH.cons (o := ⟨none, _, _, _, _, _⟩) rfl (fun K hK => ?ka1x4x2x5xst14) AllReadyH.nil
            (rw [if_pos (by rfl)]; refine wp_kn_store1 KN 22 _ _ rfl g3 4 rfl (.slice a3 n3 c3) rfl rfl _ 25 (by repeat (first | exact Repl.here | apply Repl.there)) (by (try simp only [Array.size_setIfInBounds, putL_size]); first | exact Nat.le_of_ble_eq_true rfl | (simp; omega)) (by kernel_rfl) (by rfl) ?_; clear KN; intro wx KN)
            refine hK.out _ _ ?ka1x4x2x5xk14 (fun hHeld2 => ?ka1x4x2x5xm14)
            case ka1x4x2x5xk14 => exact trivial
            clear hK K hHeld
            have hHeld := hHeld2; clear hHeld2
            (try simp only [Act.put, List.setIfInBounds_toArray, List.set_cons_zero, List.set_cons_succ])
            refine wpAnyH_done (by kernel_rfl) ?ka1x4x2x5xdone _
            replace KN := KN.as_ g3 #[.slice a1 n1 c1, .int .i64 (sm : Int), .int .i64 (sn : Int), .slice a2 n2 c2, .slice a3 n3 c3] (by repeat (first | exact Repl.here | apply Repl.there)) (by kernel_rfl)
            go_wp2_with fail
            go_meet
            case rel =>
            have h1 := HN1.out
            have h2 := HN2.out
            have h3 := HN3.out
            rw [List.length_map] at h1 h3
            unfold regRows at h2
            rw [List.length_map] at h2
            subst h1
            subst h2
            subst h3
            exact ⟨a1, a2, a3, c1, c2, c3, ol1, ol2, ol3, HO1.out, HO2.out, HO3.out, KN⟩
          case ka1x4x2xst7 =>
            (rw [if_pos (by rfl)]; refine wp_kn_load1 KN 22 _ rfl g3 4 rfl _ 25 (by repeat (first | exact Has.here | refine Has.there ?_)) (.slice oa no oc) rfl _ Tryz.underlying22 rfl ?_)
            refine hK.out _ _ ?ka1x4x2x7xk7 (fun hHeld2 => ?ka1x4x2x7xm7)
            case ka1x4x2x7xk7 => exact trivial
            clear hK K hHeld
            have hHeld := hHeld2; clear hHeld2
            (try simp only [Act.put, List.setIfInBounds_toArray, List.set_cons_zero, List.set_cons_succ])
            refine wpAnyH_take (i := 9) (oi := ⟨some 32, _, _, _, _, _⟩) (v := ?ka1x4x2x7xv9) rfl (by kernel_rfl) (by kernel_rfl) (by kernel_rfl) (fun _ _ _ h => h) (Or.inl ⟨by rfl, ?ka1x4x2x7xhy9⟩) hHeld ?ka1x4x2x7xr9
            case ka1x4x2x7xhy9 => (intro w hSw; (try dsimp only at hSw); go_simp; (try with_reducible rfl))
            (try simp only [Act.put, List.setIfInBounds_toArray, List.set_cons_zero, List.set_cons_succ])
            refine wpAnyH_ready (rs := [5]) (by kernel_rfl) (by simp) ?ka1x4x2x7xc5
            refine AllReadyH.cons (o := ⟨some 28, _, _, _, _, _⟩) rfl (fun K hK => ?ka1x4x2x7xst5) AllReadyH.nil
            go_simp
            (refine (CloneR_any (HCR.out.below KN.toBelow) (by rw [← HNR.out]; omega)).mono ?_; rintro e wx ⟨v2, ol2, rfl, O1, K2⟩; obtain ⟨a2, n2, c2, rfl, hn2⟩ := O1.form4; have HO2 := Lib.hid O1; have HN2 := Lib.hid hn2; replace KN := (KN.call0 K2).perm List.perm_append_comm; simp only [List.cons_append, List.nil_append, List.append_assoc] at KN; clear K2 O1 hn2)
            refine hK.out _ _ ?ka1x4x2x7xk5 (fun hHeld2 => ?ka1x4x2x7xm5)
            case ka1x4x2x7xk5 => exact trivial
            clear hK K hHeld
            have hHeld := hHeld2; clear hHeld2
            (try simp only [Act.put, List.setIfInBounds_toArray, List.set_cons_zero, List.set_cons_succ])
            refine wpAnyH_ready (rs := [8]) (by kernel_rfl) (by simp) ?ka1x4x2x7xc8
            refine AllReadyH.cons (o := ⟨some 31, _, _, _, _, _⟩) rfl (fun K hK => ?ka1x4x2x7xst8) AllReadyH.nil
            go_simp
            (refine (Clone_any (HCO.out.below KN.toBelow) (by rw [← HNO.out]; omega)).mono ?_; rintro e wx ⟨v3, ol3, rfl, O1, K2, _⟩; obtain ⟨a3, n3, c3, rfl, hn3⟩ := O1.form4; have HO3 := Lib.hid O1; have HN3 := Lib.hid hn3; replace KN := (KN.call0 K2).perm List.perm_append_comm; simp only [List.cons_append, List.nil_append, List.append_assoc] at KN; clear K2 O1 hn3)
            refine hK.out _ _ ?ka1x4x2x7xk8 (fun hHeld2 => ?ka1x4x2x7xm8)
            case ka1x4x2x7xk8 => exact trivial
            clear hK K hHeld
            have hHeld := hHeld2; clear hHeld2
            (try simp only [Act.put, List.setIfInBounds_toArray, List.set_cons_zero, List.set_cons_succ])
            refine wpAnyH_ready (rs := [10]) (by kernel_rfl) (by simp) ?ka1x4x2x7xc10
            refine AllReadyH.cons (o := ⟨none, _, _, _, _, _⟩) rfl (fun K hK => ?ka1x4x2x7xst10) AllReadyH.nil
            (rw [if_pos (by rfl)]; refine wp_kn_store1 KN 22 _ _ rfl g3 0 rfl (.slice a1 n1 c1) rfl rfl _ 25 (by repeat (first | exact Repl.here | apply Repl.there)) (by (try simp only [Array.size_setIfInBounds, putL_size]); first | exact Nat.le_of_ble_eq_true rfl | (simp; omega)) (by kernel_rfl) (by rfl) ?_; clear KN; intro wx KN)
            refine hK.out _ _ ?ka1x4x2x7xk10 (fun hHeld2 => ?ka1x4x2x7xm10)
            case ka1x4x2x7xk10 => exact trivial
            clear hK K hHeld
            have hHeld := hHeld2; clear hHeld2
            (try simp only [Act.put, List.setIfInBounds_toArray, List.set_cons_zero, List.set_cons_succ])
            refine wpAnyH_take (i := 11) (oi := ⟨some 33, _, _, _, _, _⟩) (v := ?ka1x4x2x7xv11) rfl (by kernel_rfl) (by kernel_rfl) (by kernel_rfl) (fun _ _ _ h => h) (Or.inl ⟨by rfl, ?ka1x4x2x7xhy11⟩) hHeld ?ka1x4x2x7xr11
            case ka1x4x2x7xhy11 => (intro w hSw; (try dsimp only at hSw); go_simp; (try with_reducible rfl))
            (try simp only [Act.put, List.setIfInBounds_toArray, List.set_cons_zero, List.set_cons_succ])
            refine wpAnyH_ready (rs := [12]) (by kernel_rfl) (by simp) ?ka1x4x2x7xc12
            refine AllReadyH.cons (o := ⟨none, _, _, _, _, _⟩) rfl (fun K hK => ?ka1x4x2x7xst12) AllReadyH.nil
            (rw [if_pos (by rfl)]; refine wp_kn_store1 KN 23 _ _ rfl g3 3 rfl (.slice a2 n2 c2) rfl rfl _ 25 (by repeat (first | exact Repl.here | apply Repl.there)) (by (try simp only [Array.size_setIfInBounds, putL_size]); first | exact Nat.le_of_ble_eq_true rfl | (simp; omega)) (by kernel_rfl) (by rfl) ?_; clear KN; intro wx KN)
            refine hK.out _ _ ?ka1x4x2x7xk12 (fun hHeld2 => ?ka1x4x2x7xm12)
            case ka1x4x2x7xk12 => exact trivial
            clear hK K hHeld
            have hHeld := hHeld2; clear hHeld2
            (try simp only [Act.put, List.setIfInBounds_toArray, List.set_cons_zero, List.set_cons_succ])
            refine wpAnyH_take (i := 13) (oi := ⟨some 34, _, _, _, _, _⟩) (v := ?ka1x4x2x7xv13) rfl (by kernel_rfl) (by kernel_rfl) (by kernel_rfl) (fun _ _ _ h => h) (Or.inl ⟨by rfl, ?ka1x4x2x7xhy13⟩) hHeld ?ka1x4x2x7xr13
            case ka1x4x2x7xhy13 => (intro w hSw; (try dsimp only at hSw); go_simp; (try with_reducible rfl))
            (try simp only [Act.put, List.setIfInBounds_toArray, List.set_cons_zero, List.set_cons_succ])
            refine wpAnyH_ready (rs := [14]) (by kernel_rfl) (by simp) ?ka1x4x2x7xc14
            refine AllReadyH.cons (o := ⟨none, _, _, _, _, _⟩) rfl (fun K hK => ?ka1x4x2x7xst14) AllReadyH.nil
            (rw [if_pos (by rfl)]; refine wp_kn_store1 KN 22 _ _ rfl g3 4 rfl (.slice a3 n3 c3) rfl rfl _ 25 (by repeat (first | exact Repl.here | apply Repl.there)) (by (try simp only [Array.size_setIfInBounds, putL_size]); first | exact Nat.le_of_ble_eq_true rfl | (simp; omega)) (by kernel_rfl) (by rfl) ?_; clear KN; intro wx KN)
            refine hK.out _ _ ?ka1x4x2x7xk14 (fun hHeld2 => ?ka1x4x2x7xm14)
            case ka1x4x2x7xk14 => exact trivial
            clear hK K hHeld
            have hHeld := hHeld2; clear hHeld2
            (try simp only [Act.put, List.setIfInBounds_toArray, List.set_cons_zero, List.set_cons_succ])
            refine wpAnyH_done (by kernel_rfl) ?ka1x4x2x7xdone _
            replace KN := KN.as_ g3 #[.slice a1 n1 c1, .int .i64 (sm : Int), .int .i64 (sn : Int), .slice a2 n2 c2, .slice a3 n3 c3] (by repeat (first | exact Repl.here | apply Repl.there)) (by kernel_rfl)
            go_wp2_with fail
            go_meet
            case rel =>
            have h1 := HN1.out
            have h2 := HN2.out
            have h3 := HN3.out
            rw [List.length_map] at h1 h3
            unfold regRows at h2
            rw [List.length_map] at h2
            subst h1
            subst h2
            subst h3
            exact ⟨a1, a2, a3, c1, c2, c3, ol1, ol2, ol3, HO1.out, HO2.out, HO3.out, KN⟩
        case ka1x4xst7 =>
          (rw [if_pos (by rfl)]; refine wp_kn_load1 KN 22 _ rfl g3 4 rfl _ 25 (by repeat (first | exact Has.here | refine Has.there ?_)) (.slice oa no oc) rfl _ Tryz.underlying22 rfl ?_)
          refine hK.out _ _ ?ka1x4x7xk7 (fun hHeld2 => ?ka1x4x7xm7)
          case ka1x4x7xk7 => exact trivial
          clear hK K hHeld
          have hHeld := hHeld2; clear hHeld2
          (try simp only [Act.put, List.setIfInBounds_toArray, List.set_cons_zero, List.set_cons_succ])
          refine wpAnyH_ready (rs := [2]) (by kernel_rfl) (by simp) ?ka1x4x7xc2
          refine AllReadyH.cons (o := ⟨some 25, _, _, _, _, _⟩) rfl (fun K hK => ?ka1x4x7xst2) AllReadyH.nil
          go_simp
          (refine (Clone_any (HCW.out.below KN.toBelow) (by rw [← HNW.out]; omega)).mono ?_; rintro e wx ⟨v1, ol1, rfl, O1, K2, _⟩; obtain ⟨a1, n1, c1, rfl, hn1⟩ := O1.form4; have HO1 := Lib.hid O1; have HN1 := Lib.hid hn1; replace KN := (KN.call0 K2).perm List.perm_append_comm; simp only [List.cons_append, List.nil_append, List.append_assoc] at KN; clear K2 O1 hn1)
          refine hK.out _ _ ?ka1x4x7xk2 (fun hHeld2 => ?ka1x4x7xm2)
          case ka1x4x7xk2 => exact trivial
          clear hK K hHeld
          have hHeld := hHeld2; clear hHeld2
          (try simp only [Act.put, List.setIfInBounds_toArray, List.set_cons_zero, List.set_cons_succ])
          refine wpAnyH_take (i := 9) (oi := ⟨some 32, _, _, _, _, _⟩) (v := ?ka1x4x7xv9) rfl (by kernel_rfl) (by kernel_rfl) (by kernel_rfl) (fun _ _ _ h => h) (Or.inl ⟨by rfl, ?ka1x4x7xhy9⟩) hHeld ?ka1x4x7xr9
          case ka1x4x7xhy9 => (intro w hSw; (try dsimp only at hSw); go_simp; (try with_reducible rfl))
          (try simp only [Act.put, List.setIfInBounds_toArray, List.set_cons_zero, List.set_cons_succ])
          refine wpAnyH_ready (rs := [5]) (by kernel_rfl) (by simp) ?ka1x4x7xc5
          refine AllReadyH.cons (o := ⟨some 28, _, _, _, _, _⟩) rfl (fun K hK => ?ka1x4x7xst5) AllReadyH.nil
          go_simp
          (refine (CloneR_any (HCR.out.below KN.toBelow) (by rw [← HNR.out]; omega)).mono ?_; rintro e wx ⟨v2, ol2, rfl, O1, K2⟩; obtain ⟨a2, n2, c2, rfl, hn2⟩ := O1.form4; have HO2 := Lib.hid O1; have HN2 := Lib.hid hn2; replace KN := (KN.call0 K2).perm List.perm_append_comm; simp only [List.cons_append, List.nil_append, List.append_assoc] at KN; clear K2 O1 hn2)
          refine hK.out _ _ ?ka1x4x7xk5 (fun hHeld2 => ?ka1x4x7xm5)
          case ka1x4x7xk5 => exact trivial
          clear hK K hHeld
          have hHeld := hHeld2; clear hHeld2
          (try simp only [Act.put, List.setIfInBounds_toArray, List.set_cons_zero, List.set_cons_succ])
          refine wpAnyH_ready (rs := [8]) (by kernel_rfl) (by simp) ?ka1x4x7xc8
          refine AllReadyH.cons (o := ⟨some 31, _, _, _, _, _⟩) rfl (fun K hK => ?ka1x4x7xst8) AllReadyH.nil
          go_simp
          (refine (Clone_any (HCO.out.below KN.toBelow) (by rw [← HNO.out]; omega)).mono ?_; rintro e wx ⟨v3, ol3, rfl, O1, K2, _⟩; obtain ⟨a3, n3, c3, rfl, hn3⟩ := O1.form4; have HO3 := Lib.hid O1; have HN3 := Lib.hid hn3; replace KN := (KN.call0 K2).perm List.perm_append_comm; simp only [List.cons_append, List.nil_append, List.append_assoc] at KN; clear K2 O1 hn3)
          refine hK.out _ _ ?ka1x4x7xk8 (fun hHeld2 => ?ka1x4x7xm8)
          case ka1x4x7xk8 => exact trivial
          clear hK K hHeld
          have hHeld := hHeld2; clear hHeld2
          (try simp only [Act.put, List.setIfInBounds_toArray, List.set_cons_zero, List.set_cons_succ])
          refine wpAnyH_ready (rs := [10]) (by kernel_rfl) (by simp) ?ka1x4x7xc10
          refine AllReadyH.cons (o := ⟨none, _, _, _, _, _⟩) rfl (fun K hK => ?ka1x4x7xst10) AllReadyH.nil
          (rw [if_pos (by rfl)]; refine wp_kn_store1 KN 22 _ _ rfl g3 0 rfl (.slice a1 n1 c1) rfl rfl _ 25 (by repeat (first | exact Repl.here | apply Repl.there)) (by (try simp only [Array.size_setIfInBounds, putL_size]); first | exact Nat.le_of_ble_eq_true rfl | (simp; omega)) (by kernel_rfl) (by rfl) ?_; clear KN; intro wx KN)
          refine hK.out _ _ ?ka1x4x7xk10 (fun hHeld2 => ?ka1x4x7xm10)
          case ka1x4x7xk10 => exact trivial
          clear hK K hHeld
          have hHeld := hHeld2; clear hHeld2
          (try simp only [Act.put, List.setIfInBounds_toArray, List.set_cons_zero, List.set_cons_succ])
          refine wpAnyH_take (i := 11) (oi := ⟨some 33, _, _, _, _, _⟩) (v := ?ka1x4x7xv11) rfl (by kernel_rfl) (by kernel_rfl) (by kernel_rfl) (fun _ _ _ h => h) (Or.inl ⟨by rfl, ?ka1x4x7xhy11⟩) hHeld ?ka1x4x7xr11
          case ka1x4x7xhy11 => (intro w hSw; (try dsimp only at hSw); go_simp; (try with_reducible rfl))
          (try simp only [Act.put, List.setIfInBounds_toArray, List.set_cons_zero, List.set_cons_succ])
          refine wpAnyH_ready (rs := [12]) (by kernel_rfl) (by simp) ?ka1x4x7xc12
          refine AllReadyH.cons (o := ⟨none, _, _, _, _, _⟩) rfl (fun K hK => ?ka1x4x7xst12) AllReadyH.nil
          (rw [if_pos (by rfl)]; refine wp_kn_store1 KN 23 _ _ rfl g3 3 rfl (.slice a2 n2 c2) rfl rfl _ 25 (by repeat (first | exact Repl.here | apply Repl.there)) (by (try simp only [Array.size_setIfInBounds, putL_size]); first | exact Nat.le_of_ble_eq_true rfl | (simp; omega)) (by kernel_rfl) (by rfl) ?_; clear KN; intro wx KN)
          refine hK.out _ _ ?ka1x4x7xk12 (fun hHeld2 => ?ka1x4x7xm12)
          case ka1x4x7xk12 => exact trivial
          clear hK K hHeld
          have hHeld := hHeld2; clear hHeld2
          (try simp only [Act.put, List.setIfInBounds_toArray, List.set_cons_zero, List.set_cons_succ])
          refine wpAnyH_take (i := 13) (oi := ⟨some 34, _, _, _, _, _⟩) (v := ?ka1x4x7xv13) rfl (by kernel_rfl) (by kernel_rfl) (by kernel_rfl) (fun _ _ _ h => h) (Or.inl ⟨by rfl, ?ka1x4x7xhy13⟩) hHeld ?ka1x4x7xr13
          case ka1x4x7xhy13 => (intro w hSw; (try dsimp only at hSw); go_simp; (try with_reducible rfl))
          (try simp only [Act.put, List.setIfInBounds_toArray, List.set_cons_zero, List.set_cons_succ])
          refine wpAnyH_ready (rs := [14]) (by kernel_rfl) (by simp) ?ka1x4x7xc14
          refine AllReadyH.cons (o := ⟨none, _, _, _, _, _⟩) rfl (fun K hK => ?ka1x4x7xst14) AllReadyH.nil
          (rw [if_pos (by rfl)]; refine wp_kn_store1 KN 22 _ _ rfl g3 4 rfl (.slice a3 n3 c3) rfl rfl _ 25 (by repeat (first | exact Repl.here | apply Repl.there)) (by (try simp only [Array.size_setIfInBounds, putL_size]); first | exact Nat.le_of_ble_eq_true rfl | (simp; omega)) (by kernel_rfl) (by rfl) ?_; clear KN; intro wx KN)
          refine hK.out _ _ ?ka1x4x7xk14 (fun hHeld2 => ?ka1x4x7xm14)
          case ka1x4x7xk14 => exact trivial
          clear hK K hHeld
          have hHeld := hHeld2; clear hHeld2
          (try simp only [Act.put, List.setIfInBounds_toArray, List.set_cons_zero, List.set_cons_succ])
          refine wpAnyH_done (by kernel_rfl) ?ka1x4x7xdone _
          replace KN := KN.as_ g3 #[.slice a1 n1 c1, .int .i64 (sm : Int), .int .i64 (sn : Int), .slice a2 n2 c2, .slice a3 n3 c3] (by repeat (first | exact Repl.here | apply Repl.there)) (by kernel_rfl)
          go_wp2_with fail
          go_meet
          case rel =>
          have h1 := HN1.out
          have h2 := HN2.out
          have h3 := HN3.out
          rw [List.length_map] at h1 h3
          unfold regRows at h2
          rw [List.length_map] at h2
          subst h1
          subst h2
          subst h3
          exact ⟨a1, a2, a3, c1, c2, c3, ol1, ol2, ol3, HO1.out, HO2.out, HO3.out, KN⟩
      case ka1xst7 =>
        (rw [if_pos (by rfl)]; refine wp_kn_load1 KN 22 _ rfl g3 4 rfl _ 25 (by repeat (first | exact Has.here | refine Has.there ?_)) (.slice oa no oc) rfl _ Tryz.underlying22 rfl ?_)
        refine hK.out _ _ ?ka1x7xk7 (fun hHeld2 => ?ka1x7xm7)
        case ka1x7xk7 => exact trivial
        clear hK K hHeld
        have hHeld := hHeld2; clear hHeld2
        (try simp only [Act.put, List.setIfInBounds_toArray, List.set_cons_zero, List.set_cons_succ])
        refine wpAnyH_ready (rs := [2, 4]) (by kernel_rfl) (by simp) ?ka1x7xc2_4
        refine (AllReadyH.cons (o := ⟨some 25, _, _, _, _, _⟩) rfl (fun K hK => ?ka1x7xst2) (AllReadyH.cons (o := ⟨some 27, _, _, _, _, _⟩) rfl (fun K hK => ?ka1x7xst4) AllReadyH.nil))
        case ka1x7xst2 =>
          go_simp
          (refine (Clone_any (HCW.out.below KN.toBelow) (by rw [← HNW.out]; omega)).mono ?_; rintro e wx ⟨v1, ol1, rfl, O1, K2, _⟩; obtain ⟨a1, n1, c1, rfl, hn1⟩ := O1.form4; have HO1 := Lib.hid O1; have HN1 := Lib.hid hn1; replace KN := (KN.call0 K2).perm List.perm_append_comm; simp only [List.cons_append, List.nil_append, List.append_assoc] at KN; clear K2 O1 hn1)
          refine hK.out _ _ ?ka1x7x2xk2 (fun hHeld2 => ?ka1x7x2xm2)
          case ka1x7x2xk2 => exact trivial
          clear hK K hHeld
          have hHeld := hHeld2; clear hHeld2
          (try simp only [Act.put, List.setIfInBounds_toArray, List.set_cons_zero, List.set_cons_succ])
          refine wpAnyH_ready (rs := [4]) (by kernel_rfl) (by simp) ?ka1x7x2xc4
          refine AllReadyH.cons (o := ⟨some 27, _, _, _, _, _⟩) rfl (fun K hK => ?ka1x7x2xst4) AllReadyH.nil
          (rw [if_pos (by rfl)]; refine wp_kn_load1 KN 23 _ rfl g3 3 rfl _ 25 (by repeat (first | exact Has.here | refine Has.there ?_)) (.slice ra no rc) rfl _ Tryz.underlying23 rfl ?_)
          refine hK.out _ _ ?ka1x7x2xk4 (fun hHeld2 => ?ka1x7x2xm4)
          case ka1x7x2xk4 => exact trivial
          clear hK K hHeld
          have hHeld := hHeld2; clear hHeld2
          (try simp only [Act.put, List.setIfInBounds_toArray, List.set_cons_zero, List.set_cons_succ])
          refine wpAnyH_take (i := 9) (oi := ⟨some 32, _, _, _, _, _⟩) (v := ?ka1x7x2xv9) rfl (by kernel_rfl) (by kernel_rfl) (by kernel_rfl) (fun _ _ _ h => h) (Or.inl ⟨by rfl, ?ka1x7x2xhy9⟩) hHeld ?ka1x7x2xr9
          case ka1x7x2xhy9 => (intro w hSw; (try dsimp only at hSw); go_simp; (try with_reducible rfl))
          (try simp only [Act.put, List.setIfInBounds_toArray, List.set_cons_zero, List.set_cons_succ])
          refine wpAnyH_ready (rs := [5]) (by kernel_rfl) (by simp) ?ka1x7x2xc5
          refine AllReadyH.cons (o := ⟨some 28, _, _, _, _, _⟩) rfl (fun K hK => ?ka1x7x2xst5) AllReadyH.nil
          go_simp
          (refine (CloneR_any (HCR.out.below KN.toBelow) (by rw [← HNR.out]; omega)).mono ?_; rintro e wx ⟨v2, ol2, rfl, O1, K2⟩; obtain ⟨a2, n2, c2, rfl, hn2⟩ := O1.form4; have HO2 := Lib.hid O1; have HN2 := Lib.hid hn2; replace KN := (KN.call0 K2).perm List.perm_append_comm; simp only [List.cons_append, List.nil_append, List.append_assoc] at KN; clear K2 O1 hn2)
          refine hK.out _ _ ?ka1x7x2xk5 (fun hHeld2 => ?ka1x7x2xm5)
          case ka1x7x2xk5 => exact trivial
          clear hK K hHeld
          have hHeld := hHeld2; clear hHeld2
          (try simp only [Act.put, List.setIfInBounds_toArray, List.set_cons_zero, List.set_cons_succ])
          refine wpAnyH_ready (rs := [8]) (by kernel_rfl) (by simp) ?ka1x7x2xc8
          refine AllReadyH.cons (o := ⟨some 31, _, _, _, _, _⟩) rfl (fun K hK => ?ka1x7x2xst8) AllReadyH.nil
          go_simp
          (refine (Clone_any (HCO.out.below KN.toBelow) (by rw [← HNO.out]; omega)).mono ?_; rintro e wx ⟨v3, ol3, rfl, O1, K2, _⟩; obtain ⟨a3, n3, c3, rfl, hn3⟩ := O1.form4; have HO3 := Lib.hid O1; have HN3 := Lib.hid hn3; replace KN := (KN.call0 K2).perm List.perm_append_comm; simp only [List.cons_append, List.nil_append, List.append_assoc] at KN; clear K2 O1 hn3)
          refine hK.out _ _ ?ka1x7x2xk8 (fun hHeld2 => ?ka1x7x2xm8)
          case ka1x7x2xk8 => exact trivial
          clear hK K hHeld
          have hHeld := hHeld2; clear hHeld2
          (try simp only [Act.put, List.setIfInBounds_toArray, List.set_cons_zero, List.set_cons_succ])
          refine wpAnyH_ready (rs := [10]) (by kernel_rfl) (by simp) ?ka1x7x2xc10
          refine AllReadyH.cons (o := ⟨none, _, _, _, _, _⟩) rfl (fun K hK => ?ka1x7x2xst10) AllReadyH.nil
          (rw [if_pos (by rfl)]; refine wp_kn_store1 KN 22 _ _ rfl g3 0 rfl (.slice a1 n1 c1) rfl rfl _ 25 (by repeat (first | exact Repl.here | apply Repl.there)) (by (try simp only [Array.size_setIfInBounds, putL_size]); first | exact Nat.le_of_ble_eq_true rfl | (simp; omega)) (by kernel_rfl) (by rfl) ?_; clear KN; intro wx KN)
          refine hK.out _ _ ?ka1x7x2xk10 (fun hHeld2 => ?ka1x7x2xm10)
          case ka1x7x2xk10 => exact trivial
          clear hK K hHeld
          have hHeld := hHeld2; clear hHeld2
          (try simp only [Act.put, List.setIfInBounds_toArray, List.set_cons_zero, List.set_cons_succ])
          refine wpAnyH_take (i := 11) (oi := ⟨some 33, _, _, _, _, _⟩) (v := ?ka1x7x2xv11) rfl (by kernel_rfl) (by kernel_rfl) (by kernel_rfl) (fun _ _ _ h => h) (Or.inl ⟨by rfl, ?ka1x7x2xhy11⟩) hHeld ?ka1x7x2xr11
          case ka1x7x2xhy11 => (intro w hSw; (try dsimp only at hSw); go_simp; (try with_reducible rfl))
          (try simp only [Act.put, List.setIfInBounds_toArray, List.set_cons_zero, List.set_cons_succ])
          refine wpAnyH_ready (rs := [12]) (by kernel_rfl) (by simp) ?ka1x7x2xc12
          refine AllReadyH.cons (o := ⟨none, _, _, _, _, _⟩) rfl (fun K hK => ?ka1x7x2xst12) AllReadyH.nil
          (rw [if_pos (by rfl)]; refine wp_kn_store1 KN 23 _ _ rfl g3 3 rfl (.slice a2 n2 c2) rfl rfl _ 25 (by repeat (first | exact Repl.here | apply Repl.there)) (by (try simp only [Array.size_setIfInBounds, putL_size]); first | exact Nat.le_of_ble_eq_true rfl | (simp; omega)) (by kernel_rfl) (by rfl) ?_; clear KN; intro wx KN)
          refine hK.out _ _ ?ka1x7x2xk12 (fun hHeld2 => ?ka1x7x2xm12)
          case ka1x7x2xk12 => exact trivial
          clear hK K hHeld
          have hHeld := hHeld2; clear hHeld2
          (try simp only [Act.put, List.setIfInBounds_toArray, List.set_cons_zero, List.set_cons_succ])
          refine wpAnyH_take (i := 13) (oi := ⟨some 34, _, _, _, _, _⟩) (v := ?ka1x7x2xv13) rfl (by kernel_rfl) (by kernel_rfl) (by kernel_rfl) (fun _ _ _ h => h) (Or.inl ⟨by rfl, ?ka1x7x2xhy13⟩) hHeld ?ka1x7x2xr13
          case ka1x7x2xhy13 => (intro w hSw; (try dsimp only at hSw); go_simp; (try with_reducible rfl))
          (try simp only [Act.put, List.setIfInBounds_toArray, List.set_cons_zero, List.set_cons_succ])
          refine wpAnyH_ready (rs := [14]) (by kernel_rfl) (by simp) ?ka1x7x2xc14
          refine AllReadyH.cons (o := ⟨none, _, _, _, _, _⟩) rfl (fun K hK => ?ka1x7x2xst14) AllReadyH.nil
          (rw [if_pos (by rfl)]; refine wp_kn_store1 KN 22 _ _ rfl g3 4 rfl (.slice a3 n3 c3) rfl rfl _ 25 (by repeat (first | exact Repl.here | apply Repl.there)) (by (try simp only [Array.size_setIfInBounds, putL_size]); first | exact Nat.le_of_ble_eq_true rfl | (simp; omega)) (by kernel_rfl) (by rfl) ?_; clear KN; intro wx KN)
          refine hK.out _ _ ?ka1x7x2xk14 (fun hHeld2 => ?ka1x7x2xm14)
          case ka1x7x2xk14 => exact trivial
          clear hK K hHeld
          have hHeld := hHeld2; clear hHeld2
          (try simp only [Act.put, List.setIfInBounds_toArray, List.set_cons_zero, List.set_cons_succ])
          refine wpAnyH_done (by kernel_rfl) ?ka1x7x2xdone _
          replace KN := KN.as_ g3 #[.slice a1 n1 c1, .int .i64 (sm : Int), .int .i64 (sn : Int), .slice a2 n2 c2, .slice a3 n3 c3] (by repeat (first | exact Repl.here | apply Repl.there)) (by kernel_rfl)
          go_wp2_with fail
          go_meet
          case rel =>
          have h1 := HN1.out
          have h2 := HN2.out
          have h3 := HN3.out
          rw [List.length_map] at h1 h3
          unfold regRows at h2
          rw [List.length_map] at h2
          subst h1
          subst h2
          subst h3
          exact ⟨a1, a2, a3, c1, c2, c3, ol1, ol2, ol3, HO1.out, HO2.out, HO3.out, KN⟩
        case ka1x7xst4 =>
          (rw [if_pos (by rfl)]; refine wp_kn_load1 KN 23 _ rfl g3 3 rfl _ 25 (by repeat (first | exact Has.here | refine Has.there ?_)) (.slice ra no rc) rfl _ Tryz.underlying23 rfl ?_)
          refine hK.out _ _ ?ka1x7x4xk4 (fun hHeld2 => ?ka1x7x4xm4)
          case ka1x7x4xk4 => exact trivial
          clear hK K hHeld
          have hHeld := hHeld2; clear hHeld2
          (try simp only [Act.put, List.setIfInBounds_toArray, List.set_cons_zero, List.set_cons_succ])
          refine wpAnyH_ready (rs := [2]) (by kernel_rfl) (by simp) ?ka1x7x4xc2
          refine AllReadyH.cons (o := ⟨some 25, _, _, _, _, _⟩) rfl (fun K hK => ?ka1x7x4xst2) AllReadyH.nil
          go_simp
          (refine (Clone_any (HCW.out.below KN.toBelow) (by rw [← HNW.out]; omega)).mono ?_; rintro e wx ⟨v1, ol1, rfl, O1, K2, _⟩; obtain ⟨a1, n1, c1, rfl, hn1⟩ := O1.form4; have HO1 := Lib.hid O1; have HN1 := Lib.hid hn1; replace KN := (KN.call0 K2).perm List.perm_append_comm; simp only [List.cons_append, List.nil_append, List.append_assoc] at KN; clear K2 O1 hn1)
          refine hK.out _ _ ?ka1x7x4xk2 (fun hHeld2 => ?ka1x7x4xm2)
          case ka1x7x4xk2 => exact trivial
          clear hK K hHeld
          have hHeld := hHeld2; clear hHeld2
          (try simp only [Act.put, List.setIfInBounds_toArray, List.set_cons_zero, List.set_cons_succ])
          refine wpAnyH_take (i := 9) (oi := ⟨some 32, _, _, _, _, _⟩) (v := ?ka1x7x4xv9) rfl (by kernel_rfl) (by kernel_rfl) (by kernel_rfl) (fun _ _ _ h => h) (Or.inl ⟨by rfl, ?ka1x7x4xhy9⟩) hHeld ?ka1x7x4xr9
          case ka1x7x4xhy9 => (intro w hSw; (try dsimp only at hSw); go_simp; (try with_reducible rfl))
          (try simp only [Act.put, List.setIfInBounds_toArray, List.set_cons_zero, List.set_cons_succ])
          refine wpAnyH_ready (rs := [5]) (by kernel_rfl) (by simp) ?ka1x7x4xc5
          refine AllReadyH.cons (o := ⟨some 28, _, _, _, _, _⟩) rfl (fun K hK => ?ka1x7x4xst5) AllReadyH.nil
          go_simp
          (refine (CloneR_any (HCR.out.below KN.toBelow) (by rw [← HNR.out]; omega)).mono ?_; rintro e wx ⟨v2, ol2, rfl, O1, K2⟩; obtain ⟨a2, n2, c2, rfl, hn2⟩ := O1.form4; have HO2 := Lib.hid O1; have HN2 := Lib.hid hn2; replace KN := (KN.call0 K2).perm List.perm_append_comm; simp only [List.cons_append, List.nil_append, List.append_assoc] at KN; clear K2 O1 hn2)
          refine hK.out _ _ ?ka1x7x4xk5 (fun hHeld2 => ?ka1x7x4xm5)
          case ka1x7x4xk5 => exact trivial
          clear hK K hHeld
          have hHeld := hHeld2; clear hHeld2
          (try simp only [Act.put, List.setIfInBounds_toArray, List.set_cons_zero, List.set_cons_succ])
          refine wpAnyH_ready (rs := [8]) (by kernel_rfl) (by simp) ?ka1x7x4xc8
          refine AllReadyH.cons (o := ⟨some 31, _, _, _, _, _⟩) rfl (fun K hK => ?ka1x7x4xst8) AllReadyH.nil
          go_simp
          (refine (Clone_any (HCO.out.below KN.toBelow) (by rw [← HNO.out]; omega)).mono ?_; rintro e wx ⟨v3, ol3, rfl, O1, K2, _⟩; obtain ⟨a3, n3, c3, rfl, hn3⟩ := O1.form4; have HO3 := Lib.hid O1; have HN3 := Lib.hid hn3; replace KN := (KN.call0 K2).perm List.perm_append_comm; simp only [List.cons_append, List.nil_append, List.append_assoc] at KN; clear K2 O1 hn3)
          refine hK.out _ _ ?ka1x7x4xk8 (fun hHeld2 => ?ka1x7x4xm8)
          case ka1x7x4xk8 => exact trivial
          clear hK K hHeld
          have hHeld := hHeld2; clear hHeld2
          (try simp only [Act.put, List.setIfInBounds_toArray, List.set_cons_zero, List.set_cons_succ])
          refine wpAnyH_ready (rs := [10]) (by kernel_rfl) (by simp) ?ka1x7x4xc10
          refine AllReadyH.cons (o := ⟨none, _, _, _, _, _⟩) rfl (fun K hK => ?ka1x7x4xst10) AllReadyH.nil
          (rw [if_pos (by rfl)]; refine wp_kn_store1 KN 22 _ _ rfl g3 0 rfl (.slice a1 n1 c1) rfl rfl _ 25 (by repeat (first | exact Repl.here | apply Repl.there)) (by (try simp only [Array.size_setIfInBounds, putL_size]); first | exact Nat.le_of_ble_eq_true rfl | (simp; omega)) (by kernel_rfl) (by rfl) ?_; clear KN; intro wx KN)
          refine hK.out _ _ ?ka1x7x4xk10 (fun hHeld2 => ?ka1x7x4xm10)
          case ka1x7x4xk10 => exact trivial
          clear hK K hHeld
          have hHeld := hHeld2; clear hHeld2
          (try simp only [Act.put, List.setIfInBounds_toArray, List.set_cons_zero, List.set_cons_succ])
          refine wpAnyH_take (i := 11) (oi := ⟨some 33, _, _, _, _, _⟩) (v := ?ka1x7x4xv11) rfl (by kernel_rfl) (by kernel_rfl) (by kernel_rfl) (fun _ _ _ h => h) (Or.inl ⟨by rfl, ?ka1x7x4xhy11⟩) hHeld ?ka1x7x4xr11
          case ka1x7x4xhy11 => (intro w hSw; (try dsimp only at hSw); go_simp; (try with_reducible rfl))
          (try simp only [Act.put, List.setIfInBounds_toArray, List.set_cons_zero, List.set_cons_succ])
          refine wpAnyH_ready (rs := [12]) (by kernel_rfl) (by simp) ?ka1x7x4xc12
          refine AllReadyH.cons (o := ⟨none, _, _, _, _, _⟩) rfl (fun K hK => ?ka1x7x4xst12) AllReadyH.nil
          (rw [if_pos (by rfl)]; refine wp_kn_store1 KN 23 _ _ rfl g3 3 rfl (.slice a2 n2 c2) rfl rfl _ 25 (by repeat (first | exact Repl.here | apply Repl.there)) (by (try simp only [Array.size_setIfInBounds, putL_size]); first | exact Nat.le_of_ble_eq_true rfl | (simp; omega)) (by kernel_rfl) (by rfl) ?_; clear KN; intro wx KN)
          refine hK.out _ _ ?ka1x7x4xk12 (fun hHeld2 => ?ka1x7x4xm12)
          case ka1x7x4xk12 => exact trivial
          clear hK K hHeld
          have hHeld := hHeld2; clear hHeld2
          (try simp only [Act.put, List.setIfInBounds_toArray, List.set_cons_zero, List.set_cons_succ])
          refine wpAnyH_take (i := 13) (oi := ⟨some 34, _, _, _, _, _⟩) (v := ?ka1x7x4xv13) rfl (by kernel_rfl) (by kernel_rfl) (by kernel_rfl) (fun _ _ _ h => h) (Or.inl ⟨by rfl, ?ka1x7x4xhy13⟩) hHeld ?ka1x7x4xr13
          case ka1x7x4xhy13 => (intro w hSw; (try dsimp only at hSw); go_simp; (try with_reducible rfl))
          (try simp only [Act.put, List.setIfInBounds_toArray, List.set_cons_zero, List.set_cons_succ])
          refine wpAnyH_ready (rs := [14]) (by kernel_rfl) (by simp) ?ka1x7x4xc14
          refine AllReadyH.cons (o := ⟨none, _, _, _, _, _⟩) rfl (fun K hK => ?ka1x7x4xst14) AllReadyH.nil
          (rw [if_pos (by rfl)]; refine wp_kn_store1 KN 22 _ _ rfl g3 4 rfl (.slice a3 n3 c3) rfl rfl _ 25 (by repeat (first | exact Repl.here | apply Repl.there)) (by (try simp only [Array.size_setIfInBounds, putL_size]); first | exact Nat.le_of_ble_eq_true rfl | (simp; omega)) (by kernel_rfl) (by rfl) ?_; clear KN; intro wx KN)
          refine hK.out _ _ ?ka1x7x4xk14 (fun hHeld2 => ?ka1x7x4xm14)
          case ka1x7x4xk14 => exact trivial
          clear hK K hHeld
          have hHeld := hHeld2; clear hHeld2
          (try simp only [Act.put, List.setIfInBounds_toArray, List.set_cons_zero, List.set_cons_succ])
          refine wpAnyH_done (by kernel_rfl) ?ka1x7x4xdone _
          replace KN := KN.as_ g3 #[.slice a1 n1 c1, .int .i64 (sm : Int), .int .i64 (sn : Int), .slice a2 n2 c2, .slice a3 n3 c3] (by repeat (first | exact Repl.here | apply Repl.there)) (by kernel_rfl)
          go_wp2_with fail
          go_meet
          case rel =>
          have h1 := HN1.out
          have h2 := HN2.out
          have h3 := HN3.out
          rw [List.length_map] at h1 h3
          unfold regRows at h2
          rw [List.length_map] at h2
          subst h1
          subst h2
          subst h3
          exact ⟨a1, a2, a3, c1, c2, c3, ol1, ol2, ol3, HO1.out, HO2.out, HO3.out, KN⟩
    case kast4 =>
      (rw [if_pos (by rfl)]; refine wp_kn_load1 KN 23 _ rfl g3 3 rfl _ 25 (by repeat (first | exact Has.here | refine Has.there ?_)) (.slice ra no rc) rfl _ Tryz.underlying23 rfl ?_)
      refine hK.out _ _ ?ka4xk4 (fun hHeld2 => ?ka4xm4)
      case ka4xk4 => exact trivial
      clear hK K hHeld
      have hHeld := hHeld2; clear hHeld2
      (try simp only [Act.put, List.setIfInBounds_toArray, List.set_cons_zero, List.set_cons_succ])
      refine wpAnyH_ready (rs := [1, 7]) (by kernel_rfl) (by simp) ?ka4xc1_7
      refine (AllReadyH.cons (o := ⟨some 24, _, _, _, _, _⟩) rfl (fun K hK => ?ka4xst1) (AllReadyH.cons (o := ⟨some 30, _, _, _, _, _⟩) rfl (fun K hK => ?ka4xst7) AllReadyH.nil))
      case ka4xst1 =>
        (rw [if_pos (by rfl)]; refine wp_kn_load1 KN 22 _ rfl g3 0 rfl _ 25 (by repeat (first | exact Has.here | refine Has.there ?_)) (.slice wa nw wc) rfl _ Tryz.underlying22 rfl ?_)
        refine hK.out _ _ ?ka4x1xk1 (fun hHeld2 => ?ka4x1xm1)
        case ka4x1xk1 => exact trivial
        clear hK K hHeld
        have hHeld := hHeld2; clear hHeld2
        (try simp only [Act.put, List.setIfInBounds_toArray, List.set_cons_zero, List.set_cons_succ])
        refine wpAnyH_ready (rs := [2, 7]) (by kernel_rfl) (by simp) ?ka4x1xc2_7
        refine (AllReadyH.cons (o := ⟨some 25, _, _, _, _, _⟩) rfl (fun K hK => ?ka4x1xst2) (AllReadyH.cons (o := ⟨some 30, _, _, _, _, _⟩) rfl (fun K hK => ?ka4x1xst7) AllReadyH.nil))
        case ka4x1xst2 =>
          go_simp
          (refine (Clone_any (HCW.out.below KN.toBelow) (by rw [← HNW.out]; omega)).mono ?_; rintro e wx ⟨v1, ol1, rfl, O1, K2, _⟩; obtain ⟨a1, n1, c1, rfl, hn1⟩ := O1.form4; have HO1 := Lib.hid O1; have HN1 := Lib.hid hn1; replace KN := (KN.call0 K2).perm List.perm_append_comm; simp only [List.cons_append, List.nil_append, List.append_assoc] at KN; clear K2 O1 hn1)
          refine hK.out _ _ ?ka4x1x2xk2 (fun hHeld2 => ?ka4x1x2xm2)
          case ka4x1x2xk2 => exact trivial
          clear hK K hHeld
          have hHeld := hHeld2; clear hHeld2
          (try simp only [Act.put, List.setIfInBounds_toArray, List.set_cons_zero, List.set_cons_succ])
          refine wpAnyH_ready (rs := [5, 7]) (by kernel_rfl) (by simp) ?ka4x1x2xc5_7
          refine (AllReadyH.cons (o := ⟨some 28, _, _, _, _, _⟩) rfl (fun K hK => ?ka4x1x2xst5) (AllReadyH.cons (o := ⟨some 30, _, _, _, _, _⟩) rfl (fun K hK => ?ka4x1x2xst7) AllReadyH.nil))
          case ka4x1x2xst5 =>
            go_simp
            (refine (CloneR_any (HCR.out.below KN.toBelow) (by rw [← HNR.out]; omega)).mono ?_; rintro e wx ⟨v2, ol2, rfl, O1, K2⟩; obtain ⟨a2, n2, c2, rfl, hn2⟩ := O1.form4; have HO2 := Lib.hid O1; have HN2 := Lib.hid hn2; replace KN := (KN.call0 K2).perm List.perm_append_comm; simp only [List.cons_append, List.nil_append, List.append_assoc] at KN; clear K2 O1 hn2)
            refine hK.out _ _ ?ka4x1x2x5xk5 (fun hHeld2 => ?ka4x1x2x5xm5)
            case ka4x1x2x5xk5 => exact trivial
            clear hK K hHeld
            have hHeld := hHeld2; clear hHeld2
            (try simp only [Act.put, List.setIfInBounds_toArray, List.set_cons_zero, List.set_cons_succ])
            refine wpAnyH_ready (rs := [7]) (by kernel_rfl) (by simp) ?ka4x1x2x5xc7
            refine AllReadyH.cons (o := ⟨some 30, _, _, _, _, _⟩) rfl (fun K hK => ?ka4x1x2x5xst7) AllReadyH.nil
            (rw [if_pos (by rfl)]; refine wp_kn_load1 KN 22 _ rfl g3 4 rfl _ 25 (by repeat (first | exact Has.here | refine Has.there ?_)) (.slice oa no oc) rfl _ Tryz.underlying22 rfl ?_)
            refine hK.out _ _ ?ka4x1x2x5xk7 (fun hHeld2 => ?ka4x1x2x5xm7)
            case ka4x1x2x5xk7 => exact trivial
            clear hK K hHeld
            have hHeld := hHeld2; clear hHeld2
            (try simp only [Act.put, List.setIfInBounds_toArray, List.set_cons_zero, List.set_cons_succ])
            refine wpAnyH_take (i := 9) (oi := ⟨some 32, _, _, _, _, _⟩) (v := ?ka4x1x2x5xv9) rfl (by kernel_rfl) (by kernel_rfl) (by kernel_rfl) (fun _ _ _ h => h) (Or.inl ⟨by rfl, ?ka4x1x2x5xhy9⟩) hHeld ?ka4x1x2x5xr9
            case ka4x1x2x5xhy9 => (intro w hSw; (try dsimp only at hSw); go_simp; (try with_reducible rfl))
            (try simp only [Act.put, List.setIfInBounds_toArray, List.set_cons_zero, List.set_cons_succ])
            refine wpAnyH_ready (rs := [8]) (by kernel_rfl) (by simp) ?ka4x1x2x5xc8
            refine AllReadyH.cons (o := ⟨some 31, _, _, _, _, _⟩) rfl (fun K hK => ?ka4x1x2x5xst8) AllReadyH.nil
            go_simp
            (refine (Clone_any (HCO.out.below KN.toBelow) (by rw [← HNO.out]; omega)).mono ?_; rintro e wx ⟨v3, ol3, rfl, O1, K2, _⟩; obtain ⟨a3, n3, c3, rfl, hn3⟩ := O1.form4; have HO3 := Lib.hid O1; have HN3 := Lib.hid hn3; replace KN := (KN.call0 K2).perm List.perm_append_comm; simp only [List.cons_append, List.nil_append, List.append_assoc] at KN; clear K2 O1 hn3)
            refine hK.out _ _ ?ka4x1x2x5xk8 (fun hHeld2 => ?ka4x1x2x5xm8)
            case ka4x1x2x5xk8 => exact trivial
            clear hK K hHeld
            have hHeld := hHeld2; clear hHeld2
            (try simp only [Act.put, List.setIfInBounds_toArray, List.set_cons_zero, List.set_cons_succ])
            refine wpAnyH_ready (rs := [10]) (by kernel_rfl) (by simp) ?ka4x1x2x5xc10
            refine AllReadyH.cons (o := ⟨none, _, _, _, _, _⟩) rfl (fun K hK => ?ka4x1x2x5xst10) AllReadyH.nil
            (rw [if_pos (by rfl)]; refine wp_kn_store1 KN 22 _ _ rfl g3 0 rfl (.slice a1 n1 c1) rfl rfl _ 25 (by repeat (first | exact Repl.here | apply Repl.there)) (by (try simp only [Array.size_setIfInBounds, putL_size]); first | exact Nat.le_of_ble_eq_true rfl | (simp; omega)) (by kernel_rfl) (by rfl) ?_; clear KN; intro wx KN)
            refine hK.out _ _ ?ka4x1x2x5xk10 (fun hHeld2 => ?ka4x1x2x5xm10)
            case ka4x1x2x5xk10 => exact trivial
            clear hK K hHeld
            have hHeld := hHeld2; clear hHeld2
            (try simp only [Act.put, List.setIfInBounds_toArray, List.set_cons_zero, List.set_cons_succ])
            refine wpAnyH_take (i := 11) (oi := ⟨some 33, _, _, _, _, _⟩) (v := ?ka4x1x2x5xv11) rfl (by kernel_rfl) (by kernel_rfl) (by kernel_rfl) (fun _ _ _ h => h) (Or.inl ⟨by rfl, ?ka4x1x2x5xhy11⟩) hHeld ?ka4x1x2x5xr11
            case ka4x1x2x5xhy11 => (intro w hSw; (try dsimp only at hSw); go_simp; (try with_reducible rfl))
            (try simp only [Act.put, List.setIfInBounds_toArray, List.set_cons_zero, List.set_cons_succ])
            refine wpAnyH_ready (rs := [12]) (by kernel_rfl) (by simp) ?ka4x1x2x5xc12
            refine AllReadyH.cons (o := ⟨none, _, _, _, _, _⟩) rfl (fun K hK => ?ka4x1x2x5xst12) AllReadyH.nil
            (rw [if_pos (by rfl)]; refine wp_kn_store1 KN 23 _ _ rfl g3 3 rfl (.slice a2 n2 c2) rfl rfl _ 25 (by repeat (first | exact Repl.here | apply Repl.there)) (by (try simp only [Array.size_setIfInBounds, putL_size]); first | exact Nat.le_of_ble_eq_true rfl | (simp; omega)) (by kernel_rfl) (by rfl) ?_; clear KN; intro wx KN)
            refine hK.out _ _ ?ka4x1x2x5xk12 (fun hHeld2 => ?ka4x1x2x5xm12)
            case ka4x1x2x5xk12 => exact trivial
            clear hK K hHeld
            have hHeld := hHeld2; clear hHeld2
            (try simp only [Act.put, List.setIfInBounds_toArray, List.set_cons_zero, List.set_cons_succ])
            refine wpAnyH_take (i := 13) (oi := ⟨some 34, _, _, _, _, _⟩) (v := ?ka4x1x2x5xv13) rfl (by kernel_rfl) (by kernel_rfl) (by kernel_rfl) (fun _ _ _ h => h) (Or.inl ⟨by rfl, ?ka4x1x2x5xhy13⟩) hHeld ?ka4x1x2x5xr13
            case ka4x1x2x5xhy13 => (intro w hSw; (try dsimp only at hSw); go_simp; (try with_reducible rfl))
            (try simp only [Act.put, List.setIfInBounds_toArray, List.set_cons_zero, List.set_cons_succ])
            refine wpAnyH_ready (rs := [14]) (by kernel_rfl) (by simp) ?ka4x1x2x5xc14
            refine AllReadyH.cons (o := ⟨none, _, _, _, _, _⟩) rfl (fun K hK => ?ka4x1x2x5xst14) AllReadyH.nil
            (rw [if_pos (by rfl)]; refine wp_kn_store1 KN 22 _ _ rfl g3 4 rfl (.slice a3 n3 c3) rfl rfl _ 25 (by repeat (first | exact Repl.here | apply Repl.there)) (by (try simp only [Array.size_setIfInBounds, putL_size]); first | exact Nat.le_of_ble_eq_true rfl | (simp; omega)) (by kernel_rfl) (by rfl) ?_; clear KN; intro wx KN)
            refine hK.out _ _ ?ka4x1x2x5xk14 (fun hHeld2 => ?ka4x1x2x5xm14)
            case ka4x1x2x5xk14 => exact trivial
            clear hK K hHeld
            have hHeld := hHeld2; clear hHeld2
            (try simp only [Act.put, List.setIfInBounds_toArray, List.set_cons_zero, List.set_cons_succ])
            refine wpAnyH_done (by kernel_rfl) ?ka4x1x2x5xdone _
            replace KN := KN.as_ g3 #[.slice a1 n1 c1, .int .i64 (sm : Int), .int .i64 (sn : Int), .slice a2 n2 c2, .slice a3 n3 c3] (by repeat (first | exact Repl.here | apply Repl.there)) (by kernel_rfl)
            go_wp2_with fail
            go_meet
            case rel =>
            have h1 := HN1.out
            have h2 := HN2.out
            have h3 := HN3.out
            rw [List.length_map] at h1 h3
            unfold regRows at h2
            rw [List.length_map] at h2
            subst h1
            subst h2
            subst h3
            exact ⟨a1, a2, a3, c1, c2, c3, ol1, ol2, ol3, HO1.out, HO2.out, HO3.out, KN⟩
          case ka4x1x2xst7 =>
            (rw [if_pos (by rfl)]; refine wp_kn_load1 KN 22 _ rfl g3 4 rfl _ 25 (by repeat (first | exact Has.here | refine Has.there ?_)) (.slice oa no oc) rfl _ Tryz.underlying22 rfl ?_)
            refine hK.out _ _ ?ka4x1x2x7xk7 (fun hHeld2 => ?ka4x1x2x7xm7)
            case ka4x1x2x7xk7 => exact trivial
            clear hK K hHeld
            have hHeld := hHeld2; clear hHeld2
            (try simp only [Act.put, List.setIfInBounds_toArray, List.set_cons_zero, List.set_cons_succ])
            refine wpAnyH_take (i := 9) (oi := ⟨some 32, _, _, _, _, _⟩) (v := ?ka4x1x2x7xv9) rfl (by kernel_rfl) (by kernel_rfl) (by kernel_rfl) (fun _ _ _ h => h) (Or.inl ⟨by rfl, ?ka4x1x2x7xhy9⟩) hHeld ?ka4x1x2x7xr9
            case ka4x1x2x7xhy9 => (intro w hSw; (try dsimp only at hSw); go_simp; (try with_reducible rfl))
            (try simp only [Act.put, List.setIfInBounds_toArray, List.set_cons_zero, List.set_cons_succ])
            refine wpAnyH_ready (rs := [5]) (by kernel_rfl) (by simp) ?ka4x1x2x7xc5
            refine AllReadyH.cons (o := ⟨some 28, _, _, _, _, _⟩) rfl (fun K hK => ?ka4x1x2x7xst5) AllReadyH.nil
            go_simp
            (refine (CloneR_any (HCR.out.below KN.toBelow) (by rw [← HNR.out]; omega)).mono ?_; rintro e wx ⟨v2, ol2, rfl, O1, K2⟩; obtain ⟨a2, n2, c2, rfl, hn2⟩ := O1.form4; have HO2 := Lib.hid O1; have HN2 := Lib.hid hn2; replace KN := (KN.call0 K2).perm List.perm_append_comm; simp only [List.cons_append, List.nil_append, List.append_assoc] at KN; clear K2 O1 hn2)
            refine hK.out _ _ ?ka4x1x2x7xk5 (fun hHeld2 => ?ka4x1x2x7xm5)
            case ka4x1x2x7xk5 => exact trivial
            clear hK K hHeld
            have hHeld := hHeld2; clear hHeld2
            (try simp only [Act.put, List.setIfInBounds_toArray, List.set_cons_zero, List.set_cons_succ])
            refine wpAnyH_ready (rs := [8]) (by kernel_rfl) (by simp) ?ka4x1x2x7xc8
            refine AllReadyH.cons (o := ⟨some 31, _, _, _, _, _⟩) rfl (fun K hK => ?ka4x1x2x7xst8) AllReadyH.nil
            go_simp
            (refine (Clone_any (HCO.out.below KN.toBelow) (by rw [← HNO.out]; omega)).mono ?_; rintro e wx ⟨v3, ol3, rfl, O1, K2, _⟩; obtain ⟨a3, n3, c3, rfl, hn3⟩ := O1.form4; have HO3 := Lib.hid O1; have HN3 := Lib.hid hn3; replace KN := (KN.call0 K2).perm List.perm_append_comm; simp only [List.cons_append, List.nil_append, List.append_assoc] at KN; clear K2 O1 hn3)
            refine hK.out _ _ ?ka4x1x2x7xk8 (fun hHeld2 => ?ka4x1x2x7xm8)
            case ka4x1x2x7xk8 => exact trivial
            clear hK K hHeld
            have hHeld := hHeld2; clear hHeld2
            (try simp only [Act.put, List.setIfInBounds_toArray, List.set_cons_zero, List.set_cons_succ])
            refine wpAnyH_ready (rs := [10]) (by kernel_rfl) (by simp) ?ka4x1x2x7xc10
            refine AllReadyH.cons (o := ⟨none, _, _, _, _, _⟩) rfl (fun K hK => ?ka4x1x2x7xst10) AllReadyH.nil
            (rw [if_pos (by rfl)]; refine wp_kn_store1 KN 22 _ _ rfl g3 0 rfl (.slice a1 n1 c1) rfl rfl _ 25 (by repeat (first | exact Repl.here | apply Repl.there)) (by (try simp only [Array.size_setIfInBounds, putL_size]); first | exact Nat.le_of_ble_eq_true rfl | (simp; omega)) (by kernel_rfl) (by rfl) ?_; clear KN; intro wx KN)
            refine hK.out _ _ ?ka4x1x2x7xk10 (fun hHeld2 => ?ka4x1x2x7xm10)
            case ka4x1x2x7xk10 => exact trivial
            clear hK K hHeld
            have hHeld := hHeld2; clear hHeld2
            (try simp only [Act.put, List.setIfInBounds_toArray, List.set_cons_zero, List.set_cons_succ])
            refine wpAnyH_take (i := 11) (oi := ⟨some 33, _, _, _, _, _⟩) (v := ?ka4x1x2x7xv11) rfl (by kernel_rfl) (by kernel_rfl) (by kernel_rfl) (fun _ _ _ h => h) (Or.inl ⟨by rfl, ?ka4x1x2x7xhy11⟩) hHeld ?ka4x1x2x7xr11
            case ka4x1x2x7xhy11 => (intro w hSw; (try dsimp only at hSw); go_simp; (try with_reducible rfl))
            (try simp only [Act.put, List.setIfInBounds_toArray, List.set_cons_zero, List.set_cons_succ])
            refine wpAnyH_ready (rs := [12]) (by kernel_rfl) (by simp) ?ka4x1x2x7xc12
            refine AllReadyH.cons (o := ⟨none, _, _, _, _, _⟩) rfl (fun K hK => ?ka4x1x2x7xst12) AllReadyH.nil
            (rw [if_pos (by rfl)]; refine wp_kn_store1 KN 23 _ _ rfl g3 3 rfl (.slice a2 n2 c2) rfl rfl _ 25 (by repeat (first | exact Repl.here | apply Repl.there)) (by (try simp only [Array.size_setIfInBounds, putL_size]); first | exact Nat.le_of_ble_eq_true rfl | (simp; omega)) (by kernel_rfl) (by rfl) ?_; clear KN; intro wx KN)
            refine hK.out _ _ ?ka4x1x2x7xk12 (fun hHeld2 => ?ka4x1x2x7xm12)
            case ka4x1x2x7xk12 => exact trivial
            clear hK K hHeld
            have hHeld := hHeld2; clear hHeld2
            (try simp only [Act.put, List.setIfInBounds_toArray, List.set_cons_zero, List.set_cons_succ])
            refine wpAnyH_take (i := 13) (oi := ⟨some 34, _, _, _, _, _⟩) (v := ?ka4x1x2x7xv13) rfl (by kernel_rfl) (by kernel_rfl) (by kernel_rfl) (fun _ _ _ h => h) (Or.inl ⟨by rfl, ?ka4x1x2x7xhy13⟩) hHeld ?ka4x1x2x7xr13
            case ka4x1x2x7xhy13 => (intro w hSw; (try dsimp only at hSw); go_simp; (try with_reducible rfl))
            (try simp only [Act.put, List.setIfInBounds_toArray, List.set_cons_zero, List.set_cons_succ])
            refine wpAnyH_ready (rs := [14]) (by kernel_rfl) (by simp) ?ka4x1x2x7xc14
            refine AllReadyH.cons (o := ⟨none, _, _, _, _, _⟩) rfl (fun K hK => ?ka4x1x2x7xst14) AllReadyH.nil
            (rw [if_pos (by rfl)]; refine wp_kn_store1 KN 22 _ _ rfl g3 4 rfl (.slice a3 n3 c3) rfl rfl _ 25 (by repeat (first | exact Repl.here | apply Repl.there)) (by (try simp only [Array.size_setIfInBounds, putL_size]); first | exact Nat.le_of_ble_eq_true rfl | (simp; omega)) (by kernel_rfl) (by rfl) ?_; clear KN; intro wx KN)
            refine hK.out _ _ ?ka4x1x2x7xk14 (fun hHeld2 => ?ka4x1x2x7xm14)
            case ka4x1x2x7xk14 => exact trivial
            clear hK K hHeld
            have hHeld := hHeld2; clear hHeld2
            (try simp only [Act.put, List.setIfInBounds_toArray, List.set_cons_zero, List.set_cons_succ])
            refine wpAnyH_done (by kernel_rfl) ?ka4x1x2x7xdone _
            replace KN := KN.as_ g3 #[.slice a1 n1 c1, .int .i64 (sm : Int), .int .i64 (sn : Int), .slice a2 n2 c2, .slice a3 n3 c3] (by repeat (first | exact Repl.here | apply Repl.there)) (by kernel_rfl)
            go_wp2_with fail
            go_meet
            case rel =>
            have h1 := HN1.out
            have h2 := HN2.out
            have h3 := HN3.out
            rw [List.length_map] at h1 h3
            unfold regRows at h2
            rw [List.length_map] at h2
            subst h1
            subst h2
            subst h3
            exact ⟨a1, a2, a3, c1, c2, c3, ol1, ol2, ol3, HO1.out, HO2.out, HO3.out, KN⟩
        case ka4x1xst7 =>
          (rw [if_pos (by rfl)]; refine wp_kn_load1 KN 22 _ rfl g3 4 rfl _ 25 (by repeat (first | exact Has.here | refine Has.there ?_)) (.slice oa no oc) rfl _ Tryz.underlying22 rfl ?_)
          refine hK.out _ _ ?ka4x1x7xk7 (fun hHeld2 => ?ka4x1x7xm7)
          case ka4x1x7xk7 => exact trivial
          clear hK K hHeld
          have hHeld := hHeld2; clear hHeld2
          (try simp only [Act.put, List.setIfInBounds_toArray, List.set_cons_zero, List.set_cons_succ])
          refine wpAnyH_ready (rs := [2]) (by kernel_rfl) (by simp) ?ka4x1x7xc2
          refine AllReadyH.cons (o := ⟨some 25, _, _, _, _, _⟩) rfl (fun K hK => ?ka4x1x7xst2) AllReadyH.nil
          go_simp
          (refine (Clone_any (HCW.out.below KN.toBelow) (by rw [← HNW.out]; omega)).mono ?_; rintro e wx ⟨v1, ol1, rfl, O1, K2, _⟩; obtain ⟨a1, n1, c1, rfl, hn1⟩ := O1.form4; have HO1 := Lib.hid O1; have HN1 := Lib.hid hn1; replace KN := (KN.call0 K2).perm List.perm_append_comm; simp only [List.cons_append, List.nil_append, List.append_assoc] at KN; clear K2 O1 hn1)
          refine hK.out _ _ ?ka4x1x7xk2 (fun hHeld2 => ?ka4x1x7xm2)
          case ka4x1x7xk2 => exact trivial
          clear hK K hHeld
          have hHeld := hHeld2; clear hHeld2
          (try simp only [Act.put, List.setIfInBounds_toArray, List.set_cons_zero, List.set_cons_succ])
          refine wpAnyH_take (i := 9) (oi := ⟨some 32, _, _, _, _, _⟩) (v := ?ka4x1x7xv9) rfl (by kernel_rfl) (by kernel_rfl) (by kernel_rfl) (fun _ _ _ h => h) (Or.inl ⟨by rfl, ?ka4x1x7xhy9⟩) hHeld ?ka4x1x7xr9
          case ka4x1x7xhy9 => (intro w hSw; (try dsimp only at hSw); go_simp; (try with_reducible rfl))
          (try simp only [Act.put, List.setIfInBounds_toArray, List.set_cons_zero, List.set_cons_succ])
          refine wpAnyH_ready (rs := [5]) (by kernel_rfl) (by simp) ?ka4x1x7xc5
          refine AllReadyH.cons (o := ⟨some 28, _, _, _, _, _⟩) rfl (fun K hK => ?ka4x1x7xst5) AllReadyH.nil
          go_simp
          (refine (CloneR_any (HCR.out.below KN.toBelow) (by rw [← HNR.out]; omega)).mono ?_; rintro e wx ⟨v2, ol2, rfl, O1, K2⟩; obtain ⟨a2, n2, c2, rfl, hn2⟩ := O1.form4; have HO2 := Lib.hid O1; have HN2 := Lib.hid hn2; replace KN := (KN.call0 K2).perm List.perm_append_comm; simp only [List.cons_append, List.nil_append, List.append_assoc] at KN; clear K2 O1 hn2)
          refine hK.out _ _ ?ka4x1x7xk5 (fun hHeld2 => ?ka4x1x7xm5)
          case ka4x1x7xk5 => exact trivial
          clear hK K hHeld
          have hHeld := hHeld2; clear hHeld2
          (try simp only [Act.put, List.setIfInBounds_toArray, List.set_cons_zero, List.set_cons_succ])
          refine wpAnyH_ready (rs := [8]) (by kernel_rfl) (by simp) ?ka4x1x7xc8
          refine AllReadyH.cons (o := ⟨some 31, _, _, _, _, _⟩) rfl (fun K hK => ?ka4x1x7xst8) AllReadyH.nil
          go_simp
          (refine (Clone_any (HCO.out.below KN.toBelow) (by rw [← HNO.out]; omega)).mono ?_; rintro e wx ⟨v3, ol3, rfl, O1, K2, _⟩; obtain ⟨a3, n3, c3, rfl, hn3⟩ := O1.form4; have HO3 := Lib.hid O1; have HN3 := Lib.hid hn3; replace KN := (KN.call0 K2).perm List.perm_append_comm; simp only [List.cons_append, List.nil_append, List.append_assoc] at KN; clear K2 O1 hn3)
          refine hK.out _ _ ?ka4x1x7xk8 (fun hHeld2 => ?ka4x1x7xm8)
          case ka4x1x7xk8 => exact trivial
          clear hK K hHeld
          have hHeld := hHeld2; clear hHeld2
          (try simp only [Act.put, List.setIfInBounds_toArray, List.set_cons_zero, List.set_cons_succ])
          refine wpAnyH_ready (rs := [10]) (by kernel_rfl) (by simp) ?ka4x1x7xc10
          refine AllReadyH.cons (o := ⟨none, _, _, _, _, _⟩) rfl (fun K hK => ?ka4x1x7xst10) AllReadyH.nil
          (rw [if_pos (by rfl)]; refine wp_kn_store1 KN 22 _ _ rfl g3 0 rfl (.slice a1 n1 c1) rfl rfl _ 25 (by repeat (first | exact Repl.here | apply Repl.there)) (by (try simp only [Array.size_setIfInBounds, putL_size]); first | exact Nat.le_of_ble_eq_true rfl | (simp; omega)) (by kernel_rfl) (by rfl) ?_; clear KN; intro wx KN)
          refine hK.out _ _ ?ka4x1x7xk10 (fun hHeld2 => ?ka4x1x7xm10)
          case ka4x1x7xk10 => exact trivial
          clear hK K hHeld
          have hHeld := hHeld2; clear hHeld2
          (try simp only [Act.put, List.setIfInBounds_toArray, List.set_cons_zero, List.set_cons_succ])
          refine wpAnyH_take (i := 11) (oi := ⟨some 33, _, _, _, _, _⟩) (v := ?ka4x1x7xv11) rfl (by kernel_rfl) (by kernel_rfl) (by kernel_rfl) (fun _ _ _ h => h) (Or.inl ⟨by rfl, ?ka4x1x7xhy11⟩) hHeld ?ka4x1x7xr11
          case ka4x1x7xhy11 => (intro w hSw; (try dsimp only at hSw); go_simp; (try with_reducible rfl))
          (try simp only [Act.put, List.setIfInBounds_toArray, List.set_cons_zero, List.set_cons_succ])
          refine wpAnyH_ready (rs := [12]) (by kernel_rfl) (by simp) ?ka4x1x7xc12
          refine AllReadyH.cons (o := ⟨none, _, _, _, _, _⟩) rfl (fun K hK => ?ka4x1x7xst12) AllReadyH.nil
          (rw [if_pos (by rfl)]; refine wp_kn_store1 KN 23 _ _ rfl g3 3 rfl (.slice a2 n2 c2) rfl rfl _ 25 (by repeat (first | exact Repl.here | apply Repl.there)) (by (try simp only [Array.size_setIfInBounds, putL_size]); first | exact Nat.le_of_ble_eq_true rfl | (simp; omega)) (by kernel_rfl) (by rfl) ?_; clear KN; intro wx KN)
          refine hK.out _ _ ?ka4x1x7xk12 (fun hHeld2 => ?ka4x1x7xm12)
          case ka4x1x7xk12 => exact trivial
          clear hK K hHeld
          have hHeld := hHeld2; clear hHeld2
          (try simp only [Act.put, List.setIfInBounds_toArray, List.set_cons_zero, List.set_cons_succ])
          refine wpAnyH_take (i := 13) (oi := ⟨some 34, _, _, _, _, _⟩) (v := ?ka4x1x7xv13) rfl (by kernel_rfl) (by kernel_rfl) (by kernel_rfl) (fun _ _ _ h => h) (Or.inl ⟨by rfl, ?ka4x1x7xhy13⟩) hHeld ?ka4x1x7xr13
          case ka4x1x7xhy13 => (intro w hSw; (try dsimp only at hSw); go_simp; (try with_reducible rfl))
          (try simp only [Act.put, List.setIfInBounds_toArray, List.set_cons_zero, List.set_cons_succ])
          refine wpAnyH_ready (rs := [14]) (by kernel_rfl) (by simp) ?ka4x1x7xc14
          refine AllReadyH.cons (o := ⟨none, _, _, _, _, _⟩) rfl (fun K hK => ?ka4x1x7xst14) AllReadyH.nil
          (rw [if_pos (by rfl)]; refine wp_kn_store1 KN 22 _ _ rfl g3 4 rfl (.slice a3 n3 c3) rfl rfl _ 25 (by repeat (first | exact Repl.here | apply Repl.there)) (by (try simp only [Array.size_setIfInBounds, putL_size]); first | exact Nat.le_of_ble_eq_true rfl | (simp; omega)) (by kernel_rfl) (by rfl) ?_; clear KN; intro wx KN)
          refine hK.out _ _ ?ka4x1x7xk14 (fun hHeld2 => ?ka4x1x7xm14)
          case ka4x1x7xk14 => exact trivial
          clear hK K hHeld
          have hHeld := hHeld2; clear hHeld2
          (try simp only [Act.put, List.setIfInBounds_toArray, List.set_cons_zero, List.set_cons_succ])
          refine wpAnyH_done (by kernel_rfl) ?ka4x1x7xdone _
          replace KN := KN.as_ g3 #[.slice a1 n1 c1, .int .i64 (sm : Int), .int .i64 (sn : Int), .slice a2 n2 c2, .slice a3 n3 c3] (by repeat (first | exact Repl.here | apply Repl.there)) (by kernel_rfl)
          go_wp2_with fail
          go_meet
          case rel =>
          have h1 := HN1.out
          have h2 := HN2.out
          have h3 := HN3.out
          rw [List.length_map] at h1 h3
          unfold regRows at h2
          rw [List.length_map] at h2
          subst h1
          subst h2
          subst h3
          exact ⟨a1, a2, a3, c1, c2, c3, ol1, ol2, ol3, HO1.out, HO2.out, HO3.out, KN⟩
      case ka4xst7 =>
        (rw [if_pos (by rfl)]; refine wp_kn_load1 KN 22 _ rfl g3 4 rfl _ 25 (by repeat (first | exact Has.here | refine Has.there ?_)) (.slice oa no oc) rfl _ Tryz.underlying22 rfl ?_)
        refine hK.out _ _ ?ka4x7xk7 (fun hHeld2 => ?ka4x7xm7)
        case ka4x7xk7 => exact trivial
        clear hK K hHeld
        have hHeld := hHeld2; clear hHeld2
        (try simp only [Act.put, List.setIfInBounds_toArray, List.set_cons_zero, List.set_cons_succ])
        refine wpAnyH_ready (rs := [1]) (by kernel_rfl) (by simp) ?ka4x7xc1
        refine AllReadyH.cons (o := ⟨some 24, _, _, _, _, _⟩) rfl (fun K hK => ?ka4x7xst1) AllReadyH.nil
        (rw [if_pos (by rfl)]; refine wp_kn_load1 KN 22 _ rfl g3 0 rfl _ 25 (by repeat (first | exact Has.here | refine Has.there ?_)) (.slice wa nw wc) rfl _ Tryz.underlying22 rfl ?_)
        refine hK.out _ _ ?ka4x7xk1 (fun hHeld2 => ?ka4x7xm1)
        case ka4x7xk1 => exact trivial
        clear hK K hHeld
        have hHeld := hHeld2; clear hHeld2
        (try simp only [Act.put, List.setIfInBounds_toArray, List.set_cons_zero, List.set_cons_succ])
        refine wpAnyH_ready (rs := [2]) (by kernel_rfl) (by simp) ?ka4x7xc2
        refine AllReadyH.cons (o := ⟨some 25, _, _, _, _, _⟩) rfl (fun K hK => ?ka4x7xst2) AllReadyH.nil
        go_simp
        (refine (Clone_any (HCW.out.below KN.toBelow) (by rw [← HNW.out]; omega)).mono ?_; rintro e wx ⟨v1, ol1, rfl, O1, K2, _⟩; obtain ⟨a1, n1, c1, rfl, hn1⟩ := O1.form4; have HO1 := Lib.hid O1; have HN1 := Lib.hid hn1; replace KN := (KN.call0 K2).perm List.perm_append_comm; simp only [List.cons_append, List.nil_append, List.append_assoc] at KN; clear K2 O1 hn1)
        refine hK.out _ _ ?ka4x7xk2 (fun hHeld2 => ?ka4x7xm2)
        case ka4x7xk2 => exact trivial
        clear hK K hHeld
        have hHeld := hHeld2; clear hHeld2
        (try simp only [Act.put, List.setIfInBounds_toArray, List.set_cons_zero, List.set_cons_succ])
        refine wpAnyH_take (i := 9) (oi := ⟨some 32, _, _, _, _, _⟩) (v := ?ka4x7xv9) rfl (by kernel_rfl) (by kernel_rfl) (by kernel_rfl) (fun _ _ _ h => h) (Or.inl ⟨by rfl, ?ka4x7xhy9⟩) hHeld ?ka4x7xr9
        case ka4x7xhy9 => (intro w hSw; (try dsimp only at hSw); go_simp; (try with_reducible rfl))
        (try simp only [Act.put, List.setIfInBounds_toArray, List.set_cons_zero, List.set_cons_succ])
        refine wpAnyH_ready (rs := [5]) (by kernel_rfl) (by simp) ?ka4x7xc5
        refine AllReadyH.cons (o := ⟨some 28, _, _, _, _, _⟩) rfl (fun K hK => ?ka4x7xst5) AllReadyH.nil
        go_simp
        (refine (CloneR_any (HCR.out.below KN.toBelow) (by rw [← HNR.out]; omega)).mono ?_; rintro e wx ⟨v2, ol2, rfl, O1, K2⟩; obtain ⟨a2, n2, c2, rfl, hn2⟩ := O1.form4; have HO2 := Lib.hid O1; have HN2 := Lib.hid hn2; replace KN := (KN.call0 K2).perm List.perm_append_comm; simp only [List.cons_append, List.nil_append, List.append_assoc] at KN; clear K2 O1 hn2)
        refine hK.out _ _ ?ka4x7xk5 (fun hHeld2 => ?ka4x7xm5)
        case ka4x7xk5 => exact trivial
        clear hK K hHeld
        have hHeld := hHeld2; clear hHeld2
        (try simp only [Act.put, List.setIfInBounds_toArray, List.set_cons_zero, List.set_cons_succ])
        refine wpAnyH_ready (rs := [8]) (by kernel_rfl) (by simp) ?ka4x7xc8
        refine AllReadyH.cons (o := ⟨some 31, _, _, _, _, _⟩) rfl (fun K hK => ?ka4x7xst8) AllReadyH.nil
        go_simp
        (refine (Clone_any (HCO.out.below KN.toBelow) (by rw [← HNO.out]; omega)).mono ?_; rintro e wx ⟨v3, ol3, rfl, O1, K2, _⟩; obtain ⟨a3, n3, c3, rfl, hn3⟩ := O1.form4; have HO3 := Lib.hid O1; have HN3 := Lib.hid hn3; replace KN := (KN.call0 K2).perm List.perm_append_comm; simp only [List.cons_append, List.nil_append, List.append_assoc] at KN; clear K2 O1 hn3)
        refine hK.out _ _ ?ka4x7xk8 (fun hHeld2 => ?ka4x7xm8)
        case ka4x7xk8 => exact trivial
        clear hK K hHeld
        have hHeld := hHeld2; clear hHeld2
        (try simp only [Act.put, List.setIfInBounds_toArray, List.set_cons_zero, List.set_cons_succ])
        refine wpAnyH_ready (rs := [10]) (by kernel_rfl) (by simp) ?ka4x7xc10
        refine AllReadyH.cons (o := ⟨none, _, _, _, _, _⟩) rfl (fun K hK => ?ka4x7xst10) AllReadyH.nil
        (rw [if_pos (by rfl)]; refine wp_kn_store1 KN 22 _ _ rfl g3 0 rfl (.slice a1 n1 c1) rfl rfl _ 25 (by repeat (first | exact Repl.here | apply Repl.there)) (by (try simp only [Array.size_setIfInBounds, putL_size]); first | exact Nat.le_of_ble_eq_true rfl | (simp; omega)) (by kernel_rfl) (by rfl) ?_; clear KN; intro wx KN)
        refine hK.out _ _ ?ka4x7xk10 (fun hHeld2 => ?ka4x7xm10)
        case ka4x7xk10 => exact trivial
        clear hK K hHeld
        have hHeld := hHeld2; clear hHeld2
        (try simp only [Act.put, List.setIfInBounds_toArray, List.set_cons_zero, List.set_cons_succ])
        refine wpAnyH_take (i := 11) (oi := ⟨some 33, _, _, _, _, _⟩) (v := ?ka4x7xv11) rfl (by kernel_rfl) (by kernel_rfl) (by kernel_rfl) (fun _ _ _ h => h) (Or.inl ⟨by rfl, ?ka4x7xhy11⟩) hHeld ?ka4x7xr11
        case ka4x7xhy11 => (intro w hSw; (try dsimp only at hSw); go_simp; (try with_reducible rfl))
        (try simp only [Act.put, List.setIfInBounds_toArray, List.set_cons_zero, List.set_cons_succ])
        refine wpAnyH_ready (rs := [12]) (by kernel_rfl) (by simp) ?ka4x7xc12
        refine AllReadyH.cons (o := ⟨none, _, _, _, _, _⟩) rfl (fun K hK => ?ka4x7xst12) AllReadyH.nil
        (rw [if_pos (by rfl)]; refine wp_kn_store1 KN 23 _ _ rfl g3 3 rfl (.slice a2 n2 c2) rfl rfl _ 25 (by repeat (first | exact Repl.here | apply Repl.there)) (by (try simp only [Array.size_setIfInBounds, putL_size]); first | exact Nat.le_of_ble_eq_true rfl | (simp; omega)) (by kernel_rfl) (by rfl) ?_; clear KN; intro wx KN)
        refine hK.out _ _ ?ka4x7xk12 (fun hHeld2 => ?ka4x7xm12)
        case ka4x7xk12 => exact trivial
        clear hK K hHeld
        have hHeld := hHeld2; clear hHeld2
        (try simp only [Act.put, List.setIfInBounds_toArray, List.set_cons_zero, List.set_cons_succ])
        refine wpAnyH_take (i := 13) (oi := ⟨some 34, _, _, _, _, _⟩) (v := ?ka4x7xv13) rfl (by kernel_rfl) (by kernel_rfl) (by kernel_rfl) (fun _ _ _ h => h) (Or.inl ⟨by rfl, ?ka4x7xhy13⟩) hHeld ?ka4x7xr13
        case ka4x7xhy13 => (intro w hSw; (try dsimp only at hSw); go_simp; (try with_reducible rfl))
        (try simp only [Act.put, List.setIfInBounds_toArray, List.set_cons_zero, List.set_cons_succ])
        refine wpAnyH_ready (rs := [14]) (by kernel_rfl) (by simp) ?ka4x7xc14
        refine AllReadyH.cons (o := ⟨none, _, _, _, _, _⟩) rfl (fun K hK => ?ka4x7xst14) AllReadyH.nil
        (rw [if_pos (by rfl)]; refine wp_kn_store1 KN 22 _ _ rfl g3 4 rfl (.slice a3 n3 c3) rfl rfl _ 25 (by repeat (first | exact Repl.here | apply Repl.there)) (by (try simp only [Array.size_setIfInBounds, putL_size]); first | exact Nat.le_of_ble_eq_true rfl | (simp; omega)) (by kernel_rfl) (by rfl) ?_; clear KN; intro wx KN)
        refine hK.out _ _ ?ka4x7xk14 (fun hHeld2 => ?ka4x7xm14)
        case ka4x7xk14 => exact trivial
        clear hK K hHeld
        have hHeld := hHeld2; clear hHeld2
        (try simp only [Act.put, List.setIfInBounds_toArray, List.set_cons_zero, List.set_cons_succ])
        refine wpAnyH_done (by kernel_rfl) ?ka4x7xdone _
        replace KN := KN.as_ g3 #[.slice a1 n1 c1, .int .i64 (sm : Int), .int .i64 (sn : Int), .slice a2 n2 c2, .slice a3 n3 c3] (by repeat (first | exact Repl.here | apply Repl.there)) (by kernel_rfl)
        go_wp2_with fail
        go_meet
        case rel =>
        have h1 := HN1.out
        have h2 := HN2.out
        have h3 := HN3.out
        rw [List.length_map] at h1 h3
        unfold regRows at h2
        rw [List.length_map] at h2
        subst h1
        subst h2
        subst h3
        exact ⟨a1, a2, a3, c1, c2, c3, ol1, ol2, ol3, HO1.out, HO2.out, HO3.out, KN⟩
    case kast7 =>
      (rw [if_pos (by rfl)]; refine wp_kn_load1 KN 22 _ rfl g3 4 rfl _ 25 (by repeat (first | exact Has.here | refine Has.there ?_)) (.slice oa no oc) rfl _ Tryz.underlying22 rfl ?_)
      refine hK.out _ _ ?ka7xk7 (fun hHeld2 => ?ka7xm7)
      case ka7xk7 => exact trivial
      clear hK K hHeld
      have hHeld := hHeld2; clear hHeld2
      (try simp only [Act.put, List.setIfInBounds_toArray, List.set_cons_zero, List.set_cons_succ])
      refine wpAnyH_ready (rs := [1, 4]) (by kernel_rfl) (by simp) ?ka7xc1_4
      refine (AllReadyH.cons (o := ⟨some 24, _, _, _, _, _⟩) rfl (fun K hK => ?ka7xst1) (AllReadyH.cons (o := ⟨some 27, _, _, _, _, _⟩) rfl (fun K hK => ?ka7xst4) AllReadyH.nil))
      case ka7xst1 =>
        (rw [if_pos (by rfl)]; refine wp_kn_load1 KN 22 _ rfl g3 0 rfl _ 25 (by repeat (first | exact Has.here | refine Has.there ?_)) (.slice wa nw wc) rfl _ Tryz.underlying22 rfl ?_)
        refine hK.out _ _ ?ka7x1xk1 (fun hHeld2 => ?ka7x1xm1)
        case ka7x1xk1 => exact trivial
        clear hK K hHeld
        have hHeld := hHeld2; clear hHeld2
        (try simp only [Act.put, List.setIfInBounds_toArray, List.set_cons_zero, List.set_cons_succ])
        refine wpAnyH_ready (rs := [2, 4]) (by kernel_rfl) (by simp) ?ka7x1xc2_4
        refine (AllReadyH.cons (o := ⟨some 25, _, _, _, _, _⟩) rfl (fun K hK => ?ka7x1xst2) (AllReadyH.cons (o := ⟨some 27, _, _, _, _, _⟩) rfl (fun K hK => ?ka7x1xst4) AllReadyH.nil))
        case ka7x1xst2 =>
          go_simp
          (refine (Clone_any (HCW.out.below KN.toBelow) (by rw [← HNW.out]; omega)).mono ?_; rintro e wx ⟨v1, ol1, rfl, O1, K2, _⟩; obtain ⟨a1, n1, c1, rfl, hn1⟩ := O1.form4; have HO1 := Lib.hid O1; have HN1 := Lib.hid hn1; replace KN := (KN.call0 K2).perm List.perm_append_comm; simp only [List.cons_append, List.nil_append, List.append_assoc] at KN; clear K2 O1 hn1)
          refine hK.out _ _ ?ka7x1x2xk2 (fun hHeld2 => ?ka7x1x2xm2)
          case ka7x1x2xk2 => exact trivial
          clear hK K hHeld
          have hHeld := hHeld2; clear hHeld2
          (try simp only [Act.put, List.setIfInBounds_toArray, List.set_cons_zero, List.set_cons_succ])
          refine wpAnyH_ready (rs := [4]) (by kernel_rfl) (by simp) ?ka7x1x2xc4
          refine AllReadyH.cons (o := ⟨some 27, _, _, _, _, _⟩) rfl (fun K hK => ?ka7x1x2xst4) AllReadyH.nil
          (rw [if_pos (by rfl)]; refine wp_kn_load1 KN 23 _ rfl g3 3 rfl _ 25 (by repeat (first | exact Has.here | refine Has.there ?_)) (.slice ra no rc) rfl _ Tryz.underlying23 rfl ?_)
          refine hK.out _ _ ?ka7x1x2xk4 (fun hHeld2 => ?ka7x1x2xm4)
          case ka7x1x2xk4 => exact trivial
          clear hK K hHeld
          have hHeld := hHeld2; clear hHeld2
          (try simp only [Act.put, List.setIfInBounds_toArray, List.set_cons_zero, List.set_cons_succ])
          refine wpAnyH_take (i := 9) (oi := ⟨some 32, _, _, _, _, _⟩) (v := ?ka7x1x2xv9) rfl (by kernel_rfl) (by kernel_rfl) (by kernel_rfl) (fun _ _ _ h => h) (Or.inl ⟨by rfl, ?ka7x1x2xhy9⟩) hHeld ?ka7x1x2xr9
          case ka7x1x2xhy9 => (intro w hSw; (try dsimp only at hSw); go_simp; (try with_reducible rfl))
          (try simp only [Act.put, List.setIfInBounds_toArray, List.set_cons_zero, List.set_cons_succ])
          refine wpAnyH_ready (rs := [5]) (by kernel_rfl) (by simp) ?ka7x1x2xc5
          refine AllReadyH.cons (o := ⟨some 28, _, _, _, _, _⟩) rfl (fun K hK => ?ka7x1x2xst5) AllReadyH.nil
          go_simp
          (refine (CloneR_any (HCR.out.below KN.toBelow) (by rw [← HNR.out]; omega)).mono ?_; rintro e wx ⟨v2, ol2, rfl, O1, K2⟩; obtain ⟨a2, n2, c2, rfl, hn2⟩ := O1.form4; have HO2 := Lib.hid O1; have HN2 := Lib.hid hn2; replace KN := (KN.call0 K2).perm List.perm_append_comm; simp only [List.cons_append, List.nil_append, List.append_assoc] at KN; clear K2 O1 hn2)
          refine hK.out _ _ ?ka7x1x2xk5 (fun hHeld2 => ?ka7x1x2xm5)
          case ka7x1x2xk5 => exact trivial
          clear hK K hHeld
          have hHeld := hHeld2; clear hHeld2
          (try simp only [Act.put, List.setIfInBounds_toArray, List.set_cons_zero, List.set_cons_succ])
          refine wpAnyH_ready (rs := [8]) (by kernel_rfl) (by simp) ?ka7x1x2xc8
          refine AllReadyH.cons (o := ⟨some 31, _, _, _, _, _⟩) rfl (fun K hK => ?ka7x1x2xst8) AllReadyH.nil
          go_simp
          (refine (Clone_any (HCO.out.below KN.toBelow) (by rw [← HNO.out]; omega)).mono ?_; rintro e wx ⟨v3, ol3, rfl, O1, K2, _⟩; obtain ⟨a3, n3, c3, rfl, hn3⟩ := O1.form4; have HO3 := Lib.hid O1; have HN3 := Lib.hid hn3; replace KN := (KN.call0 K2).perm List.perm_append_comm; simp only [List.cons_append, List.nil_append, List.append_assoc] at KN; clear K2 O1 hn3)
          refine hK.out _ _ ?ka7x1x2xk8 (fun hHeld2 => ?ka7x1x2xm8)
          case ka7x1x2xk8 => exact trivial
          clear hK K hHeld
          have hHeld := hHeld2; clear hHeld2
          (try simp only [Act.put, List.setIfInBounds_toArray, List.set_cons_zero, List.set_cons_succ])
          refine wpAnyH_ready (rs := [10]) (by kernel_rfl) (by simp) ?ka7x1x2xc10
          refine AllReadyH.cons (o := ⟨none, _, _, _, _, _⟩) rfl (fun K hK => ?ka7x1x2xst10) AllReadyH.nil
          (rw [if_pos (by rfl)]; refine wp_kn_store1 KN 22 _ _ rfl g3 0 rfl (.slice a1 n1 c1) rfl rfl _ 25 (by repeat (first | exact Repl.here | apply Repl.there)) (by (try simp only [Array.size_setIfInBounds, putL_size]); first | exact Nat.le_of_ble_eq_true rfl | (simp; omega)) (by kernel_rfl) (by rfl) ?_; clear KN; intro wx KN)
          refine hK.out _ _ ?ka7x1x2xk10 (fun hHeld2 => ?ka7x1x2xm10)
          case ka7x1x2xk10 => exact trivial
          clear hK K hHeld
          have hHeld := hHeld2; clear hHeld2
          (try simp only [Act.put, List.setIfInBounds_toArray, List.set_cons_zero, List.set_cons_succ])
          refine wpAnyH_take (i := 11) (oi := ⟨some 33, _, _, _, _, _⟩) (v := ?ka7x1x2xv11) rfl (by kernel_rfl) (by kernel_rfl) (by kernel_rfl) (fun _ _ _ h => h) (Or.inl ⟨by rfl, ?ka7x1x2xhy11⟩) hHeld ?ka7x1x2xr11
          case ka7x1x2xhy11 => (intro w hSw; (try dsimp only at hSw); go_simp; (try with_reducible rfl))
          (try simp only [Act.put, List.setIfInBounds_toArray, List.set_cons_zero, List.set_cons_succ])
          refine wpAnyH_ready (rs := [12]) (by kernel_rfl) (by simp) ?ka7x1x2xc12
          refine AllReadyH.cons (o := ⟨none, _, _, _, _, _⟩) rfl (fun K hK => ?ka7x1x2xst12) AllReadyH.nil
          (rw [if_pos (by rfl)]; refine wp_kn_store1 KN 23 _ _ rfl g3 3 rfl (.slice a2 n2 c2) rfl rfl _ 25 (by repeat (first | exact Repl.here | apply Repl.there)) (by (try simp only [Array.size_setIfInBounds, putL_size]); first | exact Nat.le_of_ble_eq_true rfl | (simp; omega)) (by kernel_rfl) (by rfl) ?_; clear KN; intro wx KN)
          refine hK.out _ _ ?ka7x1x2xk12 (fun hHeld2 => ?ka7x1x2xm12)
          case ka7x1x2xk12 => exact trivial
          clear hK K hHeld
          have hHeld := hHeld2; clear hHeld2
          (try simp only [Act.put, List.setIfInBounds_toArray, List.set_cons_zero, List.set_cons_succ])
          refine wpAnyH_take (i := 13) (oi := ⟨some 34, _, _, _, _, _⟩) (v := ?ka7x1x2xv13) rfl (by kernel_rfl) (by kernel_rfl) (by kernel_rfl) (fun _ _ _ h => h) (Or.inl ⟨by rfl, ?ka7x1x2xhy13⟩) hHeld ?ka7x1x2xr13
          case ka7x1x2xhy13 => (intro w hSw; (try dsimp only at hSw); go_simp; (try with_reducible rfl))
          (try simp only [Act.put, List.setIfInBounds_toArray, List.set_cons_zero, List.set_cons_succ])
          refine wpAnyH_ready (rs := [14]) (by kernel_rfl) (by simp) ?ka7x1x2xc14
          refine AllReadyH.cons (o := ⟨none, _, _, _, _, _⟩) rfl (fun K hK => ?ka7x1x2xst14) AllReadyH.nil
          (rw [if_pos (by rfl)]; refine wp_kn_store1 KN 22 _ _ rfl g3 4 rfl (.slice a3 n3 c3) rfl rfl _ 25 (by repeat (first | exact Repl.here | apply Repl.there)) (by (try simp only [Array.size_setIfInBounds, putL_size]); first | exact Nat.le_of_ble_eq_true rfl | (simp; omega)) (by kernel_rfl) (by rfl) ?_; clear KN; intro wx KN)
          refine hK.out _ _ ?ka7x1x2xk14 (fun hHeld2 => ?ka7x1x2xm14)
          case ka7x1x2xk14 => exact trivial
          clear hK K hHeld
          have hHeld := hHeld2; clear hHeld2
          (try simp only [Act.put, List.setIfInBounds_toArray, List.set_cons_zero, List.set_cons_succ])
          refine wpAnyH_done (by kernel_rfl) ?ka7x1x2xdone _
          replace KN := KN.as_ g3 #[.slice a1 n1 c1, .int .i64 (sm : Int), .int .i64 (sn : Int), .slice a2 n2 c2, .slice a3 n3 c3] (by repeat (first | exact Repl.here | apply Repl.there)) (by kernel_rfl)
          go_wp2_with fail
          go_meet
          case rel =>
          have h1 := HN1.out
          have h2 := HN2.out
          have h3 := HN3.out
          rw [List.length_map] at h1 h3
          unfold regRows at h2
          rw [List.length_map] at h2
          subst h1
          subst h2
          subst h3
          exact ⟨a1, a2, a3, c1, c2, c3, ol1, ol2, ol3, HO1.out, HO2.out, HO3.out, KN⟩
        case ka7x1xst4 =>
          (rw [if_pos (by rfl)]; refine wp_kn_load1 KN 23 _ rfl g3 3 rfl _ 25 (by repeat (first | exact Has.here | refine Has.there ?_)) (.slice ra no rc) rfl _ Tryz.underlying23 rfl ?_)
          refine hK.out _ _ ?ka7x1x4xk4 (fun hHeld2 => ?ka7x1x4xm4)
          case ka7x1x4xk4 => exact trivial
          clear hK K hHeld
          have hHeld := hHeld2; clear hHeld2
          (try simp only [Act.put, List.setIfInBounds_toArray, List.set_cons_zero, List.set_cons_succ])
          refine wpAnyH_ready (rs := [2]) (by kernel_rfl) (by simp) ?ka7x1x4xc2
          refine AllReadyH.cons (o := ⟨some 25, _, _, _, _, _⟩) rfl (fun K hK => ?ka7x1x4xst2) AllReadyH.nil
          go_simp
          (refine (Clone_any (HCW.out.below KN.toBelow) (by rw [← HNW.out]; omega)).mono ?_; rintro e wx ⟨v1, ol1, rfl, O1, K2, _⟩; obtain ⟨a1, n1, c1, rfl, hn1⟩ := O1.form4; have HO1 := Lib.hid O1; have HN1 := Lib.hid hn1; replace KN := (KN.call0 K2).perm List.perm_append_comm; simp only [List.cons_append, List.nil_append, List.append_assoc] at KN; clear K2 O1 hn1)
          refine hK.out _ _ ?ka7x1x4xk2 (fun hHeld2 => ?ka7x1x4xm2)
          case ka7x1x4xk2 => exact trivial
          clear hK K hHeld
          have hHeld := hHeld2; clear hHeld2
          (try simp only [Act.put, List.setIfInBounds_toArray, List.set_cons_zero, List.set_cons_succ])
          refine wpAnyH_take (i := 9) (oi := ⟨some 32, _, _, _, _, _⟩) (v := ?ka7x1x4xv9) rfl (by kernel_rfl) (by kernel_rfl) (by kernel_rfl) (fun _ _ _ h => h) (Or.inl ⟨by rfl, ?ka7x1x4xhy9⟩) hHeld ?ka7x1x4xr9
          case ka7x1x4xhy9 => (intro w hSw; (try dsimp only at hSw); go_simp; (try with_reducible rfl))
          (try simp only [Act.put, List.setIfInBounds_toArray, List.set_cons_zero, List.set_cons_succ])
          refine wpAnyH_ready (rs := [5]) (by kernel_rfl) (by simp) ?ka7x1x4xc5
          refine AllReadyH.cons (o := ⟨some 28, _, _, _, _, _⟩) rfl (fun K hK => ?ka7x1x4xst5) AllReadyH.nil
          go_simp
          (refine (CloneR_any (HCR.out.below KN.toBelow) (by rw [← HNR.out]; omega)).mono ?_; rintro e wx ⟨v2, ol2, rfl, O1, K2⟩; obtain ⟨a2, n2, c2, rfl, hn2⟩ := O1.form4; have HO2 := Lib.hid O1; have HN2 := Lib.hid hn2; replace KN := (KN.call0 K2).perm List.perm_append_comm; simp only [List.cons_append, List.nil_append, List.append_assoc] at KN; clear K2 O1 hn2)
          refine hK.out _ _ ?ka7x1x4xk5 (fun hHeld2 => ?ka7x1x4xm5)
          case ka7x1x4xk5 => exact trivial
          clear hK K hHeld
          have hHeld := hHeld2; clear hHeld2
          (try simp only [Act.put, List.setIfInBounds_toArray, List.set_cons_zero, List.set_cons_succ])
          refine wpAnyH_ready (rs := [8]) (by kernel_rfl) (by simp) ?ka7x1x4xc8
          refine AllReadyH.cons (o := ⟨some 31, _, _, _, _, _⟩) rfl (fun K hK => ?ka7x1x4xst8) AllReadyH.nil
          go_simp
          (refine (Clone_any (HCO.out.below KN.toBelow) (by rw [← HNO.out]; omega)).mono ?_; rintro e wx ⟨v3, ol3, rfl, O1, K2, _⟩; obtain ⟨a3, n3, c3, rfl, hn3⟩ := O1.form4; have HO3 := Lib.hid O1; have HN3 := Lib.hid hn3; replace KN := (KN.call0 K2).perm List.perm_append_comm; simp only [List.cons_append, List.nil_append, List.append_assoc] at KN; clear K2 O1 hn3)
          refine hK.out _ _ ?ka7x1x4xk8 (fun hHeld2 => ?ka7x1x4xm8)
          case ka7x1x4xk8 => exact trivial
          clear hK K hHeld
          have hHeld := hHeld2; clear hHeld2
          (try simp only [Act.put, List.setIfInBounds_toArray, List.set_cons_zero, List.set_cons_succ])
          refine wpAnyH_ready (rs := [10]) (by kernel_rfl) (by simp) ?ka7x1x4xc10
          refine AllReadyH.cons (o := ⟨none, _, _, _, _, _⟩) rfl (fun K hK => ?ka7x1x4xst10) AllReadyH.nil
          (rw [if_pos (by rfl)]; refine wp_kn_store1 KN 22 _ _ rfl g3 0 rfl (.slice a1 n1 c1) rfl rfl _ 25 (by repeat (first | exact Repl.here | apply Repl.there)) (by (try simp only [Array.size_setIfInBounds, putL_size]); first | exact Nat.le_of_ble_eq_true rfl | (simp; omega)) (by kernel_rfl) (by rfl) ?_; clear KN; intro wx KN)
          refine hK.out _ _ ?ka7x1x4xk10 (fun hHeld2 => ?ka7x1x4xm10)
          case ka7x1x4xk10 => exact trivial
          clear hK K hHeld
          have hHeld := hHeld2; clear hHeld2
          (try simp only [Act.put, List.setIfInBounds_toArray, List.set_cons_zero, List.set_cons_succ])
          refine wpAnyH_take (i := 11) (oi := ⟨some 33, _, _, _, _, _⟩) (v := ?ka7x1x4xv11) rfl (by kernel_rfl) (by kernel_rfl) (by kernel_rfl) (fun _ _ _ h => h) (Or.inl ⟨by rfl, ?ka7x1x4xhy11⟩) hHeld ?ka7x1x4xr11
          case ka7x1x4xhy11 => (intro w hSw; (try dsimp only at hSw); go_simp; (try with_reducible rfl))
          (try simp only [Act.put, List.setIfInBounds_toArray, List.set_cons_zero, List.set_cons_succ])
          refine wpAnyH_ready (rs := [12]) (by kernel_rfl) (by simp) ?ka7x1x4xc12
          refine AllReadyH.cons (o := ⟨none, _, _, _, _, _⟩) rfl (fun K hK => ?ka7x1x4xst12) AllReadyH.nil
          (rw [if_pos (by rfl)]; refine wp_kn_store1 KN 23 _ _ rfl g3 3 rfl (.slice a2 n2 c2) rfl rfl _ 25 (by repeat (first | exact Repl.here | apply Repl.there)) (by (try simp only [Array.size_setIfInBounds, putL_size]); first | exact Nat.le_of_ble_eq_true rfl | (simp; omega)) (by kernel_rfl) (by rfl) ?_; clear KN; intro wx KN)
          refine hK.out _ _ ?ka7x1x4xk12 (fun hHeld2 => ?ka7x1x4xm12)
          case ka7x1x4xk12 => exact trivial
          clear hK K hHeld
          have hHeld := hHeld2; clear hHeld2
          (try simp only [Act.put, List.setIfInBounds_toArray, List.set_cons_zero, List.set_cons_succ])
          refine wpAnyH_take (i := 13) (oi := ⟨some 34, _, _, _, _, _⟩) (v := ?ka7x1x4xv13) rfl (by kernel_rfl) (by kernel_rfl) (by kernel_rfl) (fun _ _ _ h => h) (Or.inl ⟨by rfl, ?ka7x1x4xhy13⟩) hHeld ?ka7x1x4xr13
          case ka7x1x4xhy13 => (intro w hSw; (try dsimp only at hSw); go_simp; (try with_reducible rfl))
          (try simp only [Act.put, List.setIfInBounds_toArray, List.set_cons_zero, List.set_cons_succ])
          refine wpAnyH_ready (rs := [14]) (by kernel_rfl) (by simp) ?ka7x1x4xc14
          refine AllReadyH.cons (o := ⟨none, _, _, _, _, _⟩) rfl (fun K hK => ?ka7x1x4xst14) AllReadyH.nil
          (rw [if_pos (by rfl)]; refine wp_kn_store1 KN 22 _ _ rfl g3 4 rfl (.slice a3 n3 c3) rfl rfl _ 25 (by repeat (first | exact Repl.here | apply Repl.there)) (by (try simp only [Array.size_setIfInBounds, putL_size]); first | exact Nat.le_of_ble_eq_true rfl | (simp; omega)) (by kernel_rfl) (by rfl) ?_; clear KN; intro wx KN)
          refine hK.out _ _ ?ka7x1x4xk14 (fun hHeld2 => ?ka7x1x4xm14)
          case ka7x1x4xk14 => exact trivial
          clear hK K hHeld
          have hHeld := hHeld2; clear hHeld2
          (try simp only [Act.put, List.setIfInBounds_toArray, List.set_cons_zero, List.set_cons_succ])
          refine wpAnyH_done (by kernel_rfl) ?ka7x1x4xdone _
          replace KN := KN.as_ g3 #[.slice a1 n1 c1, .int .i64 (sm : Int), .int .i64 (sn : Int), .slice a2 n2 c2, .slice a3 n3 c3] (by repeat (first | exact Repl.here | apply Repl.there)) (by kernel_rfl)
          go_wp2_with fail
          go_meet
          case rel =>
          have h1 := HN1.out
          have h2 := HN2.out
          have h3 := HN3.out
          rw [List.length_map] at h1 h3
          unfold regRows at h2
          rw [List.length_map] at h2
          subst h1
          subst h2
          subst h3
          exact ⟨a1, a2, a3, c1, c2, c3, ol1, ol2, ol3, HO1.out, HO2.out, HO3.out, KN⟩
      case ka7xst4 =>
        (rw [if_pos (by rfl)]; refine wp_kn_load1 KN 23 _ rfl g3 3 rfl _ 25 (by repeat (first | exact Has.here | refine Has.there ?_)) (.slice ra no rc) rfl _ Tryz.underlying23 rfl ?_)
        refine hK.out _ _ ?ka7x4xk4 (fun hHeld2 => ?ka7x4xm4)
        case ka7x4xk4 => exact trivial
        clear hK K hHeld
        have hHeld := hHeld2; clear hHeld2
        (try simp only [Act.put, List.setIfInBounds_toArray, List.set_cons_zero, List.set_cons_succ])
        refine wpAnyH_ready (rs := [1]) (by kernel_rfl) (by simp) ?ka7x4xc1
        refine AllReadyH.cons (o := ⟨some 24, _, _, _, _, _⟩) rfl (fun K hK => ?ka7x4xst1) AllReadyH.nil
        (rw [if_pos (by rfl)]; refine wp_kn_load1 KN 22 _ rfl g3 0 rfl _ 25 (by repeat (first | exact Has.here | refine Has.there ?_)) (.slice wa nw wc) rfl _ Tryz.underlying22 rfl ?_)
        refine hK.out _ _ ?ka7x4xk1 (fun hHeld2 => ?ka7x4xm1)
        case ka7x4xk1 => exact trivial
        clear hK K hHeld
        have hHeld := hHeld2; clear hHeld2
        (try simp only [Act.put, List.setIfInBounds_toArray, List.set_cons_zero, List.set_cons_succ])
        refine wpAnyH_ready (rs := [2]) (by kernel_rfl) (by simp) ?ka7x4xc2
        refine AllReadyH.cons (o := ⟨some 25, _, _, _, _, _⟩) rfl (fun K hK => ?ka7x4xst2) AllReadyH.nil
        go_simp
        (refine (Clone_any (HCW.out.below KN.toBelow) (by rw [← HNW.out]; omega)).mono ?_; rintro e wx ⟨v1, ol1, rfl, O1, K2, _⟩; obtain ⟨a1, n1, c1, rfl, hn1⟩ := O1.form4; have HO1 := Lib.hid O1; have HN1 := Lib.hid hn1; replace KN := (KN.call0 K2).perm List.perm_append_comm; simp only [List.cons_append, List.nil_append, List.append_assoc] at KN; clear K2 O1 hn1)
        refine hK.out _ _ ?ka7x4xk2 (fun hHeld2 => ?ka7x4xm2)
        case ka7x4xk2 => exact trivial
        clear hK K hHeld
        have hHeld := hHeld2; clear hHeld2
        (try simp only [Act.put, List.setIfInBounds_toArray, List.set_cons_zero, List.set_cons_succ])
        refine wpAnyH_take (i := 9) (oi := ⟨some 32, _, _, _, _, _⟩) (v := ?ka7x4xv9) rfl (by kernel_rfl) (by kernel_rfl) (by kernel_rfl) (fun _ _ _ h => h) (Or.inl ⟨by rfl, ?ka7x4xhy9⟩) hHeld ?ka7x4xr9
        case ka7x4xhy9 => (intro w hSw; (try dsimp only at hSw); go_simp; (try with_reducible rfl))
        (try simp only [Act.put, List.setIfInBounds_toArray, List.set_cons_zero, List.set_cons_succ])
        refine wpAnyH_ready (rs := [5]) (by kernel_rfl) (by simp) ?ka7x4xc5
        refine AllReadyH.cons (o := ⟨some 28, _, _, _, _, _⟩) rfl (fun K hK => ?ka7x4xst5) AllReadyH.nil
        go_simp
        (refine (CloneR_any (HCR.out.below KN.toBelow) (by rw [← HNR.out]; omega)).mono ?_; rintro e wx ⟨v2, ol2, rfl, O1, K2⟩; obtain ⟨a2, n2, c2, rfl, hn2⟩ := O1.form4; have HO2 := Lib.hid O1; have HN2 := Lib.hid hn2; replace KN := (KN.call0 K2).perm List.perm_append_comm; simp only [List.cons_append, List.nil_append, List.append_assoc] at KN; clear K2 O1 hn2)
        refine hK.out _ _ ?ka7x4xk5 (fun hHeld2 => ?ka7x4xm5)
        case ka7x4xk5 => exact trivial
        clear hK K hHeld
        have hHeld := hHeld2; clear hHeld2
        (try simp only [Act.put, List.setIfInBounds_toArray, List.set_cons_zero, List.set_cons_succ])
        refine wpAnyH_ready (rs := [8]) (by kernel_rfl) (by simp) ?ka7x4xc8
        refine AllReadyH.cons (o := ⟨some 31, _, _, _, _, _⟩) rfl (fun K hK => ?ka7x4xst8) AllReadyH.nil
        go_simp
        (refine (Clone_any (HCO.out.below KN.toBelow) (by rw [← HNO.out]; omega)).mono ?_; rintro e wx ⟨v3, ol3, rfl, O1, K2, _⟩; obtain ⟨a3, n3, c3, rfl, hn3⟩ := O1.form4; have HO3 := Lib.hid O1; have HN3 := Lib.hid hn3; replace KN := (KN.call0 K2).perm List.perm_append_comm; simp only [List.cons_append, List.nil_append, List.append_assoc] at KN; clear K2 O1 hn3)
        refine hK.out _ _ ?ka7x4xk8 (fun hHeld2 => ?ka7x4xm8)
        case ka7x4xk8 => exact trivial
        clear hK K hHeld
        have hHeld := hHeld2; clear hHeld2
        (try simp only [Act.put, List.setIfInBounds_toArray, List.set_cons_zero, List.set_cons_succ])
        refine wpAnyH_ready (rs := [10]) (by kernel_rfl) (by simp) ?ka7x4xc10
        refine AllReadyH.cons (o := ⟨none, _, _, _, _, _⟩) rfl (fun K hK => ?ka7x4xst10) AllReadyH.nil
        (rw [if_pos (by rfl)]; refine wp_kn_store1 KN 22 _ _ rfl g3 0 rfl (.slice a1 n1 c1) rfl rfl _ 25 (by repeat (first | exact Repl.here | apply Repl.there)) (by (try simp only [Array.size_setIfInBounds, putL_size]); first | exact Nat.le_of_ble_eq_true rfl | (simp; omega)) (by kernel_rfl) (by rfl) ?_; clear KN; intro wx KN)
        refine hK.out _ _ ?ka7x4xk10 (fun hHeld2 => ?ka7x4xm10)
        case ka7x4xk10 => exact trivial
        clear hK K hHeld
        have hHeld := hHeld2; clear hHeld2
        (try simp only [Act.put, List.setIfInBounds_toArray, List.set_cons_zero, List.set_cons_succ])
        refine wpAnyH_take (i := 11) (oi := ⟨some 33, _, _, _, _, _⟩) (v := ?ka7x4xv11) rfl (by kernel_rfl) (by kernel_rfl) (by kernel_rfl) (fun _ _ _ h => h) (Or.inl ⟨by rfl, ?ka7x4xhy11⟩) hHeld ?ka7x4xr11
        case ka7x4xhy11 => (intro w hSw; (try dsimp only at hSw); go_simp; (try with_reducible rfl))
        (try simp only [Act.put, List.setIfInBounds_toArray, List.set_cons_zero, List.set_cons_succ])
        refine wpAnyH_ready (rs := [12]) (by kernel_rfl) (by simp) ?ka7x4xc12
        refine AllReadyH.cons (o := ⟨none, _, _, _, _, _⟩) rfl (fun K hK => ?ka7x4xst12) AllReadyH.nil
        (rw [if_pos (by rfl)]; refine wp_kn_store1 KN 23 _ _ rfl g3 3 rfl (.slice a2 n2 c2) rfl rfl _ 25 (by repeat (first | exact Repl.here | apply Repl.there)) (by (try simp only [Array.size_setIfInBounds, putL_size]); first | exact Nat.le_of_ble_eq_true rfl | (simp; omega)) (by kernel_rfl) (by rfl) ?_; clear KN; intro wx KN)
        refine hK.out _ _ ?ka7x4xk12 (fun hHeld2 => ?ka7x4xm12)
        case ka7x4xk12 => exact trivial
        clear hK K hHeld
        have hHeld := hHeld2; clear hHeld2
        (try simp only [Act.put, List.setIfInBounds_toArray, List.set_cons_zero, List.set_cons_succ])
        refine wpAnyH_take (i := 13) (oi := ⟨some 34, _, _, _, _, _⟩) (v := ?ka7x4xv13) rfl (by kernel_rfl) (by kernel_rfl) (by kernel_rfl) (fun _ _ _ h => h) (Or.inl ⟨by rfl, ?ka7x4xhy13⟩) hHeld ?ka7x4xr13
        case ka7x4xhy13 => (intro w hSw; (try dsimp only at hSw); go_simp; (try with_reducible rfl))
        (try simp only [Act.put, List.setIfInBounds_toArray, List.set_cons_zero, List.set_cons_succ])
        refine wpAnyH_ready (rs := [14]) (by kernel_rfl) (by simp) ?ka7x4xc14
        refine AllReadyH.cons (o := ⟨none, _, _, _, _, _⟩) rfl (fun K hK => ?ka7x4xst14) AllReadyH.nil
        (rw [if_pos (by rfl)]; refine wp_kn_store1 KN 22 _ _ rfl g3 4 rfl (.slice a3 n3 c3) rfl rfl _ 25 (by repeat (first | exact Repl.here | apply Repl.there)) (by (try simp only [Array.size_setIfInBounds, putL_size]); first | exact Nat.le_of_ble_eq_true rfl | (simp; omega)) (by kernel_rfl) (by rfl) ?_; clear KN; intro wx KN)
        refine hK.out _ _ ?ka7x4xk14 (fun hHeld2 => ?ka7x4xm14)
        case ka7x4xk14 => exact trivial
        clear hK K hHeld
        have hHeld := hHeld2; clear hHeld2
        (try simp only [Act.put, List.setIfInBounds_toArray, List.set_cons_zero, List.set_cons_succ])
        refine wpAnyH_done (by kernel_rfl) ?ka7x4xdone _
        replace KN := KN.as_ g3 #[.slice a1 n1 c1, .int .i64 (sm : Int), .int .i64 (sn : Int), .slice a2 n2 c2, .slice a3 n3 c3] (by repeat (first | exact Repl.here | apply Repl.there)) (by kernel_rfl)
        go_wp2_with fail
        go_meet
        case rel =>
        have h1 := HN1.out
        have h2 := HN2.out
        have h3 := HN3.out
        rw [List.length_map] at h1 h3
        unfold regRows at h2
        rw [List.length_map] at h2
        subst h1
        subst h2
        subst h3
        exact ⟨a1, a2, a3, c1, c2, c3, ol1, ol2, ol3, HO1.out, HO2.out, HO3.out, KN⟩
  case rest =>
    obtain ⟨a1, a2, a3, c1, c2, c3, ol1, ol2, ol3, O1, O2, O3, KN⟩ := hcut
    rw [← HNW.out, ← HNR.out, ← HNO.out] at KN
    rw [← HNW.out] at O1
    rw [← HNR.out] at O2
    rw [← HNO.out] at O3
    have HO1 := Lib.hid O1
    have HO2 := Lib.hid O2
    have HO3 := Lib.hid O3
    clear O1 O2 O3
    go_upto_region 4 with fail
    (try go_frame)
    go_cut [6] (fun s6 wz => CutB w g3 (core : Int) #[.slice a1 nw c1, .int .i64 (sm : Int), .int .i64 (sn : Int), .slice a2 no c2, .slice a3 no c3] no (.slice a1 nw c1) (sm : Int) sn (.slice a2 no c2) (.slice a3 no c3) (ol1 ++ (ol2 ++ ol3)) s6 wz)
    case first =>
      replace KN := KN.drew
      refine wp_region_held_drew (S := (fun w' => BlkT w' g3 #[.slice a1 nw c1, .int .i64 (sm : Int), .int .i64 (sn : Int), .slice a2 no c2, .slice a3 no c3] 25)) (by kernel_rfl) ?kbhS (fun hHeld => ?kbrest)
      case kbhS => exact KN.at_ (by repeat (first | exact Has.here | refine Has.there ?_))
      refine wpAnyH_take (i := 0) (oi := ⟨some 35, _, _, _, _, _⟩) (v := ?kbv0) rfl (by kernel_rfl) (by kernel_rfl) (by kernel_rfl) (fun _ _ _ h => h) (Or.inl ⟨by rfl, ?kbhy0⟩) hHeld ?kbr0
      case kbhy0 => (intro w hSw; (try dsimp only at hSw); go_simp; (try with_reducible rfl))
      (try simp only [Act.put, List.setIfInBounds_toArray, List.set_cons_zero, List.set_cons_succ])
      refine wpAnyH_take (i := 1) (oi := ⟨some 36, _, _, _, _, _⟩) (v := (.agg #[.slice a1 nw c1, .int .i64 (sm : Int), .int .i64 (sn : Int), .slice a2 no c2, .slice a3 no c3])) rfl (by kernel_rfl) (by kernel_rfl) (by kernel_rfl) (fun _ _ _ h => h) (kn_yieldsN (by rfl) 25 _ rfl g3 0 rfl _ 25 (fun _ h => h) #[.slice a1 nw c1, .int .i64 (sm : Int), .int .i64 (sn : Int), .slice a2 no c2, .slice a3 no c3] rfl _ Tryz.underlying25 rfl (by kernel_rfl)) hHeld ?kbr1
      (try simp only [Act.put, List.setIfInBounds_toArray, List.set_cons_zero, List.set_cons_succ])
      refine wpAnyH_take (i := 2) (oi := ⟨some 37, _, _, _, _, _⟩) (v := ?kbv2) rfl (by kernel_rfl) (by kernel_rfl) (by kernel_rfl) (fun _ _ _ h => h) (Or.inl ⟨by rfl, ?kbhy2⟩) hHeld ?kbr2
      case kbhy2 => (intro w hSw; (try dsimp only at hSw); go_simp; (try with_reducible rfl))
      (try simp only [Act.put, List.setIfInBounds_toArray, List.set_cons_zero, List.set_cons_succ])
      refine wpAnyH_take (i := 3) (oi := ⟨some 38, _, _, _, _, _⟩) (v := (.int .i64 (sn : Int))) rfl (by kernel_rfl) (by kernel_rfl) (by kernel_rfl) (fun _ _ _ h => h) (kn_yields1 (by rfl) 3 _ rfl g3 2 rfl _ 25 (fun _ h => h) _ rfl _ Tryz.underlying3 rfl) hHeld ?kbr3
      (try simp only [Act.put, List.setIfInBounds_toArray, List.set_cons_zero, List.set_cons_succ])
      refine wpAnyH_take (i := 5) (oi := ⟨some 40, _, _, _, _, _⟩) (v := ?kbv5) rfl (by kernel_rfl) (by kernel_rfl) (by kernel_rfl) (fun _ _ _ h => h) (Or.inl ⟨by rfl, ?kbhy5⟩) hHeld ?kbr5
      case kbhy5 => (intro w hSw; (try dsimp only at hSw); go_simp; (try with_reducible rfl))
      (try simp only [Act.put, List.setIfInBounds_toArray, List.set_cons_zero, List.set_cons_succ])
      refine wpAnyH_take (i := 6) (oi := ⟨some 41, _, _, _, _, _⟩) (v := (.slice a2 no c2)) rfl (by kernel_rfl) (by kernel_rfl) (by kernel_rfl) (fun _ _ _ h => h) (kn_yields1 (by rfl) 23 _ rfl g3 3 rfl _ 25 (fun _ h => h) _ rfl _ Tryz.underlying23 rfl) hHeld ?kbr6
      (try simp only [Act.put, List.setIfInBounds_toArray, List.set_cons_zero, List.set_cons_succ])
      refine wpAnyH_take (i := 7) (oi := ⟨some 42, _, _, _, _, _⟩) (v := ?kbv7) rfl (by kernel_rfl) (by kernel_rfl) (by kernel_rfl) (fun _ _ _ h => h) (Or.inl ⟨by rfl, ?kbhy7⟩) hHeld ?kbr7
      case kbhy7 => (intro w hSw; (try dsimp only at hSw); go_simp; (try with_reducible rfl))
      (try simp only [Act.put, List.setIfInBounds_toArray, List.set_cons_zero, List.set_cons_succ])
      refine wpAnyH_ready (rs := [4, 8]) (by kernel_rfl) (by simp) ?kbc4_8
      refine (AllReadyH.cons (o := ⟨some 39, _, _, _, _, _⟩) rfl (fun K hK => ?kbst4) (AllReadyH.cons (o := ⟨some 43, _, _, _, _, _⟩) rfl (fun K hK => ?kbst8) AllReadyH.nil))
      case kbst4 =>
        (rw [if_pos (by rfl)]; refine wp_kn_make KN 87 _ _ rfl 266 15 136 Tryz.underlying87 slot_info sn sn .i64 .i64 rfl rfl (Nat.le_refl _) (by omega) (by unfold maxLen; omega) ?_; clear KN; intro gs wx sc hgs hsc KN)
        refine hK.out _ _ ?kb4xk4 (fun hHeld2 => ?kb4xm4)
        case kb4xk4 => exact KN.at_ (by repeat (first | exact Has.here | refine Has.there ?_))
        clear hK K hHeld
        have hHeld := hHeld2; clear hHeld2
        (try simp only [Act.put, List.setIfInBounds_toArray, List.set_cons_zero, List.set_cons_succ])
        refine wpAnyH_ready (rs := [8]) (by kernel_rfl) (by simp) ?kb4xc8
        refine AllReadyH.cons (o := ⟨some 43, _, _, _, _, _⟩) rfl (fun K hK => ?kb4xst8) AllReadyH.nil
        (rw [if_pos (by rfl)]; refine wp_kn_make KN 88 _ _ rfl 133 1 8 Tryz.underlying88 ownp_info no no .i64 .i64 rfl rfl (Nat.le_refl _) (by omega) (by unfold maxLen; omega) ?_; clear KN; intro go wx oc hgo hoc KN; have HOC := Lib.hid hoc; clear hoc)
        refine hK.out _ _ ?kb4xk8 (fun hHeld2 => ?kb4xm8)
        case kb4xk8 => exact KN.at_ (by repeat (first | exact Has.here | refine Has.there ?_))
        clear hK K hHeld
        have hHeld := hHeld2; clear hHeld2
        (try simp only [Act.put, List.setIfInBounds_toArray, List.set_cons_zero, List.set_cons_succ])
        refine wpAnyH_take (i := 9) (oi := ⟨some 44, _, _, _, _, _⟩) (v := (.agg (kernA (core : Int) (.slice a1 nw c1) (sm : Int) (sn : Int) (.slice a2 no c2) (.slice a3 no c3) (.slice (some ⟨gs, 0, none⟩) sn sn) (.slice (some ⟨go, 0, none⟩) no no) (.pointer none)))) rfl (by kernel_rfl) (by kernel_rfl) (by kernel_rfl) (fun _ _ _ h => h) (yields_built (by rfl) 95 #[(0, .tmp 35), (1, .tmp 36), (3, .tmp 39), (8, .tmp 43)] rfl _ (by kernel_rfl)) hHeld ?kb4xr9
        (try simp only [Act.put, List.setIfInBounds_toArray, List.set_cons_zero, List.set_cons_succ])
        refine wpAnyH_ready (rs := [10]) (by kernel_rfl) (by simp) ?kb4xc10
        refine AllReadyH.cons (o := ⟨some 45, _, _, _, _, _⟩) rfl (fun K hK => ?kb4xst10) AllReadyH.nil
        (rw [if_pos (by rfl)]; refine wp_kn_box KN 95 _ rfl 45 rfl _ rfl (kernA (core : Int) (.slice a1 nw c1) (sm : Int) (sn : Int) (.slice a2 no c2) (.slice a3 no c3) (.slice (some ⟨gs, 0, none⟩) sn sn) (.slice (some ⟨go, 0, none⟩) no no) (.pointer none)) rfl ?_; clear KN; intro gk wx hgk KN)
        refine hK.out _ _ ?kb4xk10 (fun hHeld2 => ?kb4xm10)
        case kb4xk10 => exact KN.at_ (by repeat (first | exact Has.here | refine Has.there ?_))
        clear hK K hHeld
        have hHeld := hHeld2; clear hHeld2
        (try simp only [Act.put, List.setIfInBounds_toArray, List.set_cons_zero, List.set_cons_succ])
        refine wpAnyH_take (i := 11) (oi := ⟨some 6, _, _, _, _, _⟩) (v := ?kb4xv11) rfl (by kernel_rfl) (by kernel_rfl) (by kernel_rfl) (fun _ _ _ h => h) (Or.inl ⟨by rfl, ?kb4xhy11⟩) hHeld ?kb4xr11
        case kb4xhy11 => (intro w hSw; (try dsimp only at hSw); go_simp; (try with_reducible rfl))
        (try simp only [Act.put, List.setIfInBounds_toArray, List.set_cons_zero, List.set_cons_succ])
        refine wpAnyH_done (by kernel_rfl) ?kb4xdone _
        go_wp2_with fail
        go_meet
        case rel =>
        have hoc := HOC.out
        rw [ownp_zero] at hoc
        have hm := made_one (.pointer none) no
        rw [← hoc] at hm
        first | exact ⟨gk, go, gs, oc, rfl, hm.1, fun i x hx => ⟨none, hm.2 i x hx⟩, KN.drop (.there (.there .here))⟩ | exact ⟨gk, go, gs, oc, rfl, hm.1, fun i x hx => ⟨none, hm.2 i x hx⟩, KN.drop (.there .here)⟩
      case kbst8 =>
        (rw [if_pos (by rfl)]; refine wp_kn_make KN 88 _ _ rfl 133 1 8 Tryz.underlying88 ownp_info no no .i64 .i64 rfl rfl (Nat.le_refl _) (by omega) (by unfold maxLen; omega) ?_; clear KN; intro go wx oc hgo hoc KN; have HOC := Lib.hid hoc; clear hoc)
        refine hK.out _ _ ?kb8xk8 (fun hHeld2 => ?kb8xm8)
        case kb8xk8 => exact KN.at_ (by repeat (first | exact Has.here | refine Has.there ?_))
        clear hK K hHeld
        have hHeld := hHeld2; clear hHeld2
        (try simp only [Act.put, List.setIfInBounds_toArray, List.set_cons_zero, List.set_cons_succ])
        refine wpAnyH_ready (rs := [4]) (by kernel_rfl) (by simp) ?kb8xc4
        refine AllReadyH.cons (o := ⟨some 39, _, _, _, _, _⟩) rfl (fun K hK => ?kb8xst4) AllReadyH.nil
        (rw [if_pos (by rfl)]; refine wp_kn_make KN 87 _ _ rfl 266 15 136 Tryz.underlying87 slot_info sn sn .i64 .i64 rfl rfl (Nat.le_refl _) (by omega) (by unfold maxLen; omega) ?_; clear KN; intro gs wx sc hgs hsc KN)
        refine hK.out _ _ ?kb8xk4 (fun hHeld2 => ?kb8xm4)
        case kb8xk4 => exact KN.at_ (by repeat (first | exact Has.here | refine Has.there ?_))
        clear hK K hHeld
        have hHeld := hHeld2; clear hHeld2
        (try simp only [Act.put, List.setIfInBounds_toArray, List.set_cons_zero, List.set_cons_succ])
        refine wpAnyH_take (i := 9) (oi := ⟨some 44, _, _, _, _, _⟩) (v := (.agg (kernA (core : Int) (.slice a1 nw c1) (sm : Int) (sn : Int) (.slice a2 no c2) (.slice a3 no c3) (.slice (some ⟨gs, 0, none⟩) sn sn) (.slice (some ⟨go, 0, none⟩) no no) (.pointer none)))) rfl (by kernel_rfl) (by kernel_rfl) (by kernel_rfl) (fun _ _ _ h => h) (yields_built (by rfl) 95 #[(0, .tmp 35), (1, .tmp 36), (3, .tmp 39), (8, .tmp 43)] rfl _ (by kernel_rfl)) hHeld ?kb8xr9
        (try simp only [Act.put, List.setIfInBounds_toArray, List.set_cons_zero, List.set_cons_succ])
        refine wpAnyH_ready (rs := [10]) (by kernel_rfl) (by simp) ?kb8xc10
        refine AllReadyH.cons (o := ⟨some 45, _, _, _, _, _⟩) rfl (fun K hK => ?kb8xst10) AllReadyH.nil
        (rw [if_pos (by rfl)]; refine wp_kn_box KN 95 _ rfl 45 rfl _ rfl (kernA (core : Int) (.slice a1 nw c1) (sm : Int) (sn : Int) (.slice a2 no c2) (.slice a3 no c3) (.slice (some ⟨gs, 0, none⟩) sn sn) (.slice (some ⟨go, 0, none⟩) no no) (.pointer none)) rfl ?_; clear KN; intro gk wx hgk KN)
        refine hK.out _ _ ?kb8xk10 (fun hHeld2 => ?kb8xm10)
        case kb8xk10 => exact KN.at_ (by repeat (first | exact Has.here | refine Has.there ?_))
        clear hK K hHeld
        have hHeld := hHeld2; clear hHeld2
        (try simp only [Act.put, List.setIfInBounds_toArray, List.set_cons_zero, List.set_cons_succ])
        refine wpAnyH_take (i := 11) (oi := ⟨some 6, _, _, _, _, _⟩) (v := ?kb8xv11) rfl (by kernel_rfl) (by kernel_rfl) (by kernel_rfl) (fun _ _ _ h => h) (Or.inl ⟨by rfl, ?kb8xhy11⟩) hHeld ?kb8xr11
        case kb8xhy11 => (intro w hSw; (try dsimp only at hSw); go_simp; (try with_reducible rfl))
        (try simp only [Act.put, List.setIfInBounds_toArray, List.set_cons_zero, List.set_cons_succ])
        refine wpAnyH_done (by kernel_rfl) ?kb8xdone _
        go_wp2_with fail
        go_meet
        case rel =>
        have hoc := HOC.out
        rw [ownp_zero] at hoc
        have hm := made_one (.pointer none) no
        rw [← hoc] at hm
        first | exact ⟨gk, go, gs, oc, rfl, hm.1, fun i x hx => ⟨none, hm.2 i x hx⟩, KN.drop (.there (.there .here))⟩ | exact ⟨gk, go, gs, oc, rfl, hm.1, fun i x hx => ⟨none, hm.2 i x hx⟩, KN.drop (.there .here)⟩
    case rest =>
      obtain ⟨gk, go, gs, oc, rfl, hoc, hop, KN⟩ := hcut
      have HOC := Lib.hid hoc
      have HOP := Lib.hid hop
      clear hoc hop
      by_cases hcs : core < sm
      · obtain ⟨pre, hpre⟩ : ∃ pre : Ents → Ents, pre = fun o => (gk, At (kernA (core : Int) (.slice a1 nw c1) (sm : Int) (sn : Int) (.slice a2 no c2) (.slice a3 no c3) (.slice (some ⟨gs, 0, none⟩) sn sn) (.slice (some ⟨go, 0, none⟩) no no) (.pointer none)) 95) :: (go, At oc 133) :: (g3, At #[.slice a1 nw c1, .int .i64 (sm : Int), .int .i64 (sn : Int), .slice a2 no c2, .slice a3 no c3] 25) :: ((ol1 ++ (ol2 ++ ol3)) ++ o) := ⟨_, rfl⟩
        have HPRE := Lib.hid hpre
        have HT : Hid (TailF pre) := Lib.hid (by rw [hpre]; exact .cons _ (.cons _ (.cons _ (.app .id _))))
        clear hpre
        go_wp2_with (first | ((with_reducible refine wpList_gate ?_); first | ((with_reducible refine gate_load ?_ ?_); rfl; first | (refine ks_loadW KN 25 Tryz.underlying25 ?_) | (refine ks_load1 KN 22 Tryz.underlying22 ?_) | (refine ks_load1 KN 23 Tryz.underlying23 ?_) | (refine ks_load1 KN 3 Tryz.underlying3 ?_) | (refine ks_loadW KN 63 Tryz.underlying63 ?_)) | ((with_reducible refine gate_store ?_ ?_); rfl; first | (refine ks_store1 KN 22 ?_; clear KN; intro wx KN) | (refine ks_store1 KN 23 ?_; clear KN; intro wx KN) | (refine ks_storeW KN 63 ?_; clear KN; intro wx KN) | (refine ks_storeA KN 63 ?_; clear KN; intro wx KN) | (refine ks_store1 KN 93 ?_; clear KN; intro wx KN)) | ((with_reducible refine gate_new ?_ ?_); rfl; first | (refine wpList_built rfl 63 #[(0, .const (.int .i64 1)), (2, .tmp 51)] rfl #[.int .i64 1, .slice none 0 0, .slice a3 no c3] (by kernel_rfl) ?_) | (refine ks_boxA KN 25 (q := 3) ?_; clear KN; intro g3 wx hg3 KN) | (refine ks_boxA KN 95 (q := 45) ?_; clear KN; intro g45 wx hg45 KN) | (refine ks_alloc KN 63 (q := 7) #[.int .i64 0, .slice none 0 0, .slice none 0 0] ?_; clear KN; intro g7 wx hg7 KN))))
        replace KN := KN.as_ g7 #[.int .i64 1, .slice none 0 0, .slice a3 no c3] (by repeat (first | exact Repl.here | apply Repl.there)) (by kernel_rfl)
        have KN2 := KN.perm (l' := (g7, At #[.int .i64 1, .slice none 0 0, .slice a3 no c3] 63) :: pre []) (by rw [HPRE.out]; simp)
        clear KN
        go_loopw [55] (fun i wr => MLoop w g7 (.slice a3 no c3) sm pre i wr) (fun i _ => sm - (intOf i).toNat)
        case atStart => exact ⟨0, .slice none 0 0, [], rfl, Nat.zero_le _, .nil, KN2⟩
        case round =>
          clear KN2
          obtain ⟨k, vm, om, rfl, hk, OW, KN⟩ := hrel
          have HO := Lib.hid OW
          obtain ⟨xa, xn, xc, rfl⟩ := OW.form3
          clear OW
          by_cases hlt : k < sm
          · go_wp2_with (first | ((with_reducible refine wpList_gate ?_); first | (refine wpList_kn_lit KN (by rfl) 22 3 1 _ rfl 61 rfl Tryz.underlying22 #[.int .i64 (k : Int)] (by kernel_rfl) ?_; clear KN; intro g61 wx hg61 KN) | (at_builtin; refine wpList_kn_append1 KN HO.out (by rfl) _ _ 22 rfl 8 Tryz.underlying22 (by kernel_rfl) (by decide) rfl 1 rfl rfl (by kernel_rfl) (by rw [List.length_map, upto_len]; unfold maxLen; omega) (by rw [List.length_map, upto_len]; omega) (f := fun o => (g7, _) :: pre o) (.cons _ HT.out) rfl ?_; clear KN; intro v62 wx ol62 OW62 KN; have HO62 := Lib.hid OW62; obtain ⟨ya, yn, yc, rfl⟩ := OW62.form3; clear OW62) | ((with_reducible refine gate_load ?_ ?_); rfl; first | (refine ks_loadW KN 25 Tryz.underlying25 ?_) | (refine ks_load1 KN 22 Tryz.underlying22 ?_) | (refine ks_load1 KN 23 Tryz.underlying23 ?_) | (refine ks_load1 KN 3 Tryz.underlying3 ?_) | (refine ks_loadW KN 63 Tryz.underlying63 ?_)) | ((with_reducible refine gate_store ?_ ?_); rfl; first | (refine ks_store1 KN 22 ?_; clear KN; intro wx KN) | (refine ks_store1 KN 23 ?_; clear KN; intro wx KN) | (refine ks_storeW KN 63 ?_; clear KN; intro wx KN) | (refine ks_storeA KN 63 ?_; clear KN; intro wx KN) | (refine ks_store1 KN 93 ?_; clear KN; intro wx KN)) | ((with_reducible refine gate_new ?_ ?_); rfl; first | (refine ks_boxA KN 25 (q := 3) ?_; clear KN; intro g3 wx hg3 KN) | (refine ks_boxA KN 95 (q := 45) ?_; clear KN; intro g45 wx hg45 KN) | (refine ks_alloc KN 63 (q := 7) #[.int .i64 0, .slice none 0 0, .slice none 0 0] ?_; clear KN; intro g7 wx hg7 KN))))
            replace KN := KN.as_ g7 #[.int .i64 1, .slice ya yn yc, .slice a3 no c3] (by repeat (first | exact Repl.here | apply Repl.there)) (by kernel_rfl)
            go_roundw
            case rel => exact ⟨k + 1, _, ol62, by go_num, by omega, by rw [upto_succ, ← intRows_snoc]; exact HO62.out, KN⟩
            case measure => simp [intOf]; omega
          · obtain rfl : sm = k := by omega
            rw [HPRE.out] at KN
            dsimp only at KN
            go_upto_region 14 with (first | (go_at_call 38; refine (own_any (rs := c.rs) (mem := upto sm) (own := c.os) (KN.at_ (g := go) (by repeat (first | exact Has.here | refine Has.there ?_))) HOC.out HOP.out (KN.cell (g := gk) (o := 0) (by repeat (first | exact Has.here | refine Has.there ?_)) rfl) (KN.cell (g := gk) (o := 4) (by repeat (first | exact Has.here | refine Has.there ?_)) rfl) (KN.cell (g := gk) (o := 12) (by repeat (first | exact Has.here | refine Has.there ?_)) rfl) (HO2.out.row (f := fun o => o) (KN.sub (sub_c4 (sub_2 _ _ _ _))) .id) HNR.out (by omega) (HO.out.row (f := fun o => o) (KN.sub (sub_c4 (List.sublist_append_right _ _))) .id) (HO3.out.row (f := fun o => o) (KN.sub (sub_c4 (sub_3 _ _ _ _))) .id) HNO.out.symm).mono ?_; rintro e wx ⟨rfl, oc2, hoc2, hop2, K2⟩; replace KN := KN.call1 K2 (by repeat (first | exact Repl.here | apply Repl.there)); clear K2 hoc2 hop2) | ((with_reducible refine wpList_gate ?_); first | ((with_reducible refine gate_load ?_ ?_); rfl; first | (refine ks_loadW KN 25 Tryz.underlying25 ?_) | (refine ks_load1 KN 22 Tryz.underlying22 ?_) | (refine ks_load1 KN 23 Tryz.underlying23 ?_) | (refine ks_load1 KN 3 Tryz.underlying3 ?_) | (refine ks_loadW KN 63 Tryz.underlying63 ?_)) | ((with_reducible refine gate_store ?_ ?_); rfl; first | (refine ks_store1 KN 22 ?_; clear KN; intro wx KN) | (refine ks_store1 KN 23 ?_; clear KN; intro wx KN) | (refine ks_storeW KN 63 ?_; clear KN; intro wx KN) | (refine ks_storeA KN 63 ?_; clear KN; intro wx KN) | (refine ks_store1 KN 93 ?_; clear KN; intro wx KN)) | ((with_reducible refine gate_new ?_ ?_); rfl; first | (refine ks_boxA KN 25 (q := 3) ?_; clear KN; intro g3 wx hg3 KN) | (refine ks_boxA KN 95 (q := 45) ?_; clear KN; intro g45 wx hg45 KN) | (refine ks_alloc KN 63 (q := 7) #[.int .i64 0, .slice none 0 0, .slice none 0 0] ?_; clear KN; intro g7 wx hg7 KN))))
            (try go_frame)
            go_wp2_with (first | (go_at_call 39; refine (VNew_any (mem := upto sm) (own := c.os) (rs := c.rs) (HO.out.row (f := fun o => o) (KN.sub (sub_c4 (List.sublist_append_right _ _))) .id) (HO3.out.row (f := fun o => o) (KN.sub (sub_c4 (sub_3 _ _ _ _))) .id) (by rw [upto_len]; omega) (by rw [← HNO.out]; omega) (HO2.out.row (f := fun o => o) (KN.sub (sub_c4 (sub_2 _ _ _ _))) .id) (by rw [← HNR.out]; omega)).mono ?_; rintro e wx ⟨gy, rg, m, o, om2, oo2, rfl, O1, O2, K2⟩; have HM1 := Lib.hid O1; have HM2 := Lib.hid O2; replace KN := (KN.call0 K2).perm List.perm_append_comm; simp only [List.cons_append, List.nil_append] at KN; clear K2 O1 O2) | ((with_reducible refine wpList_gate ?_); first | ((with_reducible refine gate_load ?_ ?_); rfl; first | (refine wpList_kn_load1 KN (by rfl) 3 _ rfl g3 2 rfl _ 25 (by repeat (first | exact Has.here | refine Has.there ?_)) (.int .i64 (sn : Int)) rfl _ Tryz.underlying3 rfl ?_) | (refine ks_loadW KN 25 Tryz.underlying25 ?_) | (refine ks_load1 KN 22 Tryz.underlying22 ?_) | (refine ks_load1 KN 23 Tryz.underlying23 ?_) | (refine ks_load1 KN 3 Tryz.underlying3 ?_) | (refine ks_loadW KN 63 Tryz.underlying63 ?_)) | ((with_reducible refine gate_store ?_ ?_); rfl; first | (refine wpList_kn_store1 KN (by rfl) 93 _ _ rfl gk 13 rfl (.pointer (some ⟨gy, 0, none⟩)) rfl rfl _ 95 (by repeat (first | exact Repl.here | apply Repl.there)) (by (try simp only [Array.size_setIfInBounds, putL_size]); first | exact Nat.le_of_ble_eq_true rfl | (simp; omega)) (by kernel_rfl) (by rfl) ?_; clear KN; intro wx KN) | (refine ks_store1 KN 22 ?_; clear KN; intro wx KN) | (refine ks_store1 KN 23 ?_; clear KN; intro wx KN) | (refine ks_storeW KN 63 ?_; clear KN; intro wx KN) | (refine ks_storeA KN 63 ?_; clear KN; intro wx KN) | (refine ks_store1 KN 93 ?_; clear KN; intro wx KN)) | ((with_reducible refine gate_new ?_ ?_); rfl; first | (refine ks_boxA KN 25 (q := 3) ?_; clear KN; intro g3 wx hg3 KN) | (refine ks_boxA KN 95 (q := 45) ?_; clear KN; intro g45 wx hg45 KN) | (refine ks_alloc KN 63 (q := 7) #[.int .i64 0, .slice none 0 0, .slice none 0 0] ?_; clear KN; intro g7 wx hg7 KN))))
            refine bodyPost_ret (results_tmp2 rfl _ _ _) rfl ?_
            have KF := KN.sub (l' := (gk, At _ 95) :: (gy, At (syncN (core : Int) rg (sn : Int) 1 m o) 146) :: (om2 ++ oo2)) (List.Sublist.cons _ (List.Sublist.cons_cons _ (List.Sublist.cons _ (List.Sublist.cons _ (List.sublist_append_right _ _)))))
            exact ⟨gk, gy, _, rg, m, o, (sn : Int), om2, oo2, rfl, rfl, HM1.out, HM2.out, KF⟩
      · skip
        go_upto_region 14 with (first | ((with_reducible refine wpList_gate ?_); first | ((with_reducible refine gate_load ?_ ?_); rfl; first | (refine ks_loadW KN 25 Tryz.underlying25 ?_) | (refine ks_load1 KN 22 Tryz.underlying22 ?_) | (refine ks_load1 KN 23 Tryz.underlying23 ?_) | (refine ks_load1 KN 3 Tryz.underlying3 ?_) | (refine ks_loadW KN 63 Tryz.underlying63 ?_)) | ((with_reducible refine gate_store ?_ ?_); rfl; first | (refine ks_store1 KN 22 ?_; clear KN; intro wx KN) | (refine ks_store1 KN 23 ?_; clear KN; intro wx KN) | (refine ks_storeW KN 63 ?_; clear KN; intro wx KN) | (refine ks_storeA KN 63 ?_; clear KN; intro wx KN) | (refine ks_store1 KN 93 ?_; clear KN; intro wx KN)) | ((with_reducible refine gate_new ?_ ?_); rfl; first | (refine ks_boxA KN 25 (q := 3) ?_; clear KN; intro g3 wx hg3 KN) | (refine ks_boxA KN 95 (q := 45) ?_; clear KN; intro g45 wx hg45 KN) | (refine ks_alloc KN 63 (q := 7) #[.int .i64 0, .slice none 0 0, .slice none 0 0] ?_; clear KN; intro g7 wx hg7 KN))))
        (try go_frame)
        go_wp2_with (first | (go_at_call 39; refine (VNew_any (mem := []) (own := []) Row.nil_ Row.nil_ (by simp) (by simp) (HO2.out.row (f := fun o => o) (KN.sub (List.Sublist.cons _ (List.Sublist.cons _ (List.Sublist.cons _ (List.Sublist.cons _ ((List.sublist_append_left ol2 ol3).trans (List.sublist_append_right ol1 _))))))) .id) (by rw [← HNR.out]; omega)).mono ?_; rintro e wx ⟨gy, rg, m, o, om, oo, rfl, O1, O2, K2⟩; have HM1 := Lib.hid O1; have HM2 := Lib.hid O2; replace KN := (KN.call0 K2).perm List.perm_append_comm; simp only [List.cons_append, List.nil_append] at KN; clear K2 O1 O2) | ((with_reducible refine wpList_gate ?_); first | ((with_reducible refine gate_load ?_ ?_); rfl; first | (refine wpList_kn_load1 KN (by rfl) 3 _ rfl g3 2 rfl _ 25 (by repeat (first | exact Has.here | refine Has.there ?_)) (.int .i64 (sn : Int)) rfl _ Tryz.underlying3 rfl ?_) | (refine ks_loadW KN 25 Tryz.underlying25 ?_) | (refine ks_load1 KN 22 Tryz.underlying22 ?_) | (refine ks_load1 KN 23 Tryz.underlying23 ?_) | (refine ks_load1 KN 3 Tryz.underlying3 ?_) | (refine ks_loadW KN 63 Tryz.underlying63 ?_)) | ((with_reducible refine gate_store ?_ ?_); rfl; first | (refine wpList_kn_store1 KN (by rfl) 93 _ _ rfl gk 13 rfl (.pointer (some ⟨gy, 0, none⟩)) rfl rfl _ 95 (by repeat (first | exact Repl.here | apply Repl.there)) (by (try simp only [Array.size_setIfInBounds, putL_size]); first | exact Nat.le_of_ble_eq_true rfl | (simp; omega)) (by kernel_rfl) (by rfl) ?_; clear KN; intro wx KN) | (refine ks_store1 KN 22 ?_; clear KN; intro wx KN) | (refine ks_store1 KN 23 ?_; clear KN; intro wx KN) | (refine ks_storeW KN 63 ?_; clear KN; intro wx KN) | (refine ks_storeA KN 63 ?_; clear KN; intro wx KN) | (refine ks_store1 KN 93 ?_; clear KN; intro wx KN)) | ((with_reducible refine gate_new ?_ ?_); rfl; first | (refine ks_boxA KN 25 (q := 3) ?_; clear KN; intro g3 wx hg3 KN) | (refine ks_boxA KN 95 (q := 45) ?_; clear KN; intro g45 wx hg45 KN) | (refine ks_alloc KN 63 (q := 7) #[.int .i64 0, .slice none 0 0, .slice none 0 0] ?_; clear KN; intro g7 wx hg7 KN))))
        refine bodyPost_ret (results_tmp2 rfl _ _ _) rfl ?_
        have KF := KN.sub (l' := (gk, At _ 95) :: (gy, At (syncN (core : Int) rg (sn : Int) 0 m o) 146) :: (om ++ oo)) (List.Sublist.cons _ (List.Sublist.cons_cons _ (List.Sublist.cons _ (List.Sublist.cons _ (List.sublist_append_right _ _)))))
        exact ⟨gk, gy, _, rg, m, o, (sn : Int), om, oo, rfl, rfl, HM1.out, HM2.out, KF⟩
end Go.Proofs.YtlhmeeidlhpodaaGreat
