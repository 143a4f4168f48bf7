/- ClusterNew: New refuses exactly what is not valid; no core beyond Start is running. -/
import Derived.Test.YtlhmeeidlhpodaaGreatPkCCNew
import Derived.Test.YtlhmeeidlhpodaaGreatPkCSrt
import Derived.Test.YtlhmeeidlhpodaaGreatPkClC
import Derived.Test.YtlhmeeidlhpodaaGreatPkClD
set_option linter.unusedVariables false
set_option linter.unusedSimpArgs false
set_option linter.unusedSectionVars false
namespace Go.Proofs.YtlhmeeidlhpodaaGreat
open Go.RowKit Go.BigFrame
def LawOut (w : World) (e : Ending) (w' : World) : Prop := e = .returned (.bool true) ∧ Below w.heap.size w w'
def LwLoop (w w0 : World) (n : Nat) (cfg : Array Value) (g1 : Nat) (i : Value) (wr : World) : Prop := ∃ k : Nat, i = .int .i64 (k : Int) ∧ k ≤ n ∧ Kn [] w wr [(g1, At cfg 25)] ∧ Kn [] w0 wr []
set_option maxRecDepth 100000 in
set_option maxHeartbeats 16000000 in
theorem clusterNew_any {w : World} {sw sr so : Value} {c : Cfg} (h : CfgRd w sw sr so c) : Calls Tryz.prog 3 #[.agg #[sw, .int .i64 c.st, .int .i64 c.sl, sr, so]] w (LawOut w) := by
  have KN := Kn.start w
  obtain ⟨wa, wc, rfl, hwm, hwf⟩ := ints_form h.rw_
  obtain ⟨ra, rc, rfl, hrm, hrf⟩ := reg_at h.rr
  obtain ⟨oa, oc, rfl, hom, hof⟩ := ints_form h.ro
  have HC := Lib.hid h
  obtain ⟨st, hst⟩ : ∃ x, x = c.st := ⟨_, rfl⟩
  obtain ⟨sl, hsl⟩ : ∃ x, x = c.sl := ⟨_, rfl⟩
  obtain ⟨nw, hnw⟩ : ∃ n, n = c.ws.length := ⟨_, rfl⟩
  obtain ⟨nr, hnr⟩ : ∃ n, n = c.rs.length := ⟨_, rfl⟩
  obtain ⟨no, hno⟩ : ∃ n, n = c.os.length := ⟨_, rfl⟩
  have HRV : Hid (∀ wx, Below w.heap.size w wx → Calls Tryz.prog 6 #[.agg #[.slice wa nw wc, .int .i64 st, .int .i64 sl, .slice ra nr rc, .slice oa no oc]] wx (VOut c wx)) := Lib.hid fun wx hb => by
    rw [hst, hsl, hnw, hnr, hno]
    exact RValidC_any (HC.out.below hb)
  have HBAD : Hid (¬ ValidC c → ∀ wx, Below w.heap.size w wx → Calls Tryz.prog 5 #[.agg #[.slice wa nw wc, .int .i64 st, .int .i64 sl, .slice ra nr rc, .slice oa no oc]] wx fun e w' => e = .returned (.tuple #[.pointer none, .int .i64 1]) ∧ Below wx.heap.size wx w') := Lib.hid fun hv wx hb => by
    rw [hst, hsl, hnw, hnr, hno]
    exact CNew_bad (HC.out.below hb) hv
  have HOK : Hid (ValidC c → ∀ wx, Below w.heap.size w wx → Calls Tryz.prog 5 #[.agg #[.slice wa nw wc, .int .i64 st, .int .i64 sl, .slice ra nr rc, .slice oa no oc]] wx (CNOut wx nw st.toNat)) := Lib.hid fun hv wx hb => by
    rw [hst, hsl, hnw, hnr, hno]
    exact CNew_any (HC.out.below hb) hv
  have HHD : Hid (ValidC c → 1 ≤ nw ∧ nw ≤ 32 ∧ 1 ≤ st ∧ st ≤ nw ∧ nr ≤ 16 ∧ no = nr) := Lib.hid fun q => ⟨by rw [hnw]; exact q.head.w1, by rw [hnw]; exact q.head.w2, by rw [hst]; exact q.head.s1, by rw [hst, hnw]; exact q.head.s2, by rw [hnr]; exact q.head.r1, by rw [hno, hnr]; exact q.head.o1⟩
  have HAW := Lib.hid (fun wx => awake28 wx)
  rw [← hst, ← hsl, ← hnw, ← hnr, ← hno]
  clear h hst hsl hnw hnr hno hwf hrf hof hwm hrm hom
  by_cases b1 : 40 < nw
  · have e1 : decide ((40 : Int) < (nw : Int)) = true := decide_eq_true (by omega) -- b1
    go_enter Tryz.func3, Tryz.ntmps3
    go_wp2_with (first | (go_at_call 4; refine (HAW.out _).mono ?_; rintro e wx ⟨rfl, hb1⟩; replace KN := KN.below hb1; clear hb1) | ((with_reducible refine wpList_gate ?_); first | ((with_reducible refine gate_load ?_ ?_); rfl; first | (refine ks_load1 KN 22 Tryz.underlying22 ?_) | (refine ks_load1 KN 23 Tryz.underlying23 ?_) | (refine ks_loadW KN 25 Tryz.underlying25 ?_) | (refine ks_load1 KN 3 Tryz.underlying3 ?_)) | ((with_reducible refine gate_new ?_ ?_); rfl; first | (refine ks_boxA KN 25 (q := 1) ?_; clear KN; intro g1 wx hg1 KN))))
    go_ret
    exact ⟨rfl, KN.toBelow⟩
  · have e1 : decide ((40 : Int) < (nw : Int)) = false := decide_eq_false (by omega) -- b1
    by_cases b2 : 20 < nr
    · have e2 : decide ((20 : Int) < (nr : Int)) = true := decide_eq_true (by omega) -- b2
      go_enter Tryz.func3, Tryz.ntmps3
      go_wp2_with (first | (go_at_call 4; refine (HAW.out _).mono ?_; rintro e wx ⟨rfl, hb1⟩; replace KN := KN.below hb1; clear hb1) | ((with_reducible refine wpList_gate ?_); first | ((with_reducible refine gate_load ?_ ?_); rfl; first | (refine ks_load1 KN 22 Tryz.underlying22 ?_) | (refine ks_load1 KN 23 Tryz.underlying23 ?_) | (refine ks_loadW KN 25 Tryz.underlying25 ?_) | (refine ks_load1 KN 3 Tryz.underlying3 ?_)) | ((with_reducible refine gate_new ?_ ?_); rfl; first | (refine ks_boxA KN 25 (q := 1) ?_; clear KN; intro g1 wx hg1 KN))))
      go_ret
      exact ⟨rfl, KN.toBelow⟩
    · have e2 : decide ((20 : Int) < (nr : Int)) = false := decide_eq_false (by omega) -- b2
      by_cases b3 : 20 < no
      · have e3 : decide ((20 : Int) < (no : Int)) = true := decide_eq_true (by omega) -- b3
        go_enter Tryz.func3, Tryz.ntmps3
        go_wp2_with (first | (go_at_call 4; refine (HAW.out _).mono ?_; rintro e wx ⟨rfl, hb1⟩; replace KN := KN.below hb1; clear hb1) | ((with_reducible refine wpList_gate ?_); first | ((with_reducible refine gate_load ?_ ?_); rfl; first | (refine ks_load1 KN 22 Tryz.underlying22 ?_) | (refine ks_load1 KN 23 Tryz.underlying23 ?_) | (refine ks_loadW KN 25 Tryz.underlying25 ?_) | (refine ks_load1 KN 3 Tryz.underlying3 ?_)) | ((with_reducible refine gate_new ?_ ?_); rfl; first | (refine ks_boxA KN 25 (q := 1) ?_; clear KN; intro g1 wx hg1 KN))))
        go_ret
        exact ⟨rfl, KN.toBelow⟩
      · have e3 : decide ((20 : Int) < (no : Int)) = false := decide_eq_false (by omega) -- b3
        by_cases hv : ValidC c
        · have HV := Lib.hid hv
          obtain ⟨v1, v2, v3, v4, v5, v6⟩ := HHD.out hv
          subst v6
          obtain ⟨sm, hsm⟩ : ∃ n : Nat, st = (n : Int) := ⟨st.toNat, by omega⟩
          subst hsm
          clear hv
          go_enter Tryz.func3, Tryz.ntmps3
          go_upto_region 6 with (first | (go_at_call 5; refine (HOK.out HV.out _ KN.toBelow).mono ?_; rintro e w0 ⟨gc, gr, gd, gm, ak, ck, mv, rfl, hcl, hb1⟩; rw [Int.toNat_natCast] at hcl; have HCL := Lib.hid hcl; replace KN := KN.below hb1; have KB := Kn.start w0; clear hb1 hcl) | (go_at_call 6; refine (HRV.out _ KN.toBelow).mono ?_; rintro e wx ⟨b, rfl, hb, hb1⟩; obtain rfl : b = true := hb.2 HV.out; replace KN := KN.below hb1; replace KB := KB.below hb1; clear hb hb1) | ((with_reducible refine wpList_gate ?_); first | ((with_reducible refine gate_load ?_ ?_); rfl; first | (refine ks_load1 KN 22 Tryz.underlying22 ?_) | (refine ks_load1 KN 23 Tryz.underlying23 ?_) | (refine ks_loadW KN 25 Tryz.underlying25 ?_) | (refine ks_load1 KN 3 Tryz.underlying3 ?_)) | ((with_reducible refine gate_new ?_ ?_); rfl; first | (refine ks_boxA KN 25 (q := 1) ?_; clear KN; intro g1 wx hg1 KN))))
          (try go_frame)
          replace KN := KN.drew
          replace KB := KB.drew
          refine wp_region_held_drew (S := (fun w' => BlkT w' g1 #[.slice wa nw wc, .int .i64 (sm : Int), .int .i64 sl, .slice ra no rc, .slice oa no oc] 25)) (by kernel_rfl) ?lahS (fun hHeld => ?larest)
          case lahS => exact KN.at_ (by repeat (first | exact Has.here | refine Has.there ?_))
          refine wpAnyH_take (i := 0) (oi := ⟨some 40, _, _, _, _, _⟩) (v := ?lav0) rfl (by kernel_rfl) (by kernel_rfl) (by kernel_rfl) (fun _ _ _ h => h) (Or.inl ⟨by rfl, ?lahy0⟩) hHeld ?lar0
          case lahy0 => (intro w hSw; (try dsimp only at hSw); go_simp; (try with_reducible rfl))
          (try simp only [Act.put, List.setIfInBounds_toArray, List.set_cons_zero, List.set_cons_succ])
          refine wpAnyH_take (i := 1) (oi := ⟨some 41, _, _, _, _, _⟩) (v := ?lav1) rfl (by kernel_rfl) (by kernel_rfl) (by kernel_rfl) (fun _ _ _ h => h) (Or.inl ⟨by rfl, ?lahy1⟩) hHeld ?lar1
          case lahy1 => (intro w hSw; (try dsimp only at hSw); go_simp; (try with_reducible rfl))
          (try simp only [Act.put, List.setIfInBounds_toArray, List.set_cons_zero, List.set_cons_succ])
          refine wpAnyH_take (i := 2) (oi := ⟨some 42, _, _, _, _, _⟩) (v := ?lav2) rfl (by kernel_rfl) (by kernel_rfl) (by kernel_rfl) (fun _ _ _ h => h) (Or.inl ⟨by rfl, ?lahy2⟩) hHeld ?lar2
          case lahy2 => (intro w hSw; (try dsimp only at hSw); go_simp; (try with_reducible rfl))
          (try simp only [Act.put, List.setIfInBounds_toArray, List.set_cons_zero, List.set_cons_succ])
          refine wpAnyH_take (i := 3) (oi := ⟨some 43, _, _, _, _, _⟩) (v := ?lav3) rfl (by kernel_rfl) (by kernel_rfl) (by kernel_rfl) (fun _ _ _ h => h) (Or.inl ⟨by rfl, ?lahy3⟩) hHeld ?lar3
          case lahy3 => (intro w hSw; (try dsimp only at hSw); go_simp; (try with_reducible rfl))
          (try simp only [Act.put, List.setIfInBounds_toArray, List.set_cons_zero, List.set_cons_succ])
          refine wpAnyH_take (i := 4) (oi := ⟨some 44, _, _, _, _, _⟩) (v := ?lav4) rfl (by kernel_rfl) (by kernel_rfl) (by kernel_rfl) (fun _ _ _ h => h) (Or.inl ⟨by rfl, ?lahy4⟩) hHeld ?lar4
          case lahy4 => (intro w hSw; (try dsimp only at hSw); go_simp; (try with_reducible rfl))
          (try simp only [Act.put, List.setIfInBounds_toArray, List.set_cons_zero, List.set_cons_succ])
          refine wpAnyH_take (i := 5) (oi := ⟨some 45, _, _, _, _, _⟩) (v := ?lav5) rfl (by kernel_rfl) (by kernel_rfl) (by kernel_rfl) (fun _ _ _ h => h) (Or.inl ⟨by rfl, ?lahy5⟩) hHeld ?lar5
          case lahy5 => (intro w hSw; (try dsimp only at hSw); go_simp; (try with_reducible rfl))
          (try simp only [Act.put, List.setIfInBounds_toArray, List.set_cons_zero, List.set_cons_succ])
          refine wpAnyH_take (i := 6) (oi := ⟨some 46, _, _, _, _, _⟩) (v := ?lav6) rfl (by kernel_rfl) (by kernel_rfl) (by kernel_rfl) (fun _ _ _ h => h) (Or.inl ⟨by rfl, ?lahy6⟩) hHeld ?lar6
          case lahy6 => (intro w hSw; (try dsimp only at hSw); go_simp; (try with_reducible rfl))
          (try simp only [Act.put, List.setIfInBounds_toArray, List.set_cons_zero, List.set_cons_succ])
          refine wpAnyH_take (i := 7) (oi := ⟨some 47, _, _, _, _, _⟩) (v := ?lav7) rfl (by kernel_rfl) (by kernel_rfl) (by kernel_rfl) (fun _ _ _ h => h) (Or.inl ⟨by rfl, ?lahy7⟩) hHeld ?lar7
          case lahy7 => (intro w hSw; (try dsimp only at hSw); go_simp; (try with_reducible rfl))
          (try simp only [Act.put, List.setIfInBounds_toArray, List.set_cons_zero, List.set_cons_succ])
          refine wpAnyH_take (i := 10) (oi := ⟨some 50, _, _, _, _, _⟩) (v := ?lav10) rfl (by kernel_rfl) (by kernel_rfl) (by kernel_rfl) (fun _ _ _ h => h) (Or.inl ⟨by rfl, ?lahy10⟩) hHeld ?lar10
          case lahy10 => (intro w hSw; (try dsimp only at hSw); go_simp; (try with_reducible rfl))
          (try simp only [Act.put, List.setIfInBounds_toArray, List.set_cons_zero, List.set_cons_succ])
          refine wpAnyH_take (i := 11) (oi := ⟨some 51, _, _, _, _, _⟩) (v := (.int .i64 (sm : Int))) rfl (by kernel_rfl) (by kernel_rfl) (by kernel_rfl) (fun _ _ _ h => h) (kn_yields1 (by rfl) 3 _ rfl g1 1 rfl _ 25 (fun _ h => h) _ rfl _ Tryz.underlying3 rfl) hHeld ?lar11
          (try simp only [Act.put, List.setIfInBounds_toArray, List.set_cons_zero, List.set_cons_succ])
          refine wpAnyH_ready (rs := [8]) (by kernel_rfl) (by simp) ?lac8
          refine AllReadyH.cons (o := ⟨some 48, _, _, _, _, _⟩) rfl (fun K hK => ?last8) AllReadyH.nil
          go_simp
          (refine (Members_any (HCL.out.below KB.toBelow) (by omega) (by omega)).mono ?_; rintro e wx ⟨ma, mc, rfl, hb1⟩; replace KN := KN.below hb1; replace KB := KB.below hb1; clear hb1)
          refine hK.out _ _ ?lak8 (fun hHeld2 => ?lam8)
          case lak8 => exact KN.at_ (by repeat (first | exact Has.here | refine Has.there ?_))
          clear hK K hHeld
          have hHeld := hHeld2; clear hHeld2
          (try simp only [Act.put, List.setIfInBounds_toArray, List.set_cons_zero, List.set_cons_succ])
          refine wpAnyH_take (i := 9) (oi := ⟨some 49, _, _, _, _, _⟩) (v := ?lav9) rfl (by kernel_rfl) (by kernel_rfl) (by kernel_rfl) (fun _ _ _ h => h) (Or.inl ⟨by rfl, ?lahy9⟩) hHeld ?lar9
          case lahy9 => (intro w hSw; (try dsimp only at hSw); go_simp; (try with_reducible rfl))
          (try simp only [Act.put, List.setIfInBounds_toArray, List.set_cons_zero, List.set_cons_succ])
          refine wpAnyH_take (i := 12) (oi := ⟨some 52, _, _, _, _, _⟩) (v := ?lav12) rfl (by kernel_rfl) (by kernel_rfl) (by kernel_rfl) (fun _ _ _ h => h) (Or.inl ⟨by rfl, ?lahy12⟩) hHeld ?lar12
          case lahy12 => (intro w hSw; (try dsimp only at hSw); go_simp; (try with_reducible rfl))
          (try simp only [Act.put, List.setIfInBounds_toArray, List.set_cons_zero, List.set_cons_succ])
          refine wpAnyH_take (i := 13) (oi := ⟨some 53, _, _, _, _, _⟩) (v := ?lav13) rfl (by kernel_rfl) (by kernel_rfl) (by kernel_rfl) (fun _ _ _ h => h) (Or.inl ⟨by rfl, ?lahy13⟩) hHeld ?lar13
          case lahy13 => (intro w hSw; (try dsimp only at hSw); go_simp; (try with_reducible rfl))
          (try simp only [Act.put, List.setIfInBounds_toArray, List.set_cons_zero, List.set_cons_succ])
          refine wpAnyH_take (i := 14) (oi := ⟨some 54, _, _, _, _, _⟩) (v := ?lav14) rfl (by kernel_rfl) (by kernel_rfl) (by kernel_rfl) (fun _ _ _ h => h) (Or.inl ⟨by rfl, ?lahy14⟩) hHeld ?lar14
          case lahy14 => (intro w hSw; (try dsimp only at hSw); go_simp; (try with_reducible rfl))
          (try simp only [Act.put, List.setIfInBounds_toArray, List.set_cons_zero, List.set_cons_succ])
          refine wpAnyH_take (i := 15) (oi := ⟨some 55, _, _, _, _, _⟩) (v := ?lav15) rfl (by kernel_rfl) (by kernel_rfl) (by kernel_rfl) (fun _ _ _ h => h) (Or.inl ⟨by rfl, ?lahy15⟩) hHeld ?lar15
          case lahy15 => (intro w hSw; (try dsimp only at hSw); go_simp; (try with_reducible rfl))
          (try simp only [Act.put, List.setIfInBounds_toArray, List.set_cons_zero, List.set_cons_succ])
          refine wpAnyH_ready (rs := [16]) (by kernel_rfl) (by simp) ?lac16
          refine AllReadyH.cons (o := ⟨some 56, _, _, _, _, _⟩) rfl (fun K hK => ?last16) AllReadyH.nil
          go_simp
          (refine (Quiet_any (HCL.out.below KB.toBelow) (by omega)).mono ?_; rintro e wx ⟨rfl, hb1⟩; replace KN := KN.below hb1; replace KB := KB.below hb1; clear hb1)
          refine hK.out _ _ ?lak16 (fun hHeld2 => ?lam16)
          case lak16 => exact KN.at_ (by repeat (first | exact Has.here | refine Has.there ?_))
          clear hK K hHeld
          have hHeld := hHeld2; clear hHeld2
          (try simp only [Act.put, List.setIfInBounds_toArray, List.set_cons_zero, List.set_cons_succ])
          refine wpAnyH_take (i := 17) (oi := ⟨some 57, _, _, _, _, _⟩) (v := ?lav17) rfl (by kernel_rfl) (by kernel_rfl) (by kernel_rfl) (fun _ _ _ h => h) (Or.inl ⟨by rfl, ?lahy17⟩) hHeld ?lar17
          case lahy17 => (intro w hSw; (try dsimp only at hSw); go_simp; (try with_reducible rfl))
          (try simp only [Act.put, List.setIfInBounds_toArray, List.set_cons_zero, List.set_cons_succ])
          refine wpAnyH_take (i := 18) (oi := ⟨some 58, _, _, _, _, _⟩) (v := ?lav18) rfl (by kernel_rfl) (by kernel_rfl) (by kernel_rfl) (fun _ _ _ h => h) (Or.inl ⟨by rfl, ?lahy18⟩) hHeld ?lar18
          case lahy18 => (intro w hSw; (try dsimp only at hSw); go_simp; (try with_reducible rfl))
          (try simp only [Act.put, List.setIfInBounds_toArray, List.set_cons_zero, List.set_cons_succ])
          refine wpAnyH_take (i := 19) (oi := ⟨some 59, _, _, _, _, _⟩) (v := ?lav19) rfl (by kernel_rfl) (by kernel_rfl) (by kernel_rfl) (fun _ _ _ h => h) (Or.inl ⟨by rfl, ?lahy19⟩) hHeld ?lar19
          case lahy19 => (intro w hSw; (try dsimp only at hSw); go_simp; (try with_reducible rfl))
          (try simp only [Act.put, List.setIfInBounds_toArray, List.set_cons_zero, List.set_cons_succ])
          refine wpAnyH_take (i := 20) (oi := ⟨some 60, _, _, _, _, _⟩) (v := ?lav20) rfl (by kernel_rfl) (by kernel_rfl) (by kernel_rfl) (fun _ _ _ h => h) (Or.inl ⟨by rfl, ?lahy20⟩) hHeld ?lar20
          case lahy20 => (intro w hSw; (try dsimp only at hSw); go_simp; (try with_reducible rfl))
          (try simp only [Act.put, List.setIfInBounds_toArray, List.set_cons_zero, List.set_cons_succ])
          refine wpAnyH_ready (rs := [21]) (by kernel_rfl) (by simp) ?lac21
          refine AllReadyH.cons (o := ⟨some 61, _, _, _, _, _⟩) rfl (fun K hK => ?last21) AllReadyH.nil
          go_simp
          (refine (Now_any (HCL.out.below KB.toBelow)).mono ?_; rintro e wx ⟨rfl, rfl⟩)
          refine hK.out _ _ ?lak21 (fun hHeld2 => ?lam21)
          case lak21 => exact KN.at_ (by repeat (first | exact Has.here | refine Has.there ?_))
          clear hK K hHeld
          have hHeld := hHeld2; clear hHeld2
          (try simp only [Act.put, List.setIfInBounds_toArray, List.set_cons_zero, List.set_cons_succ])
          refine wpAnyH_take (i := 22) (oi := ⟨some 62, _, _, _, _, _⟩) (v := ?lav22) rfl (by kernel_rfl) (by kernel_rfl) (by kernel_rfl) (fun _ _ _ h => h) (Or.inl ⟨by rfl, ?lahy22⟩) hHeld ?lar22
          case lahy22 => (intro w hSw; (try dsimp only at hSw); go_simp; (try with_reducible rfl))
          (try simp only [Act.put, List.setIfInBounds_toArray, List.set_cons_zero, List.set_cons_succ])
          refine wpAnyH_take (i := 23) (oi := ⟨some 63, _, _, _, _, _⟩) (v := ?lav23) rfl (by kernel_rfl) (by kernel_rfl) (by kernel_rfl) (fun _ _ _ h => h) (Or.inl ⟨by rfl, ?lahy23⟩) hHeld ?lar23
          case lahy23 => (intro w hSw; (try dsimp only at hSw); go_simp; (try with_reducible rfl))
          (try simp only [Act.put, List.setIfInBounds_toArray, List.set_cons_zero, List.set_cons_succ])
          refine wpAnyH_done (by kernel_rfl) ?ladone _
          go_wp2_with fail
          go_loopw [5] (fun i wr => LwLoop w w0 nw #[.slice wa nw wc, .int .i64 (sm : Int), .int .i64 sl, .slice ra no rc, .slice oa no oc] g1 i wr) (fun i _ => nw - (intOf i).toNat)
          case atStart => exact ⟨0, rfl, Nat.zero_le _, KN, KB⟩
          case round =>
            clear KN KB
            obtain ⟨k, rfl, hk, KN, KB⟩ := hrel
            by_cases hlt : k < nw
            · by_cases hks : k < sm
              · have HKS := Lib.hid (decide_eq_true hks)
                have eks : decide (k < sm) = true := decide_eq_true hks
                go_upto_region 11 with (first | ((with_reducible refine wpList_gate ?_); first | ((with_reducible refine gate_load ?_ ?_); rfl; first | (refine ks_load1 KN 22 Tryz.underlying22 ?_) | (refine ks_load1 KN 23 Tryz.underlying23 ?_) | (refine ks_loadW KN 25 Tryz.underlying25 ?_) | (refine ks_load1 KN 3 Tryz.underlying3 ?_)) | ((with_reducible refine gate_new ?_ ?_); rfl; first | (refine ks_boxA KN 25 (q := 1) ?_; clear KN; intro g1 wx hg1 KN))))
                (try go_frame)
                replace KN := KN.drew
                replace KB := KB.drew
                refine wp_region_held_drew (S := (fun w' => BlkT w' g1 #[.slice wa nw wc, .int .i64 (sm : Int), .int .i64 sl, .slice ra no rc, .slice oa no oc] 25)) (by kernel_rfl) ?lbhS (fun hHeld => ?lbrest)
                case lbhS => exact KN.at_ (by repeat (first | exact Has.here | refine Has.there ?_))
                refine wpAnyH_take (i := 0) (oi := ⟨some 71, _, _, _, _, _⟩) (v := ?lbv0) rfl (by kernel_rfl) (by kernel_rfl) (by kernel_rfl) (fun _ _ _ h => h) (Or.inl ⟨by rfl, ?lbhy0⟩) hHeld ?lbr0
                case lbhy0 => (intro w hSw; (try dsimp only at hSw); go_simp; (try with_reducible rfl))
                (try simp only [Act.put, List.setIfInBounds_toArray, List.set_cons_zero, List.set_cons_succ])
                refine wpAnyH_take (i := 1) (oi := ⟨some 72, _, _, _, _, _⟩) (v := ?lbv1) rfl (by kernel_rfl) (by kernel_rfl) (by kernel_rfl) (fun _ _ _ h => h) (Or.inl ⟨by rfl, ?lbhy1⟩) hHeld ?lbr1
                case lbhy1 => (intro w hSw; (try dsimp only at hSw); go_simp; (try with_reducible rfl))
                (try simp only [Act.put, List.setIfInBounds_toArray, List.set_cons_zero, List.set_cons_succ])
                refine wpAnyH_take (i := 3) (oi := ⟨some 74, _, _, _, _, _⟩) (v := ?lbv3) rfl (by kernel_rfl) (by kernel_rfl) (by kernel_rfl) (fun _ _ _ h => h) (Or.inl ⟨by rfl, ?lbhy3⟩) hHeld ?lbr3
                case lbhy3 => (intro w hSw; (try dsimp only at hSw); go_simp; (try with_reducible rfl))
                (try simp only [Act.put, List.setIfInBounds_toArray, List.set_cons_zero, List.set_cons_succ])
                refine wpAnyH_take (i := 4) (oi := ⟨some 75, _, _, _, _, _⟩) (v := ?lbv4) rfl (by kernel_rfl) (by kernel_rfl) (by kernel_rfl) (fun _ _ _ h => h) (Or.inl ⟨by rfl, ?lbhy4⟩) hHeld ?lbr4
                case lbhy4 => (intro w hSw; (try dsimp only at hSw); go_simp; (try with_reducible rfl))
                (try simp only [Act.put, List.setIfInBounds_toArray, List.set_cons_zero, List.set_cons_succ])
                refine wpAnyH_take (i := 5) (oi := ⟨some 76, _, _, _, _, _⟩) (v := (.int .i64 (sm : Int))) rfl (by kernel_rfl) (by kernel_rfl) (by kernel_rfl) (fun _ _ _ h => h) (kn_yields1 (by rfl) 3 _ rfl g1 1 rfl _ 25 (fun _ h => h) _ rfl _ Tryz.underlying3 rfl) hHeld ?lbr5
                (try simp only [Act.put, List.setIfInBounds_toArray, List.set_cons_zero, List.set_cons_succ])
                refine wpAnyH_take (i := 6) (oi := ⟨some 77, _, _, _, _, _⟩) (v := ?lbv6) rfl (by kernel_rfl) (by kernel_rfl) (by kernel_rfl) (fun _ _ _ h => h) (Or.inl ⟨by rfl, ?lbhy6⟩) hHeld ?lbr6
                case lbhy6 => (intro w hSw; (try dsimp only at hSw); go_simp; (try with_reducible rfl))
                (try simp only [Act.put, List.setIfInBounds_toArray, List.set_cons_zero, List.set_cons_succ])
                refine wpAnyH_ready (rs := [2]) (by kernel_rfl) (by simp) ?lbc2
                refine AllReadyH.cons (o := ⟨some 73, _, _, _, _, _⟩) rfl (fun K hK => ?lbst2) AllReadyH.nil
                go_simp
                (refine (Running_any (HCL.out.below KB.toBelow) k hlt).mono ?_; rw [HKS.out]; rintro e wx ⟨rfl, rfl⟩)
                refine hK.out _ _ ?lbk2 (fun hHeld2 => ?lbm2)
                case lbk2 => exact KN.at_ (by repeat (first | exact Has.here | refine Has.there ?_))
                clear hK K hHeld
                have hHeld := hHeld2; clear hHeld2
                (try simp only [Act.put, List.setIfInBounds_toArray, List.set_cons_zero, List.set_cons_succ])
                refine wpAnyH_take (i := 7) (oi := ⟨some 78, _, _, _, _, _⟩) (v := ?lbv7) rfl (by kernel_rfl) (by kernel_rfl) (by kernel_rfl) (fun _ _ _ h => h) (Or.inl ⟨by rfl, ?lbhy7⟩) hHeld ?lbr7
                case lbhy7 => (intro w hSw; (try dsimp only at hSw); go_simp; (try with_reducible rfl))
                (try simp only [Act.put, List.setIfInBounds_toArray, List.set_cons_zero, List.set_cons_succ])
                refine wpAnyH_done (by kernel_rfl) ?lbdone _
                go_wp2_with fail
                go_roundw
                case rel => exact ⟨k + 1, by go_num, by omega, KN, KB⟩
                case measure => simp [intOf]; omega
              · have HKS := Lib.hid (decide_eq_false hks)
                have eks : decide (k < sm) = false := decide_eq_false hks
                go_upto_region 11 with (first | ((with_reducible refine wpList_gate ?_); first | ((with_reducible refine gate_load ?_ ?_); rfl; first | (refine ks_load1 KN 22 Tryz.underlying22 ?_) | (refine ks_load1 KN 23 Tryz.underlying23 ?_) | (refine ks_loadW KN 25 Tryz.underlying25 ?_) | (refine ks_load1 KN 3 Tryz.underlying3 ?_)) | ((with_reducible refine gate_new ?_ ?_); rfl; first | (refine ks_boxA KN 25 (q := 1) ?_; clear KN; intro g1 wx hg1 KN))))
                (try go_frame)
                replace KN := KN.drew
                replace KB := KB.drew
                refine wp_region_held_drew (S := (fun w' => BlkT w' g1 #[.slice wa nw wc, .int .i64 (sm : Int), .int .i64 sl, .slice ra no rc, .slice oa no oc] 25)) (by kernel_rfl) ?lchS (fun hHeld => ?lcrest)
                case lchS => exact KN.at_ (by repeat (first | exact Has.here | refine Has.there ?_))
                refine wpAnyH_take (i := 0) (oi := ⟨some 71, _, _, _, _, _⟩) (v := ?lcv0) rfl (by kernel_rfl) (by kernel_rfl) (by kernel_rfl) (fun _ _ _ h => h) (Or.inl ⟨by rfl, ?lchy0⟩) hHeld ?lcr0
                case lchy0 => (intro w hSw; (try dsimp only at hSw); go_simp; (try with_reducible rfl))
                (try simp only [Act.put, List.setIfInBounds_toArray, List.set_cons_zero, List.set_cons_succ])
                refine wpAnyH_take (i := 1) (oi := ⟨some 72, _, _, _, _, _⟩) (v := ?lcv1) rfl (by kernel_rfl) (by kernel_rfl) (by kernel_rfl) (fun _ _ _ h => h) (Or.inl ⟨by rfl, ?lchy1⟩) hHeld ?lcr1
                case lchy1 => (intro w hSw; (try dsimp only at hSw); go_simp; (try with_reducible rfl))
                (try simp only [Act.put, List.setIfInBounds_toArray, List.set_cons_zero, List.set_cons_succ])
                refine wpAnyH_take (i := 3) (oi := ⟨some 74, _, _, _, _, _⟩) (v := ?lcv3) rfl (by kernel_rfl) (by kernel_rfl) (by kernel_rfl) (fun _ _ _ h => h) (Or.inl ⟨by rfl, ?lchy3⟩) hHeld ?lcr3
                case lchy3 => (intro w hSw; (try dsimp only at hSw); go_simp; (try with_reducible rfl))
                (try simp only [Act.put, List.setIfInBounds_toArray, List.set_cons_zero, List.set_cons_succ])
                refine wpAnyH_take (i := 4) (oi := ⟨some 75, _, _, _, _, _⟩) (v := ?lcv4) rfl (by kernel_rfl) (by kernel_rfl) (by kernel_rfl) (fun _ _ _ h => h) (Or.inl ⟨by rfl, ?lchy4⟩) hHeld ?lcr4
                case lchy4 => (intro w hSw; (try dsimp only at hSw); go_simp; (try with_reducible rfl))
                (try simp only [Act.put, List.setIfInBounds_toArray, List.set_cons_zero, List.set_cons_succ])
                refine wpAnyH_take (i := 5) (oi := ⟨some 76, _, _, _, _, _⟩) (v := (.int .i64 (sm : Int))) rfl (by kernel_rfl) (by kernel_rfl) (by kernel_rfl) (fun _ _ _ h => h) (kn_yields1 (by rfl) 3 _ rfl g1 1 rfl _ 25 (fun _ h => h) _ rfl _ Tryz.underlying3 rfl) hHeld ?lcr5
                (try simp only [Act.put, List.setIfInBounds_toArray, List.set_cons_zero, List.set_cons_succ])
                refine wpAnyH_take (i := 6) (oi := ⟨some 77, _, _, _, _, _⟩) (v := ?lcv6) rfl (by kernel_rfl) (by kernel_rfl) (by kernel_rfl) (fun _ _ _ h => h) (Or.inl ⟨by rfl, ?lchy6⟩) hHeld ?lcr6
                case lchy6 => (intro w hSw; (try dsimp only at hSw); go_simp; (try with_reducible rfl))
                (try simp only [Act.put, List.setIfInBounds_toArray, List.set_cons_zero, List.set_cons_succ])
                refine wpAnyH_ready (rs := [2]) (by kernel_rfl) (by simp) ?lcc2
                refine AllReadyH.cons (o := ⟨some 73, _, _, _, _, _⟩) rfl (fun K hK => ?lcst2) AllReadyH.nil
                go_simp
                (refine (Running_any (HCL.out.below KB.toBelow) k hlt).mono ?_; rw [HKS.out]; rintro e wx ⟨rfl, rfl⟩)
                refine hK.out _ _ ?lck2 (fun hHeld2 => ?lcm2)
                case lck2 => exact KN.at_ (by repeat (first | exact Has.here | refine Has.there ?_))
                clear hK K hHeld
                have hHeld := hHeld2; clear hHeld2
                (try simp only [Act.put, List.setIfInBounds_toArray, List.set_cons_zero, List.set_cons_succ])
                refine wpAnyH_take (i := 7) (oi := ⟨some 78, _, _, _, _, _⟩) (v := ?lcv7) rfl (by kernel_rfl) (by kernel_rfl) (by kernel_rfl) (fun _ _ _ h => h) (Or.inl ⟨by rfl, ?lchy7⟩) hHeld ?lcr7
                case lchy7 => (intro w hSw; (try dsimp only at hSw); go_simp; (try with_reducible rfl))
                (try simp only [Act.put, List.setIfInBounds_toArray, List.set_cons_zero, List.set_cons_succ])
                refine wpAnyH_done (by kernel_rfl) ?lcdone _
                go_wp2_with fail
                go_roundw
                case rel => exact ⟨k + 1, by go_num, by omega, KN, KB⟩
                case measure => simp [intOf]; omega
            · obtain rfl : nw = k := by omega
              go_wp2_with (first | (go_at_call 4; refine (HAW.out _).mono ?_; rintro e wx ⟨rfl, hb1⟩; replace KN := KN.below hb1; clear hb1) | ((with_reducible refine wpList_gate ?_); first | ((with_reducible refine gate_load ?_ ?_); rfl; first | (refine ks_load1 KN 22 Tryz.underlying22 ?_) | (refine ks_load1 KN 23 Tryz.underlying23 ?_) | (refine ks_loadW KN 25 Tryz.underlying25 ?_) | (refine ks_load1 KN 3 Tryz.underlying3 ?_)) | ((with_reducible refine gate_new ?_ ?_); rfl; first | (refine ks_boxA KN 25 (q := 1) ?_; clear KN; intro g1 wx hg1 KN))))
              go_ret
              exact ⟨rfl, KN.toBelow⟩
        · have HV := Lib.hid hv
          have hpn : ∀ wz, Sem.run Tryz.prog (binOp .eql 27 (.pointer none) (.pointer none)) wz = .ok (.bool true) wz := fun wz => by kernel_rfl
          clear hv
          go_enter Tryz.func3, Tryz.ntmps3
          go_wp2_with (first | (go_at_call 4; refine (HAW.out _).mono ?_; rintro e wx ⟨rfl, hb1⟩; replace KN := KN.below hb1; clear hb1) | (go_at_call 5; refine (HBAD.out HV.out _ KN.toBelow).mono ?_; rintro e wx ⟨rfl, hb1⟩; replace KN := KN.below hb1; clear hb1) | (go_at_call 6; refine (HRV.out _ KN.toBelow).mono ?_; rintro e wx ⟨b, rfl, hb, hb1⟩; obtain rfl : b = false := (by cases b with | true => exact absurd (hb.1 rfl) HV.out | false => rfl); replace KN := KN.below hb1; clear hb hb1) | ((with_reducible refine wpList_gate ?_); first | ((with_reducible refine gate_load ?_ ?_); rfl; first | (refine ks_load1 KN 22 Tryz.underlying22 ?_) | (refine ks_load1 KN 23 Tryz.underlying23 ?_) | (refine ks_loadW KN 25 Tryz.underlying25 ?_) | (refine ks_load1 KN 3 Tryz.underlying3 ?_)) | ((with_reducible refine gate_new ?_ ?_); rfl; first | (refine ks_boxA KN 25 (q := 1) ?_; clear KN; intro g1 wx hg1 KN))))
          go_ret
          exact ⟨rfl, KN.toBelow⟩
end Go.Proofs.YtlhmeeidlhpodaaGreat
