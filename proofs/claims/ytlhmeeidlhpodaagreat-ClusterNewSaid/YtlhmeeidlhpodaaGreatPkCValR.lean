/- The reference's ValidConfig: valid configurations. -/
import Derived.Test.YtlhmeeidlhpodaaGreatPkCValP
set_option linter.unusedVariables false
set_option linter.unusedSimpArgs false
set_option linter.unusedSectionVars false
namespace Go.Proofs.YtlhmeeidlhpodaaGreat
open Go.RowKit Go.BigFrame
def O2Loop (c : Cfg) (r : Reg) (cells : Array Value) (g n : Nat) (w : World) (i : Value) (wr : World) : Prop := ∃ k : Nat, i = .int .i64 (k : Int) ∧ k ≤ n ∧ NoOv c r k ∧ Kn [] w wr [(g, At cells 25)]
set_option maxRecDepth 100000 in
set_option maxHeartbeats 16000000 in
theorem RValidC_any {w : World} {sw sr so : Value} {c : Cfg} (h : CfgRd w sw sr so c) : Calls Tryz.prog 6 #[.agg #[sw, .int .i64 c.st, .int .i64 c.sl, sr, so]] w (VOut c w) := by
  have KN := Kn.start w
  have HC := Lib.hid h
  obtain ⟨wa, wc, rfl, hwm, hwf⟩ := ints_form h.rw_
  obtain ⟨ra, rc, rfl, hrm, hrf⟩ := reg_at h.rr
  obtain ⟨oa, oc, rfl, hom, hof⟩ := ints_form h.ro
  have HWF := Lib.hid hwf
  have HRF := Lib.hid hrf
  have HOF := Lib.hid hof
  obtain ⟨st0, st1⟩ := h.ist
  obtain ⟨sl0, sl1⟩ := h.isl
  obtain ⟨st, hst⟩ : ∃ x, x = c.st := ⟨_, rfl⟩
  obtain ⟨sl, hsl⟩ : ∃ x, x = c.sl := ⟨_, rfl⟩
  obtain ⟨nw, hnw⟩ : ∃ n, n = c.ws.length := ⟨_, rfl⟩
  obtain ⟨nr, hnr⟩ : ∃ n, n = c.rs.length := ⟨_, rfl⟩
  obtain ⟨no, hno⟩ : ∃ n, n = c.os.length := ⟨_, rfl⟩
  have HST := Lib.hid hst
  have HSL := Lib.hid hsl
  have HNW := Lib.hid hnw
  have HNR := Lib.hid hnr
  have HNO := Lib.hid hno
  rw [← hst] at st0 st1 ⊢
  rw [← hsl] at sl0 sl1 ⊢
  rw [← hnw] at hwm ⊢
  rw [← hnr] at hrm ⊢
  rw [← hno] at hom ⊢
  unfold maxLen at hwm hrm hom
  clear h hwf hrf hof hst hsl hnw hnr hno
  have HV : Hid (ValidC c → 1 ≤ nw ∧ nw ≤ 32 ∧ 1 ≤ st ∧ st ≤ nw ∧ 1 ≤ sl ∧ sl ≤ 64 ∧ nr ≤ 16 ∧ no = nr) := Lib.hid fun q => ⟨by rw [HNW.out]; exact q.head.w1, by rw [HNW.out]; exact q.head.w2, by rw [HST.out]; exact q.head.s1, by rw [HST.out, HNW.out]; exact q.head.s2, by rw [HSL.out]; exact q.head.l1, by rw [HSL.out]; exact q.head.l2, by rw [HNR.out]; exact q.head.r1, by rw [HNO.out, HNR.out]; exact q.head.o1⟩
  by_cases h0 : (nw : Int) < 1
  · have HF : Hid (¬ ValidC c) := Lib.hid fun q => by have := HV.out q; omega
    have e0 : decide ((nw : Int) < 1) = true := decide_eq_true h0
    go_enter Tryz.func6, Tryz.ntmps6
    go_wp2_with (first | ((with_reducible refine wpList_gate ?_); first | ((with_reducible refine gate_load ?_ ?_); rfl; first | (refine ks_load1 KN 22 Tryz.underlying22 ?_) | (refine ks_load1 KN 3 Tryz.underlying3 ?_) | (refine ks_load1 KN 23 Tryz.underlying23 ?_) | (refine ks_loadW KN 57 Tryz.underlying57 ?_)) | ((with_reducible refine gate_new ?_ ?_); rfl; first | (refine ks_boxA KN 25 (q := 1) ?_; clear KN; intro g1 wx hg1 KN))))
    go_ret
    exact VOut.no HF.out KN.toBelow
  have e0 : decide ((nw : Int) < 1) = false := decide_eq_false h0
  by_cases h1 : (32 : Int) < (nw : Int)
  · have HF : Hid (¬ ValidC c) := Lib.hid fun q => by have := HV.out q; omega
    have e1 : decide ((32 : Int) < (nw : Int)) = true := decide_eq_true h1
    go_enter Tryz.func6, Tryz.ntmps6
    go_wp2_with (first | ((with_reducible refine wpList_gate ?_); first | ((with_reducible refine gate_load ?_ ?_); rfl; first | (refine ks_load1 KN 22 Tryz.underlying22 ?_) | (refine ks_load1 KN 3 Tryz.underlying3 ?_) | (refine ks_load1 KN 23 Tryz.underlying23 ?_) | (refine ks_loadW KN 57 Tryz.underlying57 ?_)) | ((with_reducible refine gate_new ?_ ?_); rfl; first | (refine ks_boxA KN 25 (q := 1) ?_; clear KN; intro g1 wx hg1 KN))))
    go_ret
    exact VOut.no HF.out KN.toBelow
  have e1 : decide ((32 : Int) < (nw : Int)) = false := decide_eq_false h1
  by_cases h2 : st < 1
  · have HF : Hid (¬ ValidC c) := Lib.hid fun q => by have := HV.out q; omega
    have e2 : decide (st < 1) = true := decide_eq_true h2
    go_enter Tryz.func6, Tryz.ntmps6
    go_wp2_with (first | ((with_reducible refine wpList_gate ?_); first | ((with_reducible refine gate_load ?_ ?_); rfl; first | (refine ks_load1 KN 22 Tryz.underlying22 ?_) | (refine ks_load1 KN 3 Tryz.underlying3 ?_) | (refine ks_load1 KN 23 Tryz.underlying23 ?_) | (refine ks_loadW KN 57 Tryz.underlying57 ?_)) | ((with_reducible refine gate_new ?_ ?_); rfl; first | (refine ks_boxA KN 25 (q := 1) ?_; clear KN; intro g1 wx hg1 KN))))
    go_ret
    exact VOut.no HF.out KN.toBelow
  have e2 : decide (st < 1) = false := decide_eq_false h2
  by_cases h3 : (nw : Int) < st
  · have HF : Hid (¬ ValidC c) := Lib.hid fun q => by have := HV.out q; omega
    have e3 : decide ((nw : Int) < st) = true := decide_eq_true h3
    go_enter Tryz.func6, Tryz.ntmps6
    go_wp2_with (first | ((with_reducible refine wpList_gate ?_); first | ((with_reducible refine gate_load ?_ ?_); rfl; first | (refine ks_load1 KN 22 Tryz.underlying22 ?_) | (refine ks_load1 KN 3 Tryz.underlying3 ?_) | (refine ks_load1 KN 23 Tryz.underlying23 ?_) | (refine ks_loadW KN 57 Tryz.underlying57 ?_)) | ((with_reducible refine gate_new ?_ ?_); rfl; first | (refine ks_boxA KN 25 (q := 1) ?_; clear KN; intro g1 wx hg1 KN))))
    go_ret
    exact VOut.no HF.out KN.toBelow
  have e3 : decide ((nw : Int) < st) = false := decide_eq_false h3
  by_cases h4 : sl < 1
  · have HF : Hid (¬ ValidC c) := Lib.hid fun q => by have := HV.out q; omega
    have e4 : decide (sl < 1) = true := decide_eq_true h4
    go_enter Tryz.func6, Tryz.ntmps6
    go_wp2_with (first | ((with_reducible refine wpList_gate ?_); first | ((with_reducible refine gate_load ?_ ?_); rfl; first | (refine ks_load1 KN 22 Tryz.underlying22 ?_) | (refine ks_load1 KN 3 Tryz.underlying3 ?_) | (refine ks_load1 KN 23 Tryz.underlying23 ?_) | (refine ks_loadW KN 57 Tryz.underlying57 ?_)) | ((with_reducible refine gate_new ?_ ?_); rfl; first | (refine ks_boxA KN 25 (q := 1) ?_; clear KN; intro g1 wx hg1 KN))))
    go_ret
    exact VOut.no HF.out KN.toBelow
  have e4 : decide (sl < 1) = false := decide_eq_false h4
  by_cases h5 : 64 < sl
  · have HF : Hid (¬ ValidC c) := Lib.hid fun q => by have := HV.out q; omega
    have e5 : decide (64 < sl) = true := decide_eq_true h5
    go_enter Tryz.func6, Tryz.ntmps6
    go_wp2_with (first | ((with_reducible refine wpList_gate ?_); first | ((with_reducible refine gate_load ?_ ?_); rfl; first | (refine ks_load1 KN 22 Tryz.underlying22 ?_) | (refine ks_load1 KN 3 Tryz.underlying3 ?_) | (refine ks_load1 KN 23 Tryz.underlying23 ?_) | (refine ks_loadW KN 57 Tryz.underlying57 ?_)) | ((with_reducible refine gate_new ?_ ?_); rfl; first | (refine ks_boxA KN 25 (q := 1) ?_; clear KN; intro g1 wx hg1 KN))))
    go_ret
    exact VOut.no HF.out KN.toBelow
  have e5 : decide (64 < sl) = false := decide_eq_false h5
  by_cases h6 : (16 : Int) < (nr : Int)
  · have HF : Hid (¬ ValidC c) := Lib.hid fun q => by have := HV.out q; omega
    have e6 : decide ((16 : Int) < (nr : Int)) = true := decide_eq_true h6
    go_enter Tryz.func6, Tryz.ntmps6
    go_wp2_with (first | ((with_reducible refine wpList_gate ?_); first | ((with_reducible refine gate_load ?_ ?_); rfl; first | (refine ks_load1 KN 22 Tryz.underlying22 ?_) | (refine ks_load1 KN 3 Tryz.underlying3 ?_) | (refine ks_load1 KN 23 Tryz.underlying23 ?_) | (refine ks_loadW KN 57 Tryz.underlying57 ?_)) | ((with_reducible refine gate_new ?_ ?_); rfl; first | (refine ks_boxA KN 25 (q := 1) ?_; clear KN; intro g1 wx hg1 KN))))
    go_ret
    exact VOut.no HF.out KN.toBelow
  have e6 : decide ((16 : Int) < (nr : Int)) = false := decide_eq_false h6
  by_cases h8 : no = nr
  · subst h8
    have hne : ((no : Int) != (no : Int)) = false := by simp
    go_enter Tryz.func6, Tryz.ntmps6
    go_wp2_with (first | ((with_reducible refine wpList_gate ?_); first | ((with_reducible refine gate_load ?_ ?_); rfl; first | (refine ks_load1 KN 22 Tryz.underlying22 ?_) | (refine ks_load1 KN 3 Tryz.underlying3 ?_) | (refine ks_load1 KN 23 Tryz.underlying23 ?_) | (refine ks_loadW KN 57 Tryz.underlying57 ?_)) | ((with_reducible refine gate_new ?_ ?_); rfl; first | (refine ks_boxA KN 25 (q := 1) ?_; clear KN; intro g1 wx hg1 KN))))
    go_loopw [3] (fun i wr => WLoop c #[.slice wa nw wc, .int .i64 st, .int .i64 sl, .slice ra no rc, .slice oa no oc] g1 nw w i wr) (fun i _ => nw - (intOf i).toNat)
    case atStart => exact ⟨0, rfl, Nat.zero_le _, WidOk.zero c, KN⟩
    case round =>
      clear KN
      obtain ⟨k, rfl, hk, hwid, KN⟩ := hrel
      have HWID := Lib.hid hwid
      clear hwid
      by_cases hlt : k < nw
      · obtain ⟨x, hx⟩ : ∃ x, c.ws[k]? = some x := ⟨_, List.getElem?_eq_getElem (by rw [← HNW.out]; exact hlt)⟩
        obtain ⟨g, off, rfl, hg, hc1, hc2, hcell⟩ := HWF.out k x hx
        rw [← HNW.out] at hc1
        unfold maxLen at hc2
        have HX := Lib.hid hcell
        have HXX := Lib.hid hx
        clear hcell hx
        by_cases x32 : x = 32
        · subst x32
          go_wp2_with (first | ((with_reducible refine wpList_gate ?_); first | ((with_reducible refine gate_load ?_ ?_); rfl; first | (refine wpList_kn_old1 KN (by rfl) 3 _ rfl g _ rfl _ HX.out (by simp) _ Tryz.underlying3 rfl ?_) | (refine ks_load1 KN 22 Tryz.underlying22 ?_) | (refine ks_load1 KN 3 Tryz.underlying3 ?_) | (refine ks_load1 KN 23 Tryz.underlying23 ?_) | (refine ks_loadW KN 57 Tryz.underlying57 ?_)) | ((with_reducible refine gate_new ?_ ?_); rfl; first | (refine ks_boxA KN 25 (q := 1) ?_; clear KN; intro g1 wx hg1 KN))))
          go_roundw
          case rel => exact ⟨k + 1, by go_num, by omega, HWID.out.succ HXX.out (.inl rfl), KN⟩
          case measure => simp [intOf]; omega
        · have q32 : (x != 32) = true := by simp [x32]
          by_cases x39 : x = 39
          · subst x39
            go_wp2_with (first | ((with_reducible refine wpList_gate ?_); first | ((with_reducible refine gate_load ?_ ?_); rfl; first | (refine wpList_kn_old1 KN (by rfl) 3 _ rfl g _ rfl _ HX.out (by simp) _ Tryz.underlying3 rfl ?_) | (refine ks_load1 KN 22 Tryz.underlying22 ?_) | (refine ks_load1 KN 3 Tryz.underlying3 ?_) | (refine ks_load1 KN 23 Tryz.underlying23 ?_) | (refine ks_loadW KN 57 Tryz.underlying57 ?_)) | ((with_reducible refine gate_new ?_ ?_); rfl; first | (refine ks_boxA KN 25 (q := 1) ?_; clear KN; intro g1 wx hg1 KN))))
            go_roundw
            case rel => exact ⟨k + 1, by go_num, by omega, HWID.out.succ HXX.out (.inr rfl), KN⟩
            case measure => simp [intOf]; omega
          · have q39 : (x != 39) = true := by simp [x39]
            have HF : Hid (¬ ValidC c) := Lib.hid fun q => by rcases q.wid x (List.mem_of_getElem? HXX.out) with h | h <;> contradiction
            clear x32 x39
            go_wp2_with (first | ((with_reducible refine wpList_gate ?_); first | ((with_reducible refine gate_load ?_ ?_); rfl; first | (refine wpList_kn_old1 KN (by rfl) 3 _ rfl g _ rfl _ HX.out (by simp) _ Tryz.underlying3 rfl ?_) | (refine ks_load1 KN 22 Tryz.underlying22 ?_) | (refine ks_load1 KN 3 Tryz.underlying3 ?_) | (refine ks_load1 KN 23 Tryz.underlying23 ?_) | (refine ks_loadW KN 57 Tryz.underlying57 ?_)) | ((with_reducible refine gate_new ?_ ?_); rfl; first | (refine ks_boxA KN 25 (q := 1) ?_; clear KN; intro g1 wx hg1 KN))))
            go_ret
            exact VOut.no HF.out KN.toBelow
      · obtain rfl : nw = k := by omega
        have HWALL := Lib.hid (HWID.out.all HNW.out)
        go_wp2_with (first | ((with_reducible refine wpList_gate ?_); first | ((with_reducible refine gate_load ?_ ?_); rfl; first | (refine ks_load1 KN 22 Tryz.underlying22 ?_) | (refine ks_load1 KN 3 Tryz.underlying3 ?_) | (refine ks_load1 KN 23 Tryz.underlying23 ?_) | (refine ks_loadW KN 57 Tryz.underlying57 ?_)) | ((with_reducible refine gate_new ?_ ?_); rfl; first | (refine ks_boxA KN 25 (q := 1) ?_; clear KN; intro g1 wx hg1 KN))))
        go_loopw [4] (fun i wr => GLoop c #[.slice wa nw wc, .int .i64 st, .int .i64 sl, .slice ra no rc, .slice oa no oc] g1 no w i wr) (fun i _ => no - (intOf i).toNat)
        case atStart => exact ⟨0, rfl, Nat.zero_le _, RegsOk.zero c, KN⟩
        case round =>
          clear KN
          obtain ⟨k, rfl, hk, hreg, KN⟩ := hrel
          have HREG := Lib.hid hreg
          clear hreg
          by_cases hgt : k < no
          · obtain ⟨⟨b0, k0, d0⟩, hr⟩ : ∃ r, c.rs[k]? = some r := ⟨_, List.getElem?_eq_getElem (by rw [← HNR.out]; exact hgt)⟩
            obtain ⟨o, ho⟩ : ∃ o, c.os[k]? = some o := ⟨_, List.getElem?_eq_getElem (by rw [← HNO.out]; exact hgt)⟩
            obtain ⟨gr, offr, rfl, hgr, hr1, hr2, hrng⟩ := HRF.out k _ hr
            obtain ⟨go, offo, rfl, hgo, ho1, ho2, hocell⟩ := HOF.out k o ho
            rw [← HNR.out] at hr1
            rw [← HNO.out] at ho1
            unfold maxLen at hr2 ho2
            have HRR := Lib.hid hr
            have HOO := Lib.hid ho
            have HRNG := Lib.hid hrng
            have HOC := Lib.hid hocell
            have HB := Lib.hid (HC.out.irs _ (List.mem_of_getElem? hr)).1
            have HK := Lib.hid (HC.out.irs _ (List.mem_of_getElem? hr)).2
            obtain ⟨o64, o65⟩ := HC.out.ios _ (List.mem_of_getElem? ho)
            have HRO : Hid (ValidC c → okB b0 k0 ∧ 0 ≤ o ∧ o < st ∧ ∀ (j : Nat) (s : Reg), j < k → c.rs[j]? = some s → ¬ ovlB b0 k0 s.1 s.2.1) := Lib.hid fun q => by rw [HST.out]; exact q.regs.of HRR.out HOO.out
            clear hr ho hrng hocell
            go_upto_region 13 with (first | ((with_reducible refine wpList_gate ?_); first | ((with_reducible refine gate_load ?_ ?_); rfl; first | (refine ks_load1 KN 22 Tryz.underlying22 ?_) | (refine ks_load1 KN 3 Tryz.underlying3 ?_) | (refine ks_load1 KN 23 Tryz.underlying23 ?_) | (refine ks_loadW KN 57 Tryz.underlying57 ?_)) | ((with_reducible refine gate_new ?_ ?_); rfl; first | (refine ks_boxA KN 25 (q := 1) ?_; clear KN; intro g1 wx hg1 KN))))
            (try go_frame)
            replace KN := KN.drew
            by_cases o0 : o < 0
            · have q0 : decide (o < 0) = true := decide_eq_true o0
              have HF : Hid (¬ ValidC c) := Lib.hid fun q => by have := (HRO.out q).2.1; omega
              refine wp_region_held_drew (S := (fun w' => BlkT w' g1 #[.slice wa nw wc, .int .i64 st, .int .i64 sl, .slice (some ⟨gr, offr, none⟩) no rc, .slice (some ⟨go, offo, none⟩) no oc] 25 ∧ w'.cell? ⟨go, offo + k, none⟩ = some (.int .i64 o) ∧ w'.rangeAt gr (offr + k * 3) [Value.int .i64 b0, .int .i64 k0, .bool d0])) (by kernel_rfl) ?rahS (fun hHeld => ?rarest)
              case rahS => exact ⟨KN.at_ (by repeat (first | exact Has.here | refine Has.there ?_)), (KN.old hgo (by simp)).trans HOC.out, fun j v hj => (KN.old hgr (by simp)).trans (HRNG.out j v hj)⟩
              refine wpAnyH_take (i := 0) (oi := ⟨some 80, _, _, _, _, _⟩) (v := ?rav0) rfl (by kernel_rfl) (by kernel_rfl) (by kernel_rfl) (fun _ _ _ h => h) (Or.inl ⟨by rfl, ?rahy0⟩) hHeld ?rar0
              case rahy0 => (intro w hSw; (try dsimp only at hSw); go_simp; (try with_reducible rfl))
              (try simp only [Act.put, List.setIfInBounds_toArray, List.set_cons_zero, List.set_cons_succ])
              refine wpAnyH_take (i := 1) (oi := ⟨some 81, _, _, _, _, _⟩) (v := (.slice (some ⟨go, offo, none⟩) no oc)) rfl (by kernel_rfl) (by kernel_rfl) (by kernel_rfl) (fun _ _ _ h => h) (kn_yields1 (by rfl) 22 _ rfl g1 4 rfl _ 25 (fun _ h => h.1) _ rfl _ Tryz.underlying22 rfl) hHeld ?rar1
              (try simp only [Act.put, List.setIfInBounds_toArray, List.set_cons_zero, List.set_cons_succ])
              refine wpAnyH_take (i := 2) (oi := ⟨some 82, _, _, _, _, _⟩) (v := ?rav2) rfl (by kernel_rfl) (by kernel_rfl) (by kernel_rfl) (fun _ _ _ h => h) (Or.inl ⟨by rfl, ?rahy2⟩) hHeld ?rar2
              case rahy2 => (intro w hSw; (try dsimp only at hSw); go_simp; (try with_reducible rfl))
              (try simp only [Act.put, List.setIfInBounds_toArray, List.set_cons_zero, List.set_cons_succ])
              refine wpAnyH_take (i := 3) (oi := ⟨some 83, _, _, _, _, _⟩) (v := ?rav3) rfl (by kernel_rfl) (by kernel_rfl) (by kernel_rfl) (fun _ _ _ h => h) (Or.inl ⟨by rfl, ?rahy3⟩) hHeld ?rar3
              case rahy3 => (intro w hSw; (try dsimp only at hSw); go_simp; (try with_reducible rfl))
              (try simp only [Act.put, List.setIfInBounds_toArray, List.set_cons_zero, List.set_cons_succ])
              refine wpAnyH_take (i := 4) (oi := ⟨some 84, _, _, _, _, _⟩) (v := (.int .i64 o)) rfl (by kernel_rfl) (by kernel_rfl) (by kernel_rfl) (fun _ _ _ h => h) (kn_yields_cell (by rfl) 3 _ rfl go _ rfl _ (fun _ h => h.2.1) _ Tryz.underlying3 rfl) hHeld ?rar4
              (try simp only [Act.put, List.setIfInBounds_toArray, List.set_cons_zero, List.set_cons_succ])
              refine wpAnyH_take (i := 5) (oi := ⟨some 85, _, _, _, _, _⟩) (v := ?rav5) rfl (by kernel_rfl) (by kernel_rfl) (by kernel_rfl) (fun _ _ _ h => h) (Or.inl ⟨by rfl, ?rahy5⟩) hHeld ?rar5
              case rahy5 => (intro w hSw; (try dsimp only at hSw); go_simp; (try with_reducible rfl))
              (try simp only [Act.put, List.setIfInBounds_toArray, List.set_cons_zero, List.set_cons_succ])
              refine wpAnyH_take (i := 6) (oi := ⟨some 86, _, _, _, _, _⟩) (v := ?rav6) rfl (by kernel_rfl) (by kernel_rfl) (by kernel_rfl) (fun _ _ _ h => h) (Or.inl ⟨by rfl, ?rahy6⟩) hHeld ?rar6
              case rahy6 => (intro w hSw; (try dsimp only at hSw); go_simp; (try with_reducible rfl))
              (try simp only [Act.put, List.setIfInBounds_toArray, List.set_cons_zero, List.set_cons_succ])
              refine wpAnyH_take (i := 7) (oi := ⟨some 87, _, _, _, _, _⟩) (v := undef) rfl (by kernel_rfl) (by kernel_rfl) (by kernel_rfl) (fun _ _ _ h => h) (Or.inr ⟨by rfl, rfl⟩) hHeld ?rar7
              (try simp only [Act.put, List.setIfInBounds_toArray, List.set_cons_zero, List.set_cons_succ])
              refine wpAnyH_take (i := 8) (oi := ⟨some 88, _, _, _, _, _⟩) (v := undef) rfl (by kernel_rfl) (by kernel_rfl) (by kernel_rfl) (fun _ _ _ h => h) (Or.inr ⟨by rfl, rfl⟩) hHeld ?rar8
              (try simp only [Act.put, List.setIfInBounds_toArray, List.set_cons_zero, List.set_cons_succ])
              refine wpAnyH_take (i := 9) (oi := ⟨some 89, _, _, _, _, _⟩) (v := undef) rfl (by kernel_rfl) (by kernel_rfl) (by kernel_rfl) (fun _ _ _ h => h) (Or.inr ⟨by rfl, rfl⟩) hHeld ?rar9
              (try simp only [Act.put, List.setIfInBounds_toArray, List.set_cons_zero, List.set_cons_succ])
              refine wpAnyH_take (i := 10) (oi := ⟨some 90, _, _, _, _, _⟩) (v := undef) rfl (by kernel_rfl) (by kernel_rfl) (by kernel_rfl) (fun _ _ _ h => h) (Or.inr ⟨by rfl, rfl⟩) hHeld ?rar10
              (try simp only [Act.put, List.setIfInBounds_toArray, List.set_cons_zero, List.set_cons_succ])
              refine wpAnyH_take (i := 11) (oi := ⟨some 91, _, _, _, _, _⟩) (v := undef) rfl (by kernel_rfl) (by kernel_rfl) (by kernel_rfl) (fun _ _ _ h => h) (Or.inr ⟨by rfl, rfl⟩) hHeld ?rar11
              (try simp only [Act.put, List.setIfInBounds_toArray, List.set_cons_zero, List.set_cons_succ])
              refine wpAnyH_take (i := 12) (oi := ⟨some 92, _, _, _, _, _⟩) (v := undef) rfl (by kernel_rfl) (by kernel_rfl) (by kernel_rfl) (fun _ _ _ h => h) (Or.inr ⟨by rfl, rfl⟩) hHeld ?rar12
              (try simp only [Act.put, List.setIfInBounds_toArray, List.set_cons_zero, List.set_cons_succ])
              refine wpAnyH_take (i := 13) (oi := ⟨some 93, _, _, _, _, _⟩) (v := undef) rfl (by kernel_rfl) (by kernel_rfl) (by kernel_rfl) (fun _ _ _ h => h) (Or.inr ⟨by rfl, rfl⟩) hHeld ?rar13
              (try simp only [Act.put, List.setIfInBounds_toArray, List.set_cons_zero, List.set_cons_succ])
              refine wpAnyH_take (i := 14) (oi := ⟨some 94, _, _, _, _, _⟩) (v := undef) rfl (by kernel_rfl) (by kernel_rfl) (by kernel_rfl) (fun _ _ _ h => h) (Or.inr ⟨by rfl, rfl⟩) hHeld ?rar14
              (try simp only [Act.put, List.setIfInBounds_toArray, List.set_cons_zero, List.set_cons_succ])
              refine wpAnyH_take (i := 15) (oi := ⟨some 95, _, _, _, _, _⟩) (v := ?rav15) rfl (by kernel_rfl) (by kernel_rfl) (by kernel_rfl) (fun _ _ _ h => h) (Or.inl ⟨by rfl, ?rahy15⟩) hHeld ?rar15
              case rahy15 => (intro w hSw; (try dsimp only at hSw); go_simp; (try with_reducible rfl))
              (try simp only [Act.put, List.setIfInBounds_toArray, List.set_cons_zero, List.set_cons_succ])
              refine wpAnyH_take (i := 16) (oi := ⟨some 96, _, _, _, _, _⟩) (v := ?rav16) rfl (by kernel_rfl) (by kernel_rfl) (by kernel_rfl) (fun _ _ _ h => h) (Or.inl ⟨by rfl, ?rahy16⟩) hHeld ?rar16
              case rahy16 => (intro w hSw; (try dsimp only at hSw); go_simp; (try with_reducible rfl))
              (try simp only [Act.put, List.setIfInBounds_toArray, List.set_cons_zero, List.set_cons_succ])
              refine wpAnyH_take (i := 17) (oi := ⟨some 97, _, _, _, _, _⟩) (v := undef) rfl (by kernel_rfl) (by kernel_rfl) (by kernel_rfl) (fun _ _ _ h => h) (Or.inr ⟨by rfl, rfl⟩) hHeld ?rar17
              (try simp only [Act.put, List.setIfInBounds_toArray, List.set_cons_zero, List.set_cons_succ])
              refine wpAnyH_take (i := 18) (oi := ⟨some 98, _, _, _, _, _⟩) (v := undef) rfl (by kernel_rfl) (by kernel_rfl) (by kernel_rfl) (fun _ _ _ h => h) (Or.inr ⟨by rfl, rfl⟩) hHeld ?rar18
              (try simp only [Act.put, List.setIfInBounds_toArray, List.set_cons_zero, List.set_cons_succ])
              refine wpAnyH_take (i := 19) (oi := ⟨some 99, _, _, _, _, _⟩) (v := undef) rfl (by kernel_rfl) (by kernel_rfl) (by kernel_rfl) (fun _ _ _ h => h) (Or.inr ⟨by rfl, rfl⟩) hHeld ?rar19
              (try simp only [Act.put, List.setIfInBounds_toArray, List.set_cons_zero, List.set_cons_succ])
              refine wpAnyH_take (i := 20) (oi := ⟨some 100, _, _, _, _, _⟩) (v := undef) rfl (by kernel_rfl) (by kernel_rfl) (by kernel_rfl) (fun _ _ _ h => h) (Or.inr ⟨by rfl, rfl⟩) hHeld ?rar20
              (try simp only [Act.put, List.setIfInBounds_toArray, List.set_cons_zero, List.set_cons_succ])
              refine wpAnyH_take (i := 21) (oi := ⟨some 101, _, _, _, _, _⟩) (v := undef) rfl (by kernel_rfl) (by kernel_rfl) (by kernel_rfl) (fun _ _ _ h => h) (Or.inr ⟨by rfl, rfl⟩) hHeld ?rar21
              (try simp only [Act.put, List.setIfInBounds_toArray, List.set_cons_zero, List.set_cons_succ])
              refine wpAnyH_take (i := 22) (oi := ⟨some 102, _, _, _, _, _⟩) (v := undef) rfl (by kernel_rfl) (by kernel_rfl) (by kernel_rfl) (fun _ _ _ h => h) (Or.inr ⟨by rfl, rfl⟩) hHeld ?rar22
              (try simp only [Act.put, List.setIfInBounds_toArray, List.set_cons_zero, List.set_cons_succ])
              refine wpAnyH_take (i := 23) (oi := ⟨some 103, _, _, _, _, _⟩) (v := undef) rfl (by kernel_rfl) (by kernel_rfl) (by kernel_rfl) (fun _ _ _ h => h) (Or.inr ⟨by rfl, rfl⟩) hHeld ?rar23
              (try simp only [Act.put, List.setIfInBounds_toArray, List.set_cons_zero, List.set_cons_succ])
              refine wpAnyH_take (i := 24) (oi := ⟨some 104, _, _, _, _, _⟩) (v := undef) rfl (by kernel_rfl) (by kernel_rfl) (by kernel_rfl) (fun _ _ _ h => h) (Or.inr ⟨by rfl, rfl⟩) hHeld ?rar24
              (try simp only [Act.put, List.setIfInBounds_toArray, List.set_cons_zero, List.set_cons_succ])
              refine wpAnyH_take (i := 25) (oi := ⟨some 105, _, _, _, _, _⟩) (v := ?rav25) rfl (by kernel_rfl) (by kernel_rfl) (by kernel_rfl) (fun _ _ _ h => h) (Or.inl ⟨by rfl, ?rahy25⟩) hHeld ?rar25
              case rahy25 => (intro w hSw; (try dsimp only at hSw); go_simp; (try with_reducible rfl))
              (try simp only [Act.put, List.setIfInBounds_toArray, List.set_cons_zero, List.set_cons_succ])
              refine wpAnyH_done (by kernel_rfl) ?radone _
              go_wp2_with fail
              go_ret
              exact VOut.no HF.out KN.toBelow
            · have q0 : decide (o < 0) = false := decide_eq_false o0
              by_cases o1 : st ≤ o
              · have q1 : decide (st ≤ o) = true := decide_eq_true o1
                have HF : Hid (¬ ValidC c) := Lib.hid fun q => by have := (HRO.out q).2.2.1; omega
                refine wp_region_held_drew (S := (fun w' => BlkT w' g1 #[.slice wa nw wc, .int .i64 st, .int .i64 sl, .slice (some ⟨gr, offr, none⟩) no rc, .slice (some ⟨go, offo, none⟩) no oc] 25 ∧ w'.cell? ⟨go, offo + k, none⟩ = some (.int .i64 o) ∧ w'.rangeAt gr (offr + k * 3) [Value.int .i64 b0, .int .i64 k0, .bool d0])) (by kernel_rfl) ?rbhS (fun hHeld => ?rbrest)
                case rbhS => exact ⟨KN.at_ (by repeat (first | exact Has.here | refine Has.there ?_)), (KN.old hgo (by simp)).trans HOC.out, fun j v hj => (KN.old hgr (by simp)).trans (HRNG.out j v hj)⟩
                refine wpAnyH_take (i := 0) (oi := ⟨some 80, _, _, _, _, _⟩) (v := ?rbv0) rfl (by kernel_rfl) (by kernel_rfl) (by kernel_rfl) (fun _ _ _ h => h) (Or.inl ⟨by rfl, ?rbhy0⟩) hHeld ?rbr0
                case rbhy0 => (intro w hSw; (try dsimp only at hSw); go_simp; (try with_reducible rfl))
                (try simp only [Act.put, List.setIfInBounds_toArray, List.set_cons_zero, List.set_cons_succ])
                refine wpAnyH_take (i := 1) (oi := ⟨some 81, _, _, _, _, _⟩) (v := (.slice (some ⟨go, offo, none⟩) no oc)) rfl (by kernel_rfl) (by kernel_rfl) (by kernel_rfl) (fun _ _ _ h => h) (kn_yields1 (by rfl) 22 _ rfl g1 4 rfl _ 25 (fun _ h => h.1) _ rfl _ Tryz.underlying22 rfl) hHeld ?rbr1
                (try simp only [Act.put, List.setIfInBounds_toArray, List.set_cons_zero, List.set_cons_succ])
                refine wpAnyH_take (i := 2) (oi := ⟨some 82, _, _, _, _, _⟩) (v := ?rbv2) rfl (by kernel_rfl) (by kernel_rfl) (by kernel_rfl) (fun _ _ _ h => h) (Or.inl ⟨by rfl, ?rbhy2⟩) hHeld ?rbr2
                case rbhy2 => (intro w hSw; (try dsimp only at hSw); go_simp; (try with_reducible rfl))
                (try simp only [Act.put, List.setIfInBounds_toArray, List.set_cons_zero, List.set_cons_succ])
                refine wpAnyH_take (i := 3) (oi := ⟨some 83, _, _, _, _, _⟩) (v := ?rbv3) rfl (by kernel_rfl) (by kernel_rfl) (by kernel_rfl) (fun _ _ _ h => h) (Or.inl ⟨by rfl, ?rbhy3⟩) hHeld ?rbr3
                case rbhy3 => (intro w hSw; (try dsimp only at hSw); go_simp; (try with_reducible rfl))
                (try simp only [Act.put, List.setIfInBounds_toArray, List.set_cons_zero, List.set_cons_succ])
                refine wpAnyH_take (i := 4) (oi := ⟨some 84, _, _, _, _, _⟩) (v := (.int .i64 o)) rfl (by kernel_rfl) (by kernel_rfl) (by kernel_rfl) (fun _ _ _ h => h) (kn_yields_cell (by rfl) 3 _ rfl go _ rfl _ (fun _ h => h.2.1) _ Tryz.underlying3 rfl) hHeld ?rbr4
                (try simp only [Act.put, List.setIfInBounds_toArray, List.set_cons_zero, List.set_cons_succ])
                refine wpAnyH_take (i := 5) (oi := ⟨some 85, _, _, _, _, _⟩) (v := ?rbv5) rfl (by kernel_rfl) (by kernel_rfl) (by kernel_rfl) (fun _ _ _ h => h) (Or.inl ⟨by rfl, ?rbhy5⟩) hHeld ?rbr5
                case rbhy5 => (intro w hSw; (try dsimp only at hSw); go_simp; (try with_reducible rfl))
                (try simp only [Act.put, List.setIfInBounds_toArray, List.set_cons_zero, List.set_cons_succ])
                refine wpAnyH_take (i := 6) (oi := ⟨some 86, _, _, _, _, _⟩) (v := ?rbv6) rfl (by kernel_rfl) (by kernel_rfl) (by kernel_rfl) (fun _ _ _ h => h) (Or.inl ⟨by rfl, ?rbhy6⟩) hHeld ?rbr6
                case rbhy6 => (intro w hSw; (try dsimp only at hSw); go_simp; (try with_reducible rfl))
                (try simp only [Act.put, List.setIfInBounds_toArray, List.set_cons_zero, List.set_cons_succ])
                refine wpAnyH_take (i := 7) (oi := ⟨some 87, _, _, _, _, _⟩) (v := ?rbv7) rfl (by kernel_rfl) (by kernel_rfl) (by kernel_rfl) (fun _ _ _ h => h) (Or.inl ⟨by rfl, ?rbhy7⟩) hHeld ?rbr7
                case rbhy7 => (intro w hSw; (try dsimp only at hSw); go_simp; (try with_reducible rfl))
                (try simp only [Act.put, List.setIfInBounds_toArray, List.set_cons_zero, List.set_cons_succ])
                refine wpAnyH_take (i := 8) (oi := ⟨some 88, _, _, _, _, _⟩) (v := (.slice (some ⟨go, offo, none⟩) no oc)) rfl (by kernel_rfl) (by kernel_rfl) (by kernel_rfl) (fun _ _ _ h => h) (kn_yields1 (by rfl) 22 _ rfl g1 4 rfl _ 25 (fun _ h => h.1) _ rfl _ Tryz.underlying22 rfl) hHeld ?rbr8
                (try simp only [Act.put, List.setIfInBounds_toArray, List.set_cons_zero, List.set_cons_succ])
                refine wpAnyH_take (i := 9) (oi := ⟨some 89, _, _, _, _, _⟩) (v := ?rbv9) rfl (by kernel_rfl) (by kernel_rfl) (by kernel_rfl) (fun _ _ _ h => h) (Or.inl ⟨by rfl, ?rbhy9⟩) hHeld ?rbr9
                case rbhy9 => (intro w hSw; (try dsimp only at hSw); go_simp; (try with_reducible rfl))
                (try simp only [Act.put, List.setIfInBounds_toArray, List.set_cons_zero, List.set_cons_succ])
                refine wpAnyH_take (i := 10) (oi := ⟨some 90, _, _, _, _, _⟩) (v := ?rbv10) rfl (by kernel_rfl) (by kernel_rfl) (by kernel_rfl) (fun _ _ _ h => h) (Or.inl ⟨by rfl, ?rbhy10⟩) hHeld ?rbr10
                case rbhy10 => (intro w hSw; (try dsimp only at hSw); go_simp; (try with_reducible rfl))
                (try simp only [Act.put, List.setIfInBounds_toArray, List.set_cons_zero, List.set_cons_succ])
                refine wpAnyH_take (i := 11) (oi := ⟨some 91, _, _, _, _, _⟩) (v := (.int .i64 o)) rfl (by kernel_rfl) (by kernel_rfl) (by kernel_rfl) (fun _ _ _ h => h) (kn_yields_cell (by rfl) 3 _ rfl go _ rfl _ (fun _ h => h.2.1) _ Tryz.underlying3 rfl) hHeld ?rbr11
                (try simp only [Act.put, List.setIfInBounds_toArray, List.set_cons_zero, List.set_cons_succ])
                refine wpAnyH_take (i := 12) (oi := ⟨some 92, _, _, _, _, _⟩) (v := ?rbv12) rfl (by kernel_rfl) (by kernel_rfl) (by kernel_rfl) (fun _ _ _ h => h) (Or.inl ⟨by rfl, ?rbhy12⟩) hHeld ?rbr12
                case rbhy12 => (intro w hSw; (try dsimp only at hSw); go_simp; (try with_reducible rfl))
                (try simp only [Act.put, List.setIfInBounds_toArray, List.set_cons_zero, List.set_cons_succ])
                refine wpAnyH_take (i := 13) (oi := ⟨some 93, _, _, _, _, _⟩) (v := (.int .i64 st)) rfl (by kernel_rfl) (by kernel_rfl) (by kernel_rfl) (fun _ _ _ h => h) (kn_yields1 (by rfl) 3 _ rfl g1 1 rfl _ 25 (fun _ h => h.1) _ rfl _ Tryz.underlying3 rfl) hHeld ?rbr13
                (try simp only [Act.put, List.setIfInBounds_toArray, List.set_cons_zero, List.set_cons_succ])
                refine wpAnyH_take (i := 14) (oi := ⟨some 94, _, _, _, _, _⟩) (v := ?rbv14) rfl (by kernel_rfl) (by kernel_rfl) (by kernel_rfl) (fun _ _ _ h => h) (Or.inl ⟨by rfl, ?rbhy14⟩) hHeld ?rbr14
                case rbhy14 => (intro w hSw; (try dsimp only at hSw); go_simp; (try with_reducible rfl))
                (try simp only [Act.put, List.setIfInBounds_toArray, List.set_cons_zero, List.set_cons_succ])
                refine wpAnyH_take (i := 15) (oi := ⟨some 95, _, _, _, _, _⟩) (v := ?rbv15) rfl (by kernel_rfl) (by kernel_rfl) (by kernel_rfl) (fun _ _ _ h => h) (Or.inl ⟨by rfl, ?rbhy15⟩) hHeld ?rbr15
                case rbhy15 => (intro w hSw; (try dsimp only at hSw); go_simp; (try with_reducible rfl))
                (try simp only [Act.put, List.setIfInBounds_toArray, List.set_cons_zero, List.set_cons_succ])
                refine wpAnyH_take (i := 16) (oi := ⟨some 96, _, _, _, _, _⟩) (v := ?rbv16) rfl (by kernel_rfl) (by kernel_rfl) (by kernel_rfl) (fun _ _ _ h => h) (Or.inl ⟨by rfl, ?rbhy16⟩) hHeld ?rbr16
                case rbhy16 => (intro w hSw; (try dsimp only at hSw); go_simp; (try with_reducible rfl))
                (try simp only [Act.put, List.setIfInBounds_toArray, List.set_cons_zero, List.set_cons_succ])
                refine wpAnyH_take (i := 17) (oi := ⟨some 97, _, _, _, _, _⟩) (v := undef) rfl (by kernel_rfl) (by kernel_rfl) (by kernel_rfl) (fun _ _ _ h => h) (Or.inr ⟨by rfl, rfl⟩) hHeld ?rbr17
                (try simp only [Act.put, List.setIfInBounds_toArray, List.set_cons_zero, List.set_cons_succ])
                refine wpAnyH_take (i := 18) (oi := ⟨some 98, _, _, _, _, _⟩) (v := undef) rfl (by kernel_rfl) (by kernel_rfl) (by kernel_rfl) (fun _ _ _ h => h) (Or.inr ⟨by rfl, rfl⟩) hHeld ?rbr18
                (try simp only [Act.put, List.setIfInBounds_toArray, List.set_cons_zero, List.set_cons_succ])
                refine wpAnyH_take (i := 19) (oi := ⟨some 99, _, _, _, _, _⟩) (v := undef) rfl (by kernel_rfl) (by kernel_rfl) (by kernel_rfl) (fun _ _ _ h => h) (Or.inr ⟨by rfl, rfl⟩) hHeld ?rbr19
                (try simp only [Act.put, List.setIfInBounds_toArray, List.set_cons_zero, List.set_cons_succ])
                refine wpAnyH_take (i := 20) (oi := ⟨some 100, _, _, _, _, _⟩) (v := undef) rfl (by kernel_rfl) (by kernel_rfl) (by kernel_rfl) (fun _ _ _ h => h) (Or.inr ⟨by rfl, rfl⟩) hHeld ?rbr20
                (try simp only [Act.put, List.setIfInBounds_toArray, List.set_cons_zero, List.set_cons_succ])
                refine wpAnyH_take (i := 21) (oi := ⟨some 101, _, _, _, _, _⟩) (v := undef) rfl (by kernel_rfl) (by kernel_rfl) (by kernel_rfl) (fun _ _ _ h => h) (Or.inr ⟨by rfl, rfl⟩) hHeld ?rbr21
                (try simp only [Act.put, List.setIfInBounds_toArray, List.set_cons_zero, List.set_cons_succ])
                refine wpAnyH_take (i := 22) (oi := ⟨some 102, _, _, _, _, _⟩) (v := undef) rfl (by kernel_rfl) (by kernel_rfl) (by kernel_rfl) (fun _ _ _ h => h) (Or.inr ⟨by rfl, rfl⟩) hHeld ?rbr22
                (try simp only [Act.put, List.setIfInBounds_toArray, List.set_cons_zero, List.set_cons_succ])
                refine wpAnyH_take (i := 23) (oi := ⟨some 103, _, _, _, _, _⟩) (v := undef) rfl (by kernel_rfl) (by kernel_rfl) (by kernel_rfl) (fun _ _ _ h => h) (Or.inr ⟨by rfl, rfl⟩) hHeld ?rbr23
                (try simp only [Act.put, List.setIfInBounds_toArray, List.set_cons_zero, List.set_cons_succ])
                refine wpAnyH_take (i := 24) (oi := ⟨some 104, _, _, _, _, _⟩) (v := undef) rfl (by kernel_rfl) (by kernel_rfl) (by kernel_rfl) (fun _ _ _ h => h) (Or.inr ⟨by rfl, rfl⟩) hHeld ?rbr24
                (try simp only [Act.put, List.setIfInBounds_toArray, List.set_cons_zero, List.set_cons_succ])
                refine wpAnyH_take (i := 25) (oi := ⟨some 105, _, _, _, _, _⟩) (v := ?rbv25) rfl (by kernel_rfl) (by kernel_rfl) (by kernel_rfl) (fun _ _ _ h => h) (Or.inl ⟨by rfl, ?rbhy25⟩) hHeld ?rbr25
                case rbhy25 => (intro w hSw; (try dsimp only at hSw); go_simp; (try with_reducible rfl))
                (try simp only [Act.put, List.setIfInBounds_toArray, List.set_cons_zero, List.set_cons_succ])
                refine wpAnyH_done (by kernel_rfl) ?rbdone _
                go_wp2_with fail
                go_ret
                exact VOut.no HF.out KN.toBelow
              · have q1 : decide (st ≤ o) = false := decide_eq_false o1
                by_cases hok : okB b0 k0
                · have HD := Lib.hid (decide_eq_true hok)
                  have HO0 : Hid (0 ≤ o) := Lib.hid (by omega)
                  have HO1 : Hid (o < c.st) := Lib.hid (by rw [← HST.out]; omega)
                  have HOK := Lib.hid hok
                  refine wp_region_held_drew (S := (fun w' => BlkT w' g1 #[.slice wa nw wc, .int .i64 st, .int .i64 sl, .slice (some ⟨gr, offr, none⟩) no rc, .slice (some ⟨go, offo, none⟩) no oc] 25 ∧ w'.cell? ⟨go, offo + k, none⟩ = some (.int .i64 o) ∧ w'.rangeAt gr (offr + k * 3) [Value.int .i64 b0, .int .i64 k0, .bool d0])) (by kernel_rfl) ?rchS (fun hHeld => ?rcrest)
                  case rchS => exact ⟨KN.at_ (by repeat (first | exact Has.here | refine Has.there ?_)), (KN.old hgo (by simp)).trans HOC.out, fun j v hj => (KN.old hgr (by simp)).trans (HRNG.out j v hj)⟩
                  refine wpAnyH_take (i := 0) (oi := ⟨some 80, _, _, _, _, _⟩) (v := ?rcv0) rfl (by kernel_rfl) (by kernel_rfl) (by kernel_rfl) (fun _ _ _ h => h) (Or.inl ⟨by rfl, ?rchy0⟩) hHeld ?rcr0
                  case rchy0 => (intro w hSw; (try dsimp only at hSw); go_simp; (try with_reducible rfl))
                  (try simp only [Act.put, List.setIfInBounds_toArray, List.set_cons_zero, List.set_cons_succ])
                  refine wpAnyH_take (i := 1) (oi := ⟨some 81, _, _, _, _, _⟩) (v := (.slice (some ⟨go, offo, none⟩) no oc)) rfl (by kernel_rfl) (by kernel_rfl) (by kernel_rfl) (fun _ _ _ h => h) (kn_yields1 (by rfl) 22 _ rfl g1 4 rfl _ 25 (fun _ h => h.1) _ rfl _ Tryz.underlying22 rfl) hHeld ?rcr1
                  (try simp only [Act.put, List.setIfInBounds_toArray, List.set_cons_zero, List.set_cons_succ])
                  refine wpAnyH_take (i := 2) (oi := ⟨some 82, _, _, _, _, _⟩) (v := ?rcv2) rfl (by kernel_rfl) (by kernel_rfl) (by kernel_rfl) (fun _ _ _ h => h) (Or.inl ⟨by rfl, ?rchy2⟩) hHeld ?rcr2
                  case rchy2 => (intro w hSw; (try dsimp only at hSw); go_simp; (try with_reducible rfl))
                  (try simp only [Act.put, List.setIfInBounds_toArray, List.set_cons_zero, List.set_cons_succ])
                  refine wpAnyH_take (i := 3) (oi := ⟨some 83, _, _, _, _, _⟩) (v := ?rcv3) rfl (by kernel_rfl) (by kernel_rfl) (by kernel_rfl) (fun _ _ _ h => h) (Or.inl ⟨by rfl, ?rchy3⟩) hHeld ?rcr3
                  case rchy3 => (intro w hSw; (try dsimp only at hSw); go_simp; (try with_reducible rfl))
                  (try simp only [Act.put, List.setIfInBounds_toArray, List.set_cons_zero, List.set_cons_succ])
                  refine wpAnyH_take (i := 4) (oi := ⟨some 84, _, _, _, _, _⟩) (v := (.int .i64 o)) rfl (by kernel_rfl) (by kernel_rfl) (by kernel_rfl) (fun _ _ _ h => h) (kn_yields_cell (by rfl) 3 _ rfl go _ rfl _ (fun _ h => h.2.1) _ Tryz.underlying3 rfl) hHeld ?rcr4
                  (try simp only [Act.put, List.setIfInBounds_toArray, List.set_cons_zero, List.set_cons_succ])
                  refine wpAnyH_take (i := 5) (oi := ⟨some 85, _, _, _, _, _⟩) (v := ?rcv5) rfl (by kernel_rfl) (by kernel_rfl) (by kernel_rfl) (fun _ _ _ h => h) (Or.inl ⟨by rfl, ?rchy5⟩) hHeld ?rcr5
                  case rchy5 => (intro w hSw; (try dsimp only at hSw); go_simp; (try with_reducible rfl))
                  (try simp only [Act.put, List.setIfInBounds_toArray, List.set_cons_zero, List.set_cons_succ])
                  refine wpAnyH_take (i := 6) (oi := ⟨some 86, _, _, _, _, _⟩) (v := ?rcv6) rfl (by kernel_rfl) (by kernel_rfl) (by kernel_rfl) (fun _ _ _ h => h) (Or.inl ⟨by rfl, ?rchy6⟩) hHeld ?rcr6
                  case rchy6 => (intro w hSw; (try dsimp only at hSw); go_simp; (try with_reducible rfl))
                  (try simp only [Act.put, List.setIfInBounds_toArray, List.set_cons_zero, List.set_cons_succ])
                  refine wpAnyH_take (i := 7) (oi := ⟨some 87, _, _, _, _, _⟩) (v := ?rcv7) rfl (by kernel_rfl) (by kernel_rfl) (by kernel_rfl) (fun _ _ _ h => h) (Or.inl ⟨by rfl, ?rchy7⟩) hHeld ?rcr7
                  case rchy7 => (intro w hSw; (try dsimp only at hSw); go_simp; (try with_reducible rfl))
                  (try simp only [Act.put, List.setIfInBounds_toArray, List.set_cons_zero, List.set_cons_succ])
                  refine wpAnyH_take (i := 8) (oi := ⟨some 88, _, _, _, _, _⟩) (v := (.slice (some ⟨go, offo, none⟩) no oc)) rfl (by kernel_rfl) (by kernel_rfl) (by kernel_rfl) (fun _ _ _ h => h) (kn_yields1 (by rfl) 22 _ rfl g1 4 rfl _ 25 (fun _ h => h.1) _ rfl _ Tryz.underlying22 rfl) hHeld ?rcr8
                  (try simp only [Act.put, List.setIfInBounds_toArray, List.set_cons_zero, List.set_cons_succ])
                  refine wpAnyH_take (i := 9) (oi := ⟨some 89, _, _, _, _, _⟩) (v := ?rcv9) rfl (by kernel_rfl) (by kernel_rfl) (by kernel_rfl) (fun _ _ _ h => h) (Or.inl ⟨by rfl, ?rchy9⟩) hHeld ?rcr9
                  case rchy9 => (intro w hSw; (try dsimp only at hSw); go_simp; (try with_reducible rfl))
                  (try simp only [Act.put, List.setIfInBounds_toArray, List.set_cons_zero, List.set_cons_succ])
                  refine wpAnyH_take (i := 10) (oi := ⟨some 90, _, _, _, _, _⟩) (v := ?rcv10) rfl (by kernel_rfl) (by kernel_rfl) (by kernel_rfl) (fun _ _ _ h => h) (Or.inl ⟨by rfl, ?rchy10⟩) hHeld ?rcr10
                  case rchy10 => (intro w hSw; (try dsimp only at hSw); go_simp; (try with_reducible rfl))
                  (try simp only [Act.put, List.setIfInBounds_toArray, List.set_cons_zero, List.set_cons_succ])
                  refine wpAnyH_take (i := 11) (oi := ⟨some 91, _, _, _, _, _⟩) (v := (.int .i64 o)) rfl (by kernel_rfl) (by kernel_rfl) (by kernel_rfl) (fun _ _ _ h => h) (kn_yields_cell (by rfl) 3 _ rfl go _ rfl _ (fun _ h => h.2.1) _ Tryz.underlying3 rfl) hHeld ?rcr11
                  (try simp only [Act.put, List.setIfInBounds_toArray, List.set_cons_zero, List.set_cons_succ])
                  refine wpAnyH_take (i := 12) (oi := ⟨some 92, _, _, _, _, _⟩) (v := ?rcv12) rfl (by kernel_rfl) (by kernel_rfl) (by kernel_rfl) (fun _ _ _ h => h) (Or.inl ⟨by rfl, ?rchy12⟩) hHeld ?rcr12
                  case rchy12 => (intro w hSw; (try dsimp only at hSw); go_simp; (try with_reducible rfl))
                  (try simp only [Act.put, List.setIfInBounds_toArray, List.set_cons_zero, List.set_cons_succ])
                  refine wpAnyH_take (i := 13) (oi := ⟨some 93, _, _, _, _, _⟩) (v := (.int .i64 st)) rfl (by kernel_rfl) (by kernel_rfl) (by kernel_rfl) (fun _ _ _ h => h) (kn_yields1 (by rfl) 3 _ rfl g1 1 rfl _ 25 (fun _ h => h.1) _ rfl _ Tryz.underlying3 rfl) hHeld ?rcr13
                  (try simp only [Act.put, List.setIfInBounds_toArray, List.set_cons_zero, List.set_cons_succ])
                  refine wpAnyH_take (i := 14) (oi := ⟨some 94, _, _, _, _, _⟩) (v := ?rcv14) rfl (by kernel_rfl) (by kernel_rfl) (by kernel_rfl) (fun _ _ _ h => h) (Or.inl ⟨by rfl, ?rchy14⟩) hHeld ?rcr14
                  case rchy14 => (intro w hSw; (try dsimp only at hSw); go_simp; (try with_reducible rfl))
                  (try simp only [Act.put, List.setIfInBounds_toArray, List.set_cons_zero, List.set_cons_succ])
                  refine wpAnyH_take (i := 15) (oi := ⟨some 95, _, _, _, _, _⟩) (v := ?rcv15) rfl (by kernel_rfl) (by kernel_rfl) (by kernel_rfl) (fun _ _ _ h => h) (Or.inl ⟨by rfl, ?rchy15⟩) hHeld ?rcr15
                  case rchy15 => (intro w hSw; (try dsimp only at hSw); go_simp; (try with_reducible rfl))
                  (try simp only [Act.put, List.setIfInBounds_toArray, List.set_cons_zero, List.set_cons_succ])
                  refine wpAnyH_take (i := 16) (oi := ⟨some 96, _, _, _, _, _⟩) (v := ?rcv16) rfl (by kernel_rfl) (by kernel_rfl) (by kernel_rfl) (fun _ _ _ h => h) (Or.inl ⟨by rfl, ?rchy16⟩) hHeld ?rcr16
                  case rchy16 => (intro w hSw; (try dsimp only at hSw); go_simp; (try with_reducible rfl))
                  (try simp only [Act.put, List.setIfInBounds_toArray, List.set_cons_zero, List.set_cons_succ])
                  refine wpAnyH_take (i := 17) (oi := ⟨some 97, _, _, _, _, _⟩) (v := ?rcv17) rfl (by kernel_rfl) (by kernel_rfl) (by kernel_rfl) (fun _ _ _ h => h) (Or.inl ⟨by rfl, ?rchy17⟩) hHeld ?rcr17
                  case rchy17 => (intro w hSw; (try dsimp only at hSw); go_simp; (try with_reducible rfl))
                  (try simp only [Act.put, List.setIfInBounds_toArray, List.set_cons_zero, List.set_cons_succ])
                  refine wpAnyH_take (i := 18) (oi := ⟨some 98, _, _, _, _, _⟩) (v := (.slice (some ⟨gr, offr, none⟩) no rc)) rfl (by kernel_rfl) (by kernel_rfl) (by kernel_rfl) (fun _ _ _ h => h) (kn_yields1 (by rfl) 23 _ rfl g1 3 rfl _ 25 (fun _ h => h.1) _ rfl _ Tryz.underlying23 rfl) hHeld ?rcr18
                  (try simp only [Act.put, List.setIfInBounds_toArray, List.set_cons_zero, List.set_cons_succ])
                  refine wpAnyH_take (i := 19) (oi := ⟨some 99, _, _, _, _, _⟩) (v := ?rcv19) rfl (by kernel_rfl) (by kernel_rfl) (by kernel_rfl) (fun _ _ _ h => h) (Or.inl ⟨by rfl, ?rchy19⟩) hHeld ?rcr19
                  case rchy19 => (intro w hSw; (try dsimp only at hSw); go_simp; (try with_reducible rfl))
                  (try simp only [Act.put, List.setIfInBounds_toArray, List.set_cons_zero, List.set_cons_succ])
                  refine wpAnyH_take (i := 20) (oi := ⟨some 100, _, _, _, _, _⟩) (v := ?rcv20) rfl (by kernel_rfl) (by kernel_rfl) (by kernel_rfl) (fun _ _ _ h => h) (Or.inl ⟨by rfl, ?rchy20⟩) hHeld ?rcr20
                  case rchy20 => (intro w hSw; (try dsimp only at hSw); go_simp; (try with_reducible rfl))
                  (try simp only [Act.put, List.setIfInBounds_toArray, List.set_cons_zero, List.set_cons_succ])
                  refine wpAnyH_take (i := 21) (oi := ⟨some 101, _, _, _, _, _⟩) (v := (.agg #[.int .i64 b0, .int .i64 k0, .bool d0])) rfl (by kernel_rfl) (by kernel_rfl) (by kernel_rfl) (fun _ _ _ h => h) (yields_load (by rfl) 57 _ rfl gr _ rfl #[.int .i64 b0, .int .i64 k0, .bool d0] _ (fun _ h j v hj => h.2.2 j v (by simpa using hj)) Tryz.underlying57 rfl (by kernel_rfl)) hHeld ?rcr21
                  (try simp only [Act.put, List.setIfInBounds_toArray, List.set_cons_zero, List.set_cons_succ])
                  refine wpAnyH_ready (rs := [22]) (by kernel_rfl) (by simp) ?rcc22
                  refine AllReadyH.cons (o := ⟨some 102, _, _, _, _, _⟩) rfl (fun K hK => ?rcst22) AllReadyH.nil
                  go_simp
                  (refine (Rrange_any b0 k0 d0 _).mono ?_; rintro e wx ⟨rfl, hb1⟩; replace KN := KN.below hb1; clear hb1)
                  refine hK.out _ _ ?rck22 (fun hHeld2 => ?rcm22)
                  case rck22 => exact ⟨KN.at_ (by repeat (first | exact Has.here | refine Has.there ?_)), (KN.old hgo (by simp)).trans HOC.out, fun j v hj => (KN.old hgr (by simp)).trans (HRNG.out j v hj)⟩
                  clear hK K hHeld
                  have hHeld := hHeld2; clear hHeld2
                  (try simp only [Act.put, List.setIfInBounds_toArray, List.set_cons_zero, List.set_cons_succ])
                  refine wpAnyH_ready (rs := [23]) (by kernel_rfl) (by simp) ?rcc23
                  refine AllReadyH.cons (o := ⟨some 103, _, _, _, _, _⟩) rfl (fun K hK => ?rcst23) AllReadyH.nil
                  go_simp
                  (refine (RValid_any b0 k0 HB.out HK.out _).mono ?_; rw [HD.out]; rintro e wx ⟨rfl, hb1⟩; replace KN := KN.below hb1; clear hb1)
                  refine hK.out _ _ ?rck23 (fun hHeld2 => ?rcm23)
                  case rck23 => exact ⟨KN.at_ (by repeat (first | exact Has.here | refine Has.there ?_)), (KN.old hgo (by simp)).trans HOC.out, fun j v hj => (KN.old hgr (by simp)).trans (HRNG.out j v hj)⟩
                  clear hK K hHeld
                  have hHeld := hHeld2; clear hHeld2
                  (try simp only [Act.put, List.setIfInBounds_toArray, List.set_cons_zero, List.set_cons_succ])
                  refine wpAnyH_take (i := 24) (oi := ⟨some 104, _, _, _, _, _⟩) (v := ?rcv24) rfl (by kernel_rfl) (by kernel_rfl) (by kernel_rfl) (fun _ _ _ h => h) (Or.inl ⟨by rfl, ?rchy24⟩) hHeld ?rcr24
                  case rchy24 => (intro w hSw; (try dsimp only at hSw); go_simp; (try with_reducible rfl))
                  (try simp only [Act.put, List.setIfInBounds_toArray, List.set_cons_zero, List.set_cons_succ])
                  refine wpAnyH_take (i := 25) (oi := ⟨some 105, _, _, _, _, _⟩) (v := ?rcv25) rfl (by kernel_rfl) (by kernel_rfl) (by kernel_rfl) (fun _ _ _ h => h) (Or.inl ⟨by rfl, ?rchy25⟩) hHeld ?rcr25
                  case rchy25 => (intro w hSw; (try dsimp only at hSw); go_simp; (try with_reducible rfl))
                  (try simp only [Act.put, List.setIfInBounds_toArray, List.set_cons_zero, List.set_cons_succ])
                  refine wpAnyH_done (by kernel_rfl) ?rcdone _
                  clear q0 q1 o0 o1 hok
                  go_wp2_with (first | ((with_reducible refine wpList_gate ?_); first | ((with_reducible refine gate_load ?_ ?_); rfl; first | (refine ks_load1 KN 22 Tryz.underlying22 ?_) | (refine ks_load1 KN 3 Tryz.underlying3 ?_) | (refine ks_load1 KN 23 Tryz.underlying23 ?_) | (refine ks_loadW KN 57 Tryz.underlying57 ?_)) | ((with_reducible refine gate_new ?_ ?_); rfl; first | (refine ks_boxA KN 25 (q := 1) ?_; clear KN; intro g1 wx hg1 KN))))
                  go_loopw [5] (fun i wr => O2Loop c (b0, k0, d0) #[.slice wa nw wc, .int .i64 st, .int .i64 sl, .slice (some ⟨gr, offr, none⟩) no rc, .slice (some ⟨go, offo, none⟩) no oc] g1 k w i wr) (fun i _ => k - (intOf i).toNat)
                  case atStart => exact ⟨0, rfl, Nat.zero_le _, fun _ _ h => absurd h (Nat.not_lt_zero _), KN⟩
                  case round =>
                    clear KN
                    obtain ⟨j, rfl, hj, hov, KN⟩ := hrel
                    have HOV := Lib.hid hov
                    clear hov
                    by_cases hjk : j < k
                    · obtain ⟨⟨b1, k1, d1⟩, hs⟩ : ∃ s, c.rs[j]? = some s := ⟨_, List.getElem?_eq_getElem (by rw [← HNR.out]; omega)⟩
                      have hjn : j < no := by omega
                      obtain ⟨gs, offs, hgs0, _, _, _, hsrng⟩ := HRF.out j _ hs
                      have hgs : gr = gs ∧ offr = offs := by simpa using hgs0
                      clear hgs0
                      rw [← hgs.1, ← hgs.2] at hsrng
                      clear hgs
                      have HSR := Lib.hid hs
                      have HSN := Lib.hid hsrng
                      have HB1 := Lib.hid (HC.out.irs _ (List.mem_of_getElem? hs)).1
                      have HK1 := Lib.hid (HC.out.irs _ (List.mem_of_getElem? hs)).2
                      clear hs hsrng
                      go_upto_region 18 with (first | ((with_reducible refine wpList_gate ?_); first | ((with_reducible refine gate_load ?_ ?_); rfl; first | (refine ks_load1 KN 22 Tryz.underlying22 ?_) | (refine ks_load1 KN 3 Tryz.underlying3 ?_) | (refine ks_load1 KN 23 Tryz.underlying23 ?_) | (refine ks_loadW KN 57 Tryz.underlying57 ?_)) | ((with_reducible refine gate_new ?_ ?_); rfl; first | (refine ks_boxA KN 25 (q := 1) ?_; clear KN; intro g1 wx hg1 KN))))
                      (try go_frame)
                      replace KN := KN.drew
                      by_cases hv : ovlB b0 k0 b1 k1
                      · have HDV := Lib.hid (decide_eq_true hv)
                        have HF : Hid (¬ ValidC c) := Lib.hid fun q => (HRO.out q).2.2.2 j (b1, k1, d1) hjk HSR.out hv
                        refine wp_region_held_drew (S := (fun w' => BlkT w' g1 #[.slice wa nw wc, .int .i64 st, .int .i64 sl, .slice (some ⟨gr, offr, none⟩) no rc, .slice (some ⟨go, offo, none⟩) no oc] 25 ∧ w'.rangeAt gr (offr + k * 3) [Value.int .i64 b0, .int .i64 k0, .bool d0] ∧ w'.rangeAt gr (offr + j * 3) [Value.int .i64 b1, .int .i64 k1, .bool d1])) (by kernel_rfl) ?rxhS (fun hHeld => ?rxrest)
                        case rxhS => exact ⟨KN.at_ (by repeat (first | exact Has.here | refine Has.there ?_)), fun j v hj => (KN.old hgr (by simp)).trans (HRNG.out j v hj), fun j v hj => (KN.old hgr (by simp)).trans (HSN.out j v hj)⟩
                        refine wpAnyH_take (i := 0) (oi := ⟨some 111, _, _, _, _, _⟩) (v := ?rxv0) rfl (by kernel_rfl) (by kernel_rfl) (by kernel_rfl) (fun _ _ _ h => h) (Or.inl ⟨by rfl, ?rxhy0⟩) hHeld ?rxr0
                        case rxhy0 => (intro w hSw; (try dsimp only at hSw); go_simp; (try with_reducible rfl))
                        (try simp only [Act.put, List.setIfInBounds_toArray, List.set_cons_zero, List.set_cons_succ])
                        refine wpAnyH_take (i := 1) (oi := ⟨some 112, _, _, _, _, _⟩) (v := (.slice (some ⟨gr, offr, none⟩) no rc)) rfl (by kernel_rfl) (by kernel_rfl) (by kernel_rfl) (fun _ _ _ h => h) (kn_yields1 (by rfl) 23 _ rfl g1 3 rfl _ 25 (fun _ h => h.1) _ rfl _ Tryz.underlying23 rfl) hHeld ?rxr1
                        (try simp only [Act.put, List.setIfInBounds_toArray, List.set_cons_zero, List.set_cons_succ])
                        refine wpAnyH_take (i := 2) (oi := ⟨some 113, _, _, _, _, _⟩) (v := ?rxv2) rfl (by kernel_rfl) (by kernel_rfl) (by kernel_rfl) (fun _ _ _ h => h) (Or.inl ⟨by rfl, ?rxhy2⟩) hHeld ?rxr2
                        case rxhy2 => (intro w hSw; (try dsimp only at hSw); go_simp; (try with_reducible rfl))
                        (try simp only [Act.put, List.setIfInBounds_toArray, List.set_cons_zero, List.set_cons_succ])
                        refine wpAnyH_take (i := 3) (oi := ⟨some 114, _, _, _, _, _⟩) (v := ?rxv3) rfl (by kernel_rfl) (by kernel_rfl) (by kernel_rfl) (fun _ _ _ h => h) (Or.inl ⟨by rfl, ?rxhy3⟩) hHeld ?rxr3
                        case rxhy3 => (intro w hSw; (try dsimp only at hSw); go_simp; (try with_reducible rfl))
                        (try simp only [Act.put, List.setIfInBounds_toArray, List.set_cons_zero, List.set_cons_succ])
                        refine wpAnyH_take (i := 4) (oi := ⟨some 115, _, _, _, _, _⟩) (v := (.agg #[.int .i64 b0, .int .i64 k0, .bool d0])) rfl (by kernel_rfl) (by kernel_rfl) (by kernel_rfl) (fun _ _ _ h => h) (yields_load (by rfl) 57 _ rfl gr _ rfl #[.int .i64 b0, .int .i64 k0, .bool d0] _ (fun _ h j v hj => h.2.1 j v (by simpa using hj)) Tryz.underlying57 rfl (by kernel_rfl)) hHeld ?rxr4
                        (try simp only [Act.put, List.setIfInBounds_toArray, List.set_cons_zero, List.set_cons_succ])
                        refine wpAnyH_take (i := 6) (oi := ⟨some 117, _, _, _, _, _⟩) (v := ?rxv6) rfl (by kernel_rfl) (by kernel_rfl) (by kernel_rfl) (fun _ _ _ h => h) (Or.inl ⟨by rfl, ?rxhy6⟩) hHeld ?rxr6
                        case rxhy6 => (intro w hSw; (try dsimp only at hSw); go_simp; (try with_reducible rfl))
                        (try simp only [Act.put, List.setIfInBounds_toArray, List.set_cons_zero, List.set_cons_succ])
                        refine wpAnyH_take (i := 7) (oi := ⟨some 118, _, _, _, _, _⟩) (v := (.slice (some ⟨gr, offr, none⟩) no rc)) rfl (by kernel_rfl) (by kernel_rfl) (by kernel_rfl) (fun _ _ _ h => h) (kn_yields1 (by rfl) 23 _ rfl g1 3 rfl _ 25 (fun _ h => h.1) _ rfl _ Tryz.underlying23 rfl) hHeld ?rxr7
                        (try simp only [Act.put, List.setIfInBounds_toArray, List.set_cons_zero, List.set_cons_succ])
                        refine wpAnyH_take (i := 8) (oi := ⟨some 119, _, _, _, _, _⟩) (v := ?rxv8) rfl (by kernel_rfl) (by kernel_rfl) (by kernel_rfl) (fun _ _ _ h => h) (Or.inl ⟨by rfl, ?rxhy8⟩) hHeld ?rxr8
                        case rxhy8 => (intro w hSw; (try dsimp only at hSw); go_simp; (try with_reducible rfl))
                        (try simp only [Act.put, List.setIfInBounds_toArray, List.set_cons_zero, List.set_cons_succ])
                        refine wpAnyH_take (i := 9) (oi := ⟨some 120, _, _, _, _, _⟩) (v := ?rxv9) rfl (by kernel_rfl) (by kernel_rfl) (by kernel_rfl) (fun _ _ _ h => h) (Or.inl ⟨by rfl, ?rxhy9⟩) hHeld ?rxr9
                        case rxhy9 => (intro w hSw; (try dsimp only at hSw); go_simp; (try with_reducible rfl))
                        (try simp only [Act.put, List.setIfInBounds_toArray, List.set_cons_zero, List.set_cons_succ])
                        refine wpAnyH_take (i := 10) (oi := ⟨some 121, _, _, _, _, _⟩) (v := (.agg #[.int .i64 b1, .int .i64 k1, .bool d1])) rfl (by kernel_rfl) (by kernel_rfl) (by kernel_rfl) (fun _ _ _ h => h) (yields_load (by rfl) 57 _ rfl gr _ rfl #[.int .i64 b1, .int .i64 k1, .bool d1] _ (fun _ h j v hj => h.2.2 j v (by simpa using hj)) Tryz.underlying57 rfl (by kernel_rfl)) hHeld ?rxr10
                        (try simp only [Act.put, List.setIfInBounds_toArray, List.set_cons_zero, List.set_cons_succ])
                        refine wpAnyH_ready (rs := [5]) (by kernel_rfl) (by simp) ?rxc5
                        refine AllReadyH.cons (o := ⟨some 116, _, _, _, _, _⟩) rfl (fun K hK => ?rxst5) AllReadyH.nil
                        go_simp
                        (refine (Rrange_any b0 k0 d0 _).mono ?_; rintro e wx ⟨rfl, hb1⟩; replace KN := KN.below hb1; clear hb1)
                        refine hK.out _ _ ?rxk5 (fun hHeld2 => ?rxm5)
                        case rxk5 => exact ⟨KN.at_ (by repeat (first | exact Has.here | refine Has.there ?_)), fun j v hj => (KN.old hgr (by simp)).trans (HRNG.out j v hj), fun j v hj => (KN.old hgr (by simp)).trans (HSN.out j v hj)⟩
                        clear hK K hHeld
                        have hHeld := hHeld2; clear hHeld2
                        (try simp only [Act.put, List.setIfInBounds_toArray, List.set_cons_zero, List.set_cons_succ])
                        refine wpAnyH_ready (rs := [11]) (by kernel_rfl) (by simp) ?rxc11
                        refine AllReadyH.cons (o := ⟨some 122, _, _, _, _, _⟩) rfl (fun K hK => ?rxst11) AllReadyH.nil
                        go_simp
                        (refine (Rrange_any b1 k1 d1 _).mono ?_; rintro e wx ⟨rfl, hb1⟩; replace KN := KN.below hb1; clear hb1)
                        refine hK.out _ _ ?rxk11 (fun hHeld2 => ?rxm11)
                        case rxk11 => exact ⟨KN.at_ (by repeat (first | exact Has.here | refine Has.there ?_)), fun j v hj => (KN.old hgr (by simp)).trans (HRNG.out j v hj), fun j v hj => (KN.old hgr (by simp)).trans (HSN.out j v hj)⟩
                        clear hK K hHeld
                        have hHeld := hHeld2; clear hHeld2
                        (try simp only [Act.put, List.setIfInBounds_toArray, List.set_cons_zero, List.set_cons_succ])
                        refine wpAnyH_ready (rs := [12]) (by kernel_rfl) (by simp) ?rxc12
                        refine AllReadyH.cons (o := ⟨some 123, _, _, _, _, _⟩) rfl (fun K hK => ?rxst12) AllReadyH.nil
                        go_simp
                        (refine (ROvl_any b0 k0 b1 k1 HB.out HK.out HB1.out HK1.out _).mono ?_; rw [HDV.out]; rintro e wx ⟨rfl, hb1⟩; replace KN := KN.below hb1; clear hb1)
                        refine hK.out _ _ ?rxk12 (fun hHeld2 => ?rxm12)
                        case rxk12 => exact ⟨KN.at_ (by repeat (first | exact Has.here | refine Has.there ?_)), fun j v hj => (KN.old hgr (by simp)).trans (HRNG.out j v hj), fun j v hj => (KN.old hgr (by simp)).trans (HSN.out j v hj)⟩
                        clear hK K hHeld
                        have hHeld := hHeld2; clear hHeld2
                        (try simp only [Act.put, List.setIfInBounds_toArray, List.set_cons_zero, List.set_cons_succ])
                        refine wpAnyH_done (by kernel_rfl) ?rxdone _
                        go_wp2_with fail
                        go_ret
                        exact VOut.no HF.out KN.toBelow
                      · have HDV := Lib.hid (decide_eq_false hv)
                        refine wp_region_held_drew (S := (fun w' => BlkT w' g1 #[.slice wa nw wc, .int .i64 st, .int .i64 sl, .slice (some ⟨gr, offr, none⟩) no rc, .slice (some ⟨go, offo, none⟩) no oc] 25 ∧ w'.rangeAt gr (offr + k * 3) [Value.int .i64 b0, .int .i64 k0, .bool d0] ∧ w'.rangeAt gr (offr + j * 3) [Value.int .i64 b1, .int .i64 k1, .bool d1])) (by kernel_rfl) ?ryhS (fun hHeld => ?ryrest)
                        case ryhS => exact ⟨KN.at_ (by repeat (first | exact Has.here | refine Has.there ?_)), fun j v hj => (KN.old hgr (by simp)).trans (HRNG.out j v hj), fun j v hj => (KN.old hgr (by simp)).trans (HSN.out j v hj)⟩
                        refine wpAnyH_take (i := 0) (oi := ⟨some 111, _, _, _, _, _⟩) (v := ?ryv0) rfl (by kernel_rfl) (by kernel_rfl) (by kernel_rfl) (fun _ _ _ h => h) (Or.inl ⟨by rfl, ?ryhy0⟩) hHeld ?ryr0
                        case ryhy0 => (intro w hSw; (try dsimp only at hSw); go_simp; (try with_reducible rfl))
                        (try simp only [Act.put, List.setIfInBounds_toArray, List.set_cons_zero, List.set_cons_succ])
                        refine wpAnyH_take (i := 1) (oi := ⟨some 112, _, _, _, _, _⟩) (v := (.slice (some ⟨gr, offr, none⟩) no rc)) rfl (by kernel_rfl) (by kernel_rfl) (by kernel_rfl) (fun _ _ _ h => h) (kn_yields1 (by rfl) 23 _ rfl g1 3 rfl _ 25 (fun _ h => h.1) _ rfl _ Tryz.underlying23 rfl) hHeld ?ryr1
                        (try simp only [Act.put, List.setIfInBounds_toArray, List.set_cons_zero, List.set_cons_succ])
                        refine wpAnyH_take (i := 2) (oi := ⟨some 113, _, _, _, _, _⟩) (v := ?ryv2) rfl (by kernel_rfl) (by kernel_rfl) (by kernel_rfl) (fun _ _ _ h => h) (Or.inl ⟨by rfl, ?ryhy2⟩) hHeld ?ryr2
                        case ryhy2 => (intro w hSw; (try dsimp only at hSw); go_simp; (try with_reducible rfl))
                        (try simp only [Act.put, List.setIfInBounds_toArray, List.set_cons_zero, List.set_cons_succ])
                        refine wpAnyH_take (i := 3) (oi := ⟨some 114, _, _, _, _, _⟩) (v := ?ryv3) rfl (by kernel_rfl) (by kernel_rfl) (by kernel_rfl) (fun _ _ _ h => h) (Or.inl ⟨by rfl, ?ryhy3⟩) hHeld ?ryr3
                        case ryhy3 => (intro w hSw; (try dsimp only at hSw); go_simp; (try with_reducible rfl))
                        (try simp only [Act.put, List.setIfInBounds_toArray, List.set_cons_zero, List.set_cons_succ])
                        refine wpAnyH_take (i := 4) (oi := ⟨some 115, _, _, _, _, _⟩) (v := (.agg #[.int .i64 b0, .int .i64 k0, .bool d0])) rfl (by kernel_rfl) (by kernel_rfl) (by kernel_rfl) (fun _ _ _ h => h) (yields_load (by rfl) 57 _ rfl gr _ rfl #[.int .i64 b0, .int .i64 k0, .bool d0] _ (fun _ h j v hj => h.2.1 j v (by simpa using hj)) Tryz.underlying57 rfl (by kernel_rfl)) hHeld ?ryr4
                        (try simp only [Act.put, List.setIfInBounds_toArray, List.set_cons_zero, List.set_cons_succ])
                        refine wpAnyH_take (i := 6) (oi := ⟨some 117, _, _, _, _, _⟩) (v := ?ryv6) rfl (by kernel_rfl) (by kernel_rfl) (by kernel_rfl) (fun _ _ _ h => h) (Or.inl ⟨by rfl, ?ryhy6⟩) hHeld ?ryr6
                        case ryhy6 => (intro w hSw; (try dsimp only at hSw); go_simp; (try with_reducible rfl))
                        (try simp only [Act.put, List.setIfInBounds_toArray, List.set_cons_zero, List.set_cons_succ])
                        refine wpAnyH_take (i := 7) (oi := ⟨some 118, _, _, _, _, _⟩) (v := (.slice (some ⟨gr, offr, none⟩) no rc)) rfl (by kernel_rfl) (by kernel_rfl) (by kernel_rfl) (fun _ _ _ h => h) (kn_yields1 (by rfl) 23 _ rfl g1 3 rfl _ 25 (fun _ h => h.1) _ rfl _ Tryz.underlying23 rfl) hHeld ?ryr7
                        (try simp only [Act.put, List.setIfInBounds_toArray, List.set_cons_zero, List.set_cons_succ])
                        refine wpAnyH_take (i := 8) (oi := ⟨some 119, _, _, _, _, _⟩) (v := ?ryv8) rfl (by kernel_rfl) (by kernel_rfl) (by kernel_rfl) (fun _ _ _ h => h) (Or.inl ⟨by rfl, ?ryhy8⟩) hHeld ?ryr8
                        case ryhy8 => (intro w hSw; (try dsimp only at hSw); go_simp; (try with_reducible rfl))
                        (try simp only [Act.put, List.setIfInBounds_toArray, List.set_cons_zero, List.set_cons_succ])
                        refine wpAnyH_take (i := 9) (oi := ⟨some 120, _, _, _, _, _⟩) (v := ?ryv9) rfl (by kernel_rfl) (by kernel_rfl) (by kernel_rfl) (fun _ _ _ h => h) (Or.inl ⟨by rfl, ?ryhy9⟩) hHeld ?ryr9
                        case ryhy9 => (intro w hSw; (try dsimp only at hSw); go_simp; (try with_reducible rfl))
                        (try simp only [Act.put, List.setIfInBounds_toArray, List.set_cons_zero, List.set_cons_succ])
                        refine wpAnyH_take (i := 10) (oi := ⟨some 121, _, _, _, _, _⟩) (v := (.agg #[.int .i64 b1, .int .i64 k1, .bool d1])) rfl (by kernel_rfl) (by kernel_rfl) (by kernel_rfl) (fun _ _ _ h => h) (yields_load (by rfl) 57 _ rfl gr _ rfl #[.int .i64 b1, .int .i64 k1, .bool d1] _ (fun _ h j v hj => h.2.2 j v (by simpa using hj)) Tryz.underlying57 rfl (by kernel_rfl)) hHeld ?ryr10
                        (try simp only [Act.put, List.setIfInBounds_toArray, List.set_cons_zero, List.set_cons_succ])
                        refine wpAnyH_ready (rs := [5]) (by kernel_rfl) (by simp) ?ryc5
                        refine AllReadyH.cons (o := ⟨some 116, _, _, _, _, _⟩) rfl (fun K hK => ?ryst5) AllReadyH.nil
                        go_simp
                        (refine (Rrange_any b0 k0 d0 _).mono ?_; rintro e wx ⟨rfl, hb1⟩; replace KN := KN.below hb1; clear hb1)
                        refine hK.out _ _ ?ryk5 (fun hHeld2 => ?rym5)
                        case ryk5 => exact ⟨KN.at_ (by repeat (first | exact Has.here | refine Has.there ?_)), fun j v hj => (KN.old hgr (by simp)).trans (HRNG.out j v hj), fun j v hj => (KN.old hgr (by simp)).trans (HSN.out j v hj)⟩
                        clear hK K hHeld
                        have hHeld := hHeld2; clear hHeld2
                        (try simp only [Act.put, List.setIfInBounds_toArray, List.set_cons_zero, List.set_cons_succ])
                        refine wpAnyH_ready (rs := [11]) (by kernel_rfl) (by simp) ?ryc11
                        refine AllReadyH.cons (o := ⟨some 122, _, _, _, _, _⟩) rfl (fun K hK => ?ryst11) AllReadyH.nil
                        go_simp
                        (refine (Rrange_any b1 k1 d1 _).mono ?_; rintro e wx ⟨rfl, hb1⟩; replace KN := KN.below hb1; clear hb1)
                        refine hK.out _ _ ?ryk11 (fun hHeld2 => ?rym11)
                        case ryk11 => exact ⟨KN.at_ (by repeat (first | exact Has.here | refine Has.there ?_)), fun j v hj => (KN.old hgr (by simp)).trans (HRNG.out j v hj), fun j v hj => (KN.old hgr (by simp)).trans (HSN.out j v hj)⟩
                        clear hK K hHeld
                        have hHeld := hHeld2; clear hHeld2
                        (try simp only [Act.put, List.setIfInBounds_toArray, List.set_cons_zero, List.set_cons_succ])
                        refine wpAnyH_ready (rs := [12]) (by kernel_rfl) (by simp) ?ryc12
                        refine AllReadyH.cons (o := ⟨some 123, _, _, _, _, _⟩) rfl (fun K hK => ?ryst12) AllReadyH.nil
                        go_simp
                        (refine (ROvl_any b0 k0 b1 k1 HB.out HK.out HB1.out HK1.out _).mono ?_; rw [HDV.out]; rintro e wx ⟨rfl, hb1⟩; replace KN := KN.below hb1; clear hb1)
                        refine hK.out _ _ ?ryk12 (fun hHeld2 => ?rym12)
                        case ryk12 => exact ⟨KN.at_ (by repeat (first | exact Has.here | refine Has.there ?_)), fun j v hj => (KN.old hgr (by simp)).trans (HRNG.out j v hj), fun j v hj => (KN.old hgr (by simp)).trans (HSN.out j v hj)⟩
                        clear hK K hHeld
                        have hHeld := hHeld2; clear hHeld2
                        (try simp only [Act.put, List.setIfInBounds_toArray, List.set_cons_zero, List.set_cons_succ])
                        refine wpAnyH_done (by kernel_rfl) ?rydone _
                        go_wp2_with fail
                        go_roundw
                        case rel => exact ⟨j + 1, by go_num, by omega, HOV.out.succ HSR.out hv, KN⟩
                        case measure => simp [intOf]; omega
                    · obtain rfl : k = j := by omega
                      have HNEW := Lib.hid (HREG.out.succ HRR.out HOO.out HOK.out HO0.out HO1.out HOV.out)
                      go_wp2_with (first | ((with_reducible refine wpList_gate ?_); first | ((with_reducible refine gate_load ?_ ?_); rfl; first | (refine ks_load1 KN 22 Tryz.underlying22 ?_) | (refine ks_load1 KN 3 Tryz.underlying3 ?_) | (refine ks_load1 KN 23 Tryz.underlying23 ?_) | (refine ks_loadW KN 57 Tryz.underlying57 ?_)) | ((with_reducible refine gate_new ?_ ?_); rfl; first | (refine ks_boxA KN 25 (q := 1) ?_; clear KN; intro g1 wx hg1 KN))))
                      go_roundw
                      case rel => exact ⟨k + 1, by go_num, by omega, HNEW.out, KN⟩
                      case measure => simp [intOf]; omega
                · have HD := Lib.hid (decide_eq_false hok)
                  have HF : Hid (¬ ValidC c) := Lib.hid fun q => hok (HRO.out q).1
                  refine wp_region_held_drew (S := (fun w' => BlkT w' g1 #[.slice wa nw wc, .int .i64 st, .int .i64 sl, .slice (some ⟨gr, offr, none⟩) no rc, .slice (some ⟨go, offo, none⟩) no oc] 25 ∧ w'.cell? ⟨go, offo + k, none⟩ = some (.int .i64 o) ∧ w'.rangeAt gr (offr + k * 3) [Value.int .i64 b0, .int .i64 k0, .bool d0])) (by kernel_rfl) ?rdhS (fun hHeld => ?rdrest)
                  case rdhS => exact ⟨KN.at_ (by repeat (first | exact Has.here | refine Has.there ?_)), (KN.old hgo (by simp)).trans HOC.out, fun j v hj => (KN.old hgr (by simp)).trans (HRNG.out j v hj)⟩
                  refine wpAnyH_take (i := 0) (oi := ⟨some 80, _, _, _, _, _⟩) (v := ?rdv0) rfl (by kernel_rfl) (by kernel_rfl) (by kernel_rfl) (fun _ _ _ h => h) (Or.inl ⟨by rfl, ?rdhy0⟩) hHeld ?rdr0
                  case rdhy0 => (intro w hSw; (try dsimp only at hSw); go_simp; (try with_reducible rfl))
                  (try simp only [Act.put, List.setIfInBounds_toArray, List.set_cons_zero, List.set_cons_succ])
                  refine wpAnyH_take (i := 1) (oi := ⟨some 81, _, _, _, _, _⟩) (v := (.slice (some ⟨go, offo, none⟩) no oc)) rfl (by kernel_rfl) (by kernel_rfl) (by kernel_rfl) (fun _ _ _ h => h) (kn_yields1 (by rfl) 22 _ rfl g1 4 rfl _ 25 (fun _ h => h.1) _ rfl _ Tryz.underlying22 rfl) hHeld ?rdr1
                  (try simp only [Act.put, List.setIfInBounds_toArray, List.set_cons_zero, List.set_cons_succ])
                  refine wpAnyH_take (i := 2) (oi := ⟨some 82, _, _, _, _, _⟩) (v := ?rdv2) rfl (by kernel_rfl) (by kernel_rfl) (by kernel_rfl) (fun _ _ _ h => h) (Or.inl ⟨by rfl, ?rdhy2⟩) hHeld ?rdr2
                  case rdhy2 => (intro w hSw; (try dsimp only at hSw); go_simp; (try with_reducible rfl))
                  (try simp only [Act.put, List.setIfInBounds_toArray, List.set_cons_zero, List.set_cons_succ])
                  refine wpAnyH_take (i := 3) (oi := ⟨some 83, _, _, _, _, _⟩) (v := ?rdv3) rfl (by kernel_rfl) (by kernel_rfl) (by kernel_rfl) (fun _ _ _ h => h) (Or.inl ⟨by rfl, ?rdhy3⟩) hHeld ?rdr3
                  case rdhy3 => (intro w hSw; (try dsimp only at hSw); go_simp; (try with_reducible rfl))
                  (try simp only [Act.put, List.setIfInBounds_toArray, List.set_cons_zero, List.set_cons_succ])
                  refine wpAnyH_take (i := 4) (oi := ⟨some 84, _, _, _, _, _⟩) (v := (.int .i64 o)) rfl (by kernel_rfl) (by kernel_rfl) (by kernel_rfl) (fun _ _ _ h => h) (kn_yields_cell (by rfl) 3 _ rfl go _ rfl _ (fun _ h => h.2.1) _ Tryz.underlying3 rfl) hHeld ?rdr4
                  (try simp only [Act.put, List.setIfInBounds_toArray, List.set_cons_zero, List.set_cons_succ])
                  refine wpAnyH_take (i := 5) (oi := ⟨some 85, _, _, _, _, _⟩) (v := ?rdv5) rfl (by kernel_rfl) (by kernel_rfl) (by kernel_rfl) (fun _ _ _ h => h) (Or.inl ⟨by rfl, ?rdhy5⟩) hHeld ?rdr5
                  case rdhy5 => (intro w hSw; (try dsimp only at hSw); go_simp; (try with_reducible rfl))
                  (try simp only [Act.put, List.setIfInBounds_toArray, List.set_cons_zero, List.set_cons_succ])
                  refine wpAnyH_take (i := 6) (oi := ⟨some 86, _, _, _, _, _⟩) (v := ?rdv6) rfl (by kernel_rfl) (by kernel_rfl) (by kernel_rfl) (fun _ _ _ h => h) (Or.inl ⟨by rfl, ?rdhy6⟩) hHeld ?rdr6
                  case rdhy6 => (intro w hSw; (try dsimp only at hSw); go_simp; (try with_reducible rfl))
                  (try simp only [Act.put, List.setIfInBounds_toArray, List.set_cons_zero, List.set_cons_succ])
                  refine wpAnyH_take (i := 7) (oi := ⟨some 87, _, _, _, _, _⟩) (v := ?rdv7) rfl (by kernel_rfl) (by kernel_rfl) (by kernel_rfl) (fun _ _ _ h => h) (Or.inl ⟨by rfl, ?rdhy7⟩) hHeld ?rdr7
                  case rdhy7 => (intro w hSw; (try dsimp only at hSw); go_simp; (try with_reducible rfl))
                  (try simp only [Act.put, List.setIfInBounds_toArray, List.set_cons_zero, List.set_cons_succ])
                  refine wpAnyH_take (i := 8) (oi := ⟨some 88, _, _, _, _, _⟩) (v := (.slice (some ⟨go, offo, none⟩) no oc)) rfl (by kernel_rfl) (by kernel_rfl) (by kernel_rfl) (fun _ _ _ h => h) (kn_yields1 (by rfl) 22 _ rfl g1 4 rfl _ 25 (fun _ h => h.1) _ rfl _ Tryz.underlying22 rfl) hHeld ?rdr8
                  (try simp only [Act.put, List.setIfInBounds_toArray, List.set_cons_zero, List.set_cons_succ])
                  refine wpAnyH_take (i := 9) (oi := ⟨some 89, _, _, _, _, _⟩) (v := ?rdv9) rfl (by kernel_rfl) (by kernel_rfl) (by kernel_rfl) (fun _ _ _ h => h) (Or.inl ⟨by rfl, ?rdhy9⟩) hHeld ?rdr9
                  case rdhy9 => (intro w hSw; (try dsimp only at hSw); go_simp; (try with_reducible rfl))
                  (try simp only [Act.put, List.setIfInBounds_toArray, List.set_cons_zero, List.set_cons_succ])
                  refine wpAnyH_take (i := 10) (oi := ⟨some 90, _, _, _, _, _⟩) (v := ?rdv10) rfl (by kernel_rfl) (by kernel_rfl) (by kernel_rfl) (fun _ _ _ h => h) (Or.inl ⟨by rfl, ?rdhy10⟩) hHeld ?rdr10
                  case rdhy10 => (intro w hSw; (try dsimp only at hSw); go_simp; (try with_reducible rfl))
                  (try simp only [Act.put, List.setIfInBounds_toArray, List.set_cons_zero, List.set_cons_succ])
                  refine wpAnyH_take (i := 11) (oi := ⟨some 91, _, _, _, _, _⟩) (v := (.int .i64 o)) rfl (by kernel_rfl) (by kernel_rfl) (by kernel_rfl) (fun _ _ _ h => h) (kn_yields_cell (by rfl) 3 _ rfl go _ rfl _ (fun _ h => h.2.1) _ Tryz.underlying3 rfl) hHeld ?rdr11
                  (try simp only [Act.put, List.setIfInBounds_toArray, List.set_cons_zero, List.set_cons_succ])
                  refine wpAnyH_take (i := 12) (oi := ⟨some 92, _, _, _, _, _⟩) (v := ?rdv12) rfl (by kernel_rfl) (by kernel_rfl) (by kernel_rfl) (fun _ _ _ h => h) (Or.inl ⟨by rfl, ?rdhy12⟩) hHeld ?rdr12
                  case rdhy12 => (intro w hSw; (try dsimp only at hSw); go_simp; (try with_reducible rfl))
                  (try simp only [Act.put, List.setIfInBounds_toArray, List.set_cons_zero, List.set_cons_succ])
                  refine wpAnyH_take (i := 13) (oi := ⟨some 93, _, _, _, _, _⟩) (v := (.int .i64 st)) rfl (by kernel_rfl) (by kernel_rfl) (by kernel_rfl) (fun _ _ _ h => h) (kn_yields1 (by rfl) 3 _ rfl g1 1 rfl _ 25 (fun _ h => h.1) _ rfl _ Tryz.underlying3 rfl) hHeld ?rdr13
                  (try simp only [Act.put, List.setIfInBounds_toArray, List.set_cons_zero, List.set_cons_succ])
                  refine wpAnyH_take (i := 14) (oi := ⟨some 94, _, _, _, _, _⟩) (v := ?rdv14) rfl (by kernel_rfl) (by kernel_rfl) (by kernel_rfl) (fun _ _ _ h => h) (Or.inl ⟨by rfl, ?rdhy14⟩) hHeld ?rdr14
                  case rdhy14 => (intro w hSw; (try dsimp only at hSw); go_simp; (try with_reducible rfl))
                  (try simp only [Act.put, List.setIfInBounds_toArray, List.set_cons_zero, List.set_cons_succ])
                  refine wpAnyH_take (i := 15) (oi := ⟨some 95, _, _, _, _, _⟩) (v := ?rdv15) rfl (by kernel_rfl) (by kernel_rfl) (by kernel_rfl) (fun _ _ _ h => h) (Or.inl ⟨by rfl, ?rdhy15⟩) hHeld ?rdr15
                  case rdhy15 => (intro w hSw; (try dsimp only at hSw); go_simp; (try with_reducible rfl))
                  (try simp only [Act.put, List.setIfInBounds_toArray, List.set_cons_zero, List.set_cons_succ])
                  refine wpAnyH_take (i := 16) (oi := ⟨some 96, _, _, _, _, _⟩) (v := ?rdv16) rfl (by kernel_rfl) (by kernel_rfl) (by kernel_rfl) (fun _ _ _ h => h) (Or.inl ⟨by rfl, ?rdhy16⟩) hHeld ?rdr16
                  case rdhy16 => (intro w hSw; (try dsimp only at hSw); go_simp; (try with_reducible rfl))
                  (try simp only [Act.put, List.setIfInBounds_toArray, List.set_cons_zero, List.set_cons_succ])
                  refine wpAnyH_take (i := 17) (oi := ⟨some 97, _, _, _, _, _⟩) (v := ?rdv17) rfl (by kernel_rfl) (by kernel_rfl) (by kernel_rfl) (fun _ _ _ h => h) (Or.inl ⟨by rfl, ?rdhy17⟩) hHeld ?rdr17
                  case rdhy17 => (intro w hSw; (try dsimp only at hSw); go_simp; (try with_reducible rfl))
                  (try simp only [Act.put, List.setIfInBounds_toArray, List.set_cons_zero, List.set_cons_succ])
                  refine wpAnyH_take (i := 18) (oi := ⟨some 98, _, _, _, _, _⟩) (v := (.slice (some ⟨gr, offr, none⟩) no rc)) rfl (by kernel_rfl) (by kernel_rfl) (by kernel_rfl) (fun _ _ _ h => h) (kn_yields1 (by rfl) 23 _ rfl g1 3 rfl _ 25 (fun _ h => h.1) _ rfl _ Tryz.underlying23 rfl) hHeld ?rdr18
                  (try simp only [Act.put, List.setIfInBounds_toArray, List.set_cons_zero, List.set_cons_succ])
                  refine wpAnyH_take (i := 19) (oi := ⟨some 99, _, _, _, _, _⟩) (v := ?rdv19) rfl (by kernel_rfl) (by kernel_rfl) (by kernel_rfl) (fun _ _ _ h => h) (Or.inl ⟨by rfl, ?rdhy19⟩) hHeld ?rdr19
                  case rdhy19 => (intro w hSw; (try dsimp only at hSw); go_simp; (try with_reducible rfl))
                  (try simp only [Act.put, List.setIfInBounds_toArray, List.set_cons_zero, List.set_cons_succ])
                  refine wpAnyH_take (i := 20) (oi := ⟨some 100, _, _, _, _, _⟩) (v := ?rdv20) rfl (by kernel_rfl) (by kernel_rfl) (by kernel_rfl) (fun _ _ _ h => h) (Or.inl ⟨by rfl, ?rdhy20⟩) hHeld ?rdr20
                  case rdhy20 => (intro w hSw; (try dsimp only at hSw); go_simp; (try with_reducible rfl))
                  (try simp only [Act.put, List.setIfInBounds_toArray, List.set_cons_zero, List.set_cons_succ])
                  refine wpAnyH_take (i := 21) (oi := ⟨some 101, _, _, _, _, _⟩) (v := (.agg #[.int .i64 b0, .int .i64 k0, .bool d0])) rfl (by kernel_rfl) (by kernel_rfl) (by kernel_rfl) (fun _ _ _ h => h) (yields_load (by rfl) 57 _ rfl gr _ rfl #[.int .i64 b0, .int .i64 k0, .bool d0] _ (fun _ h j v hj => h.2.2 j v (by simpa using hj)) Tryz.underlying57 rfl (by kernel_rfl)) hHeld ?rdr21
                  (try simp only [Act.put, List.setIfInBounds_toArray, List.set_cons_zero, List.set_cons_succ])
                  refine wpAnyH_ready (rs := [22]) (by kernel_rfl) (by simp) ?rdc22
                  refine AllReadyH.cons (o := ⟨some 102, _, _, _, _, _⟩) rfl (fun K hK => ?rdst22) AllReadyH.nil
                  go_simp
                  (refine (Rrange_any b0 k0 d0 _).mono ?_; rintro e wx ⟨rfl, hb1⟩; replace KN := KN.below hb1; clear hb1)
                  refine hK.out _ _ ?rdk22 (fun hHeld2 => ?rdm22)
                  case rdk22 => exact ⟨KN.at_ (by repeat (first | exact Has.here | refine Has.there ?_)), (KN.old hgo (by simp)).trans HOC.out, fun j v hj => (KN.old hgr (by simp)).trans (HRNG.out j v hj)⟩
                  clear hK K hHeld
                  have hHeld := hHeld2; clear hHeld2
                  (try simp only [Act.put, List.setIfInBounds_toArray, List.set_cons_zero, List.set_cons_succ])
                  refine wpAnyH_ready (rs := [23]) (by kernel_rfl) (by simp) ?rdc23
                  refine AllReadyH.cons (o := ⟨some 103, _, _, _, _, _⟩) rfl (fun K hK => ?rdst23) AllReadyH.nil
                  go_simp
                  (refine (RValid_any b0 k0 HB.out HK.out _).mono ?_; rw [HD.out]; rintro e wx ⟨rfl, hb1⟩; replace KN := KN.below hb1; clear hb1)
                  refine hK.out _ _ ?rdk23 (fun hHeld2 => ?rdm23)
                  case rdk23 => exact ⟨KN.at_ (by repeat (first | exact Has.here | refine Has.there ?_)), (KN.old hgo (by simp)).trans HOC.out, fun j v hj => (KN.old hgr (by simp)).trans (HRNG.out j v hj)⟩
                  clear hK K hHeld
                  have hHeld := hHeld2; clear hHeld2
                  (try simp only [Act.put, List.setIfInBounds_toArray, List.set_cons_zero, List.set_cons_succ])
                  refine wpAnyH_take (i := 24) (oi := ⟨some 104, _, _, _, _, _⟩) (v := ?rdv24) rfl (by kernel_rfl) (by kernel_rfl) (by kernel_rfl) (fun _ _ _ h => h) (Or.inl ⟨by rfl, ?rdhy24⟩) hHeld ?rdr24
                  case rdhy24 => (intro w hSw; (try dsimp only at hSw); go_simp; (try with_reducible rfl))
                  (try simp only [Act.put, List.setIfInBounds_toArray, List.set_cons_zero, List.set_cons_succ])
                  refine wpAnyH_take (i := 25) (oi := ⟨some 105, _, _, _, _, _⟩) (v := ?rdv25) rfl (by kernel_rfl) (by kernel_rfl) (by kernel_rfl) (fun _ _ _ h => h) (Or.inl ⟨by rfl, ?rdhy25⟩) hHeld ?rdr25
                  case rdhy25 => (intro w hSw; (try dsimp only at hSw); go_simp; (try with_reducible rfl))
                  (try simp only [Act.put, List.setIfInBounds_toArray, List.set_cons_zero, List.set_cons_succ])
                  refine wpAnyH_done (by kernel_rfl) ?rddone _
                  go_wp2_with fail
                  go_ret
                  exact VOut.no HF.out KN.toBelow
          · obtain rfl : no = k := by omega
            have HVC : Hid (ValidC c) := Lib.hid ⟨⟨by rw [← HNW.out]; omega, by rw [← HNW.out]; omega, by rw [← HST.out]; omega, by rw [← HST.out, ← HNW.out]; omega, by rw [← HSL.out]; omega, by rw [← HSL.out]; omega, by rw [← HNR.out]; omega, by rw [← HNR.out, ← HNO.out]⟩, HWALL.out, by rw [← HNR.out]; exact HREG.out⟩
            go_wp2_with (first | ((with_reducible refine wpList_gate ?_); first | ((with_reducible refine gate_load ?_ ?_); rfl; first | (refine ks_load1 KN 22 Tryz.underlying22 ?_) | (refine ks_load1 KN 3 Tryz.underlying3 ?_) | (refine ks_load1 KN 23 Tryz.underlying23 ?_) | (refine ks_loadW KN 57 Tryz.underlying57 ?_)) | ((with_reducible refine gate_new ?_ ?_); rfl; first | (refine ks_boxA KN 25 (q := 1) ?_; clear KN; intro g1 wx hg1 KN))))
            go_ret
            exact VOut.yes HVC.out KN.toBelow
  · have hne : ((no : Int) != (nr : Int)) = true := by simp; omega
    have HF : Hid (¬ ValidC c) := Lib.hid fun q => by have := HV.out q; omega
    go_enter Tryz.func6, Tryz.ntmps6
    go_wp2_with (first | ((with_reducible refine wpList_gate ?_); first | ((with_reducible refine gate_load ?_ ?_); rfl; first | (refine ks_load1 KN 22 Tryz.underlying22 ?_) | (refine ks_load1 KN 3 Tryz.underlying3 ?_) | (refine ks_load1 KN 23 Tryz.underlying23 ?_) | (refine ks_loadW KN 57 Tryz.underlying57 ?_)) | ((with_reducible refine gate_new ?_ ?_); rfl; first | (refine ks_boxA KN 25 (q := 1) ?_; clear KN; intro g1 wx hg1 KN))))
    go_ret
    exact VOut.no HF.out KN.toBelow
end Go.Proofs.YtlhmeeidlhpodaaGreat
