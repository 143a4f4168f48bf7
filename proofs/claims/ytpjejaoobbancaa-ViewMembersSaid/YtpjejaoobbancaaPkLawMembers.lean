/- ViewMembers: true for every list and numbers. -/
import Derived.Test.YtpjejaoobbancaaPkMemP
import Derived.Test.YtpjejaoobbancaaPkLexP
import Derived.BigQuiet
set_option linter.unusedVariables false
set_option linter.unusedSimpArgs false
set_option linter.unusedSectionVars false
namespace Go.Proofs.Ytpjejaoobbancaa
open Go.RowKit Go.BigFrame

theorem row_take {w : World} {a : Option Addr} {n c k : Nat} {zs : List Int} (h : Row w (.slice a n c) 1 (intRows zs)) (hk : k ≤ n) : Row w (.slice a k c) 1 (intRows (zs.take k)) := by
  obtain ⟨a', c', hv, hm, hf⟩ := ints_form h
  simp only [Value.slice.injEq] at hv
  obtain ⟨rfl, hn, rfl⟩ := hv
  have hl : (intRows (zs.take k)).length = k := by rw [List.length_map, List.length_take]; omega
  refine ⟨by rw [hl]; omega, ?_⟩
  rcases Nat.eq_zero_or_pos k with h0 | h0
  · subst h0
    exact .inl ⟨rfl, _, _, rfl⟩
  · obtain ⟨z, hz⟩ : ∃ z, zs[0]? = some z := ⟨_, List.getElem?_eq_getElem (by omega)⟩
    obtain ⟨g, off, rfl, hg, h1, h2, _⟩ := hf 0 z hz
    refine .inr ⟨g, off, c, by rw [hl], by rw [hl]; exact h0, by rw [hl]; omega, h2, hg, ?_⟩
    intro i r j v hi hj
    rw [List.getElem?_map, List.getElem?_take] at hi
    split at hi
    · cases hx : zs[i]? with
      | none => rw [hx] at hi; cases hi
      | some x =>
        rw [hx] at hi
        have hr : r = [Value.int .i64 x] := by simpa using hi.symm
        subst hr
        have hj0 : j = 0 := by
          have := (List.getElem?_eq_some_iff.1 hj).1
          simp only [List.length_cons, List.length_nil] at this
          omega
        subst hj0
        have hv : v = .int .i64 x := by simpa using hj.symm
        subst hv
        obtain ⟨g', off', he, _, _, _, hc⟩ := hf i x hx
        simp only [Option.some.injEq, Addr.mk.injEq] at he
        obtain ⟨rfl, rfl, _⟩ := he
        simpa using hc
    · cases hi
theorem hasInt_q {v : Value} {zs : List Int} {w : World} (h : Row w v 1 (intRows zs)) (x : Int) (b : Bool) (hb : decide (x ∈ zs) = b) (n : Nat) : Calls Try.prog 15 #[v, .int .i64 x] (w.drewN n) fun e w' => e = .returned (.bool b) ∧ w' = w.drewN n :=
  (HasInt_any (h.below ((Kn.start w).drewN n).toBelow) x).mono fun _ _ h => ⟨h.1.trans (by rw [hb]), h.2.symm⟩
def MbR (n : Nat) (w : World) (L : Ents) (i : Value) (wr : World) : Prop := ∃ k : Nat, i = .int .i64 (k : Int) ∧ k ≤ n ∧ Kn [] w wr L
set_option maxRecDepth 100000 in
set_option maxHeartbeats 8000000 in
theorem viewMembers_any {v wv dv : Value} {zs wanted dead : List Int} {w : World} (h : Ints w v zs) (hw : Ints w wv wanted) (hd : Ints w dv dead) (n : Int) (hn0 : -9223372036854775808 ≤ n) (hn1 : n ≤ 9223372036854775807) :
    Calls Try.prog 6 #[v, .int .i64 n, wv, dv] w fun e w' => e = .returned (.bool true) ∧ Below w.heap.size w w' := by
  have HI := Lib.hid h
  have HW := Lib.hid hw
  have HD := Lib.hid hd
  obtain ⟨va, vc, rfl, hlm, _⟩ := ints_form h.1
  obtain ⟨wa, wc, rfl, hwm, _⟩ := ints_form hw.1
  obtain ⟨da, dc, rfl, hdm, _⟩ := ints_form hd.1
  obtain ⟨zl, hzl⟩ : ∃ q, q = zs.length := ⟨_, rfl⟩
  obtain ⟨wl, hwl⟩ : ∃ q, q = wanted.length := ⟨_, rfl⟩
  obtain ⟨dl, hdl⟩ : ∃ q, q = dead.length := ⟨_, rfl⟩
  have HZL := Lib.hid hzl
  have HWL := Lib.hid hwl
  have HDL := Lib.hid hdl
  rw [← hzl] at HI hlm ⊢
  rw [← hwl] at HW hwm ⊢
  rw [← hdl] at HD hdm ⊢
  unfold maxLen at hlm hwm hdm
  clear h hw hd hzl hwl hdl
  by_cases hlen : 100 < zl
  · go_enter Try.func6, Try.ntmps6
    go_wp2_with (go_at_call 7; refine (vawake_any _).mono ?_; rintro e wx ⟨rfl, hb⟩)
    go_ret
    exact ⟨rfl, hb⟩
  by_cases hlen2 : 20 < wl
  · go_enter Try.func6, Try.ntmps6
    go_wp2_with (go_at_call 7; refine (vawake_any _).mono ?_; rintro e wx ⟨rfl, hb⟩)
    go_ret
    exact ⟨rfl, hb⟩
  by_cases hlen3 : 20 < dl
  · go_enter Try.func6, Try.ntmps6
    go_wp2_with (go_at_call 7; refine (vawake_any _).mono ?_; rintro e wx ⟨rfl, hb⟩)
    go_ret
    exact ⟨rfl, hb⟩
  obtain ⟨N, hN⟩ : ∃ N : Nat, 1 + n % 4 = (N : Int) := ⟨(1 + n % 4).toNat, by omega⟩
  have hN5 : N < 5 := by omega
  have hN1 : 1 ≤ N := by omega
  have hn4 : n % 4 = (N : Int) - 1 := by omega
  have HN := Lib.hid hn4
  obtain ⟨rs, hrs⟩ : ∃ rs, rs = mkReports zs N := ⟨_, rfl⟩
  have HRS := Lib.hid hrs
  have HRL : Hid (rs.length = N) := Lib.hid (by rw [hrs]; exact mkReports_len _ _)
  have HCORE : Hid (∀ (k : Nat) (r : Rep), rs[k]? = some r → r.core = (k : Int)) := Lib.hid (fun k r hr => by rw [hrs] at hr; exact mkReports_core hr)
  have HNUM : Hid (∀ z ∈ numsOf 0 rs, 0 ≤ z ∧ z ≤ 1073741824) := Lib.hid (by rw [hrs]; exact mkReports_num (by decide) (by decide))
  have HVB : Hid (ViewsB rs) := Lib.hid (by rw [hrs]; exact mkReports_vb _ _)
  have HND : Hid (∀ r ∈ rs, r.view.mem.Nodup ∧ r.next.mem.Nodup) := Lib.hid (by rw [hrs]; exact mkReports_nodup _ _)
  clear hN hrs hn4
  go_enter Try.func6, Try.ntmps6
  go_upto_region 3 with fail
  (try go_frame)
  go_upto_region 4 with (first | (go_at_call 9; refine (MPlace_any _ _ _ hn0 hn1 (by omega) (by omega)).mono ?_; rintro e wx ⟨rfl, rfl⟩; rw [HN.out]) | (go_at_call 8; rw [show (1 : Int) + ((N : Int) - 1) = (N : Int) from by omega]; refine (reports_rd HI.out N (by omega)).mono ?_; rw [← HRS.out]; rintro e w1 ⟨x, rfl, hrd, hb1⟩; have HX1 := Lib.hid hrd; have HB1 := Lib.hid hb1; obtain ⟨xa, xc, hxv, _⟩ := hrd.form; rw [HRL.out] at hxv; subst hxv; clear hrd hb1))
  (try go_frame)
  have KN := Kn.start w1
  go_upto_region 5 with (first | (go_at_call 8; refine (reports_rd ((HI.out.below HB1.out).below KN.toBelow) N (by omega)).mono ?_; rw [← HRS.out]; rintro e w2 ⟨x2, rfl, hrd, hb2⟩; have HX2 := Lib.hid hrd; have HB2 := Lib.hid (KN.below hb2).toBelow; clear KN hrd hb2; have KN := Kn.start w2) | (go_at_call 12; refine (Next_any (srt := sortL wanted) (dead := dead) 3 0 (HX2.out.below KN.toBelow) (by rw [HRL.out]; omega) HCORE.out HNUM.out (by decide) (by decide) (sortsTo_list (HO40.out.row (f := fun o => o) (KN.sub (List.sublist_append_left _ _)) .id) (by rw [← HWL.out]; omega)) (by unfold sortL; rw [List.length_mergeSort, ← HWL.out]; omega) HVB.out (HO42.out.row (f := fun o => o) (KN.sub (List.sublist_append_right _ _)) .id)).mono ?_; rintro e w3 ⟨⟨ma, mn, mc⟩, ⟨oa, on, oc⟩, V, hV, rfl, hm, ho, hb⟩; have HV := Lib.hid hV; have HM := Lib.hid hm; have HO := Lib.hid ho; have HB3 := Lib.hid (KN.below hb).toBelow; clear KN hV hm ho hb HX2; have KN := Kn.start w3) | ((with_reducible refine wpList_gate ?_); first | (at_builtin; refine wpList_kn_appendR (f := fun o => o) KN .nil (by rfl) _ _ 22 rfl 8 Try.underlying22 int_info (by decide) rfl (.slice wa wl wc) rfl _ (((HW.out.1.below HB1.out).below HB2.out).below KN.toBelow) (intRows_len _) (intRows_one _) (by rw [List.length_map, ← HWL.out]; unfold maxLen; simp; omega) (by rw [List.length_map, ← HWL.out]; simp; omega) .id rfl ?_; clear KN; intro v40 wx ol40 OW40 KN; have HO40 := Lib.hid OW40; clear OW40) | (at_builtin; refine wpList_kn_appendR (f := fun o => ol40 ++ o) KN .nil (by rfl) _ _ 22 rfl 8 Try.underlying22 int_info (by decide) rfl (.slice da dl dc) rfl _ (((HD.out.1.below HB1.out).below HB2.out).below KN.toBelow) (intRows_len _) (intRows_one _) (by rw [List.length_map, ← HDL.out]; unfold maxLen; simp; omega) (by rw [List.length_map, ← HDL.out]; simp; omega) (.app .id _) (List.append_nil _) ?_; clear KN; intro v42 wx ol42 OW42 KN; have HO42 := Lib.hid OW42; clear OW42) | ((with_reducible refine gate_load ?_ ?_); rfl; first | (refine ks_load1 KN 22 Try.underlying22 ?_) | (refine ks_load1 KN 3 Try.underlying3 ?_)) | ((with_reducible refine gate_store ?_ ?_); rfl; first | (refine ks_storeW KN 30 ?_; clear KN; intro wx KN) | (refine ks_storeA KN 30 ?_; clear KN; intro wx KN)) | ((with_reducible refine gate_new ?_ ?_); rfl; first | (refine ks_alloc KN 30 (q := 10) #[.int .i64 0, .slice none 0 0, .slice none 0 0] ?_; clear KN; intro g10 wx hg10 KN))))
  (try go_frame)
  obtain ⟨L1, L2, L3⟩ := next_members (wanted := wanted) (dead := dead) HND.out (by rw [HRL.out]; exact hN1) HV.out
  rw [HRL.out] at L2
  obtain ⟨mem, hmem⟩ : ∃ q, q = V.mem := ⟨_, rfl⟩
  obtain ⟨own, hown⟩ : ∃ q, q = V.own := ⟨_, rfl⟩
  obtain ⟨num, hnum⟩ : ∃ q, q = V.num := ⟨_, rfl⟩
  rw [← hmem] at L1 L2 L3 HM
  rw [← hown] at L3 HO
  rw [← hnum] at KN ⊢
  have HL1 := Lib.hid L1
  have HL2 := Lib.hid L2
  have HL3 := Lib.hid L3
  clear L1 L2 L3 hmem hown hnum HV
  have HMX := Lib.hid (HM.out.below KN.toBelow)
  obtain ⟨ma', mc', hmv, hmm, _⟩ := ints_form HMX.out
  simp only [SL.v, Value.slice.injEq] at hmv
  have HMN : Hid (mn = mem.length) := Lib.hid hmv.2.1
  clear hmv
  have K9 := KN.as_ g10 #[.int .i64 num, .slice ma mn mc, .slice oa on oc] (by repeat (first | exact Repl.here | apply Repl.there)) rfl
  clear KN
  have KN := K9
  clear K9
  have KN0 : Kn [] w3 wx [(g10, At #[.int .i64 num, .slice ma mn mc, .slice oa on oc] 30)] := KN.sub (by exact List.Sublist.refl _)
  clear KN
  have KN := KN0
  clear KN0 HMX
  have HW3 : Hid (Row w3 (.slice wa wl wc) 1 (intRows wanted)) := Lib.hid (((HW.out.1.below HB1.out).below HB2.out).below HB3.out)
  have HD3 : Hid (Row w3 (.slice da dl dc) 1 (intRows dead)) := Lib.hid (((HD.out.1.below HB1.out).below HB2.out).below HB3.out)
  have HON : Hid (on = own.length) := Lib.hid (by
    obtain ⟨_, _, hv, _, _⟩ := ints_form HO.out
    simp only [SL.v, Value.slice.injEq] at hv
    exact hv.2.1)
  go_upto_block 0 with fail
  (try go_frame)
  go_wp2_with fail
  go_loopw [11] (fun i wr => MbR mn w3 [(g10, At #[.int .i64 num, .slice ma mn mc, .slice oa on oc] 30)] i wr) (fun i _ => mn - natOf i)
  case atStart => exact ⟨0, rfl, Nat.zero_le _, KN⟩
  case round =>
    clear KN
    obtain ⟨k, rfl, hk, KN⟩ := hrel
    by_cases hlt : k < mn
    · obtain ⟨x, hx⟩ : ∃ x, mem[k]? = some x := ⟨_, List.getElem?_eq_getElem (by rw [← HMN.out]; exact hlt)⟩
      have HNI : Hid (decide (x ∈ mem.take k) = false) := Lib.hid (decide_eq_false (fun hm => by
        obtain ⟨i, hi⟩ := List.getElem?_of_mem hm
        have hik : i < k := by
          have := (List.getElem?_eq_some_iff.1 hi).1
          rw [List.length_take] at this
          omega
        rw [List.getElem?_take, if_pos hik] at hi
        have := (List.getElem?_inj (by rw [← HMN.out]; omega) HL1.out).1 (hi.trans hx.symm)
        omega))
      have hcase := (HL2.out x).1 (List.mem_of_getElem? hx)
      have HT := Lib.hid (row_take (HM.out.below KN.toBelow) (Nat.le_of_lt hlt))
      obtain ⟨g, off, rfl, hg, hc1, hc2, hcell⟩ := row_at (HM.out.below KN.toBelow) hx
      have hkc : k ≤ mc := Nat.le_trans (Nat.le_of_lt hlt) hc1
      have HC1 := Lib.hid (HasInt_any HT.out x)
      rw [HNI.out] at HC1
      unfold maxLen at hc2
      have HCASE := Lib.hid hcase
      clear hx hcase
      go_upto_region 9 with (first | ((with_reducible refine wpList_gate ?_); first | ((with_reducible refine gate_load ?_ ?_); rfl; first | (refine ks_load1 KN 22 Try.underlying22 ?_) | (refine ks_load1 KN 3 Try.underlying3 ?_)) | ((with_reducible refine gate_store ?_ ?_); rfl; first | (refine ks_storeW KN 30 ?_; clear KN; intro wx KN) | (refine ks_storeA KN 30 ?_; clear KN; intro wx KN)) | ((with_reducible refine gate_new ?_ ?_); rfl; first | (refine ks_alloc KN 30 (q := 10) #[.int .i64 0, .slice none 0 0, .slice none 0 0] ?_; clear KN; intro g10 wx hg10 KN))))
      (try go_frame)
      clear hcell
      by_cases q1 : 0 ≤ x
      · have d1 : decide (0 ≤ x) = true := decide_eq_true q1
        by_cases q2 : x < (N : Int)
        · have d2 : decide (x < (N : Int)) = true := decide_eq_true q2
          go_wp2_with (first | (go_at_call 15; with_reducible refine HC1.out.mono ?_; rintro e wx ⟨rfl, rfl⟩) | ((with_reducible refine wpList_gate ?_); first | ((with_reducible refine gate_load ?_ ?_); rfl; first | (refine ks_load1 KN 22 Try.underlying22 ?_) | (refine ks_load1 KN 3 Try.underlying3 ?_)) | ((with_reducible refine gate_store ?_ ?_); rfl; first | (refine ks_storeW KN 30 ?_; clear KN; intro wx KN) | (refine ks_storeA KN 30 ?_; clear KN; intro wx KN)) | ((with_reducible refine gate_new ?_ ?_); rfl; first | (refine ks_alloc KN 30 (q := 10) #[.int .i64 0, .slice none 0 0, .slice none 0 0] ?_; clear KN; intro g10 wx hg10 KN))))
          go_roundw
          case rel => exact ⟨k + 1, by go_num, by omega, KN⟩
          case measure => simp [natOf]; omega
        · have d2 : decide (x < (N : Int)) = false := decide_eq_false q2
          have HC2 := Lib.hid (HasInt_any (HW3.out.below KN.toBelow) x)
          have HC3 := Lib.hid (HasInt_any (HD3.out.below KN.toBelow) x)
          rw [decide_eq_true (HCASE.out.resolve_left (fun q => q2 q.2)).1] at HC2
          rw [decide_eq_false (HCASE.out.resolve_left (fun q => q2 q.2)).2] at HC3
          go_wp2_with (first | (go_at_call 15; with_reducible refine HC1.out.mono ?_; rintro e wx ⟨rfl, rfl⟩) | (go_at_call 15; with_reducible refine HC2.out.mono ?_; rintro e wx ⟨rfl, rfl⟩) | (go_at_call 15; with_reducible refine HC3.out.mono ?_; rintro e wx ⟨rfl, rfl⟩) | ((with_reducible refine wpList_gate ?_); first | ((with_reducible refine gate_load ?_ ?_); rfl; first | (refine ks_load1 KN 22 Try.underlying22 ?_) | (refine ks_load1 KN 3 Try.underlying3 ?_)) | ((with_reducible refine gate_store ?_ ?_); rfl; first | (refine ks_storeW KN 30 ?_; clear KN; intro wx KN) | (refine ks_storeA KN 30 ?_; clear KN; intro wx KN)) | ((with_reducible refine gate_new ?_ ?_); rfl; first | (refine ks_alloc KN 30 (q := 10) #[.int .i64 0, .slice none 0 0, .slice none 0 0] ?_; clear KN; intro g10 wx hg10 KN))))
          go_roundw
          case rel => exact ⟨k + 1, by go_num, by omega, KN⟩
          case measure => simp [natOf]; omega
      · have d1 : decide (0 ≤ x) = false := decide_eq_false q1
        have HC2 := Lib.hid (HasInt_any (HW3.out.below KN.toBelow) x)
        have HC3 := Lib.hid (HasInt_any (HD3.out.below KN.toBelow) x)
        rw [decide_eq_true (HCASE.out.resolve_left (fun q => q1 q.1)).1] at HC2
        rw [decide_eq_false (HCASE.out.resolve_left (fun q => q1 q.1)).2] at HC3
        go_wp2_with (first | (go_at_call 15; with_reducible refine HC1.out.mono ?_; rintro e wx ⟨rfl, rfl⟩) | (go_at_call 15; with_reducible refine HC2.out.mono ?_; rintro e wx ⟨rfl, rfl⟩) | (go_at_call 15; with_reducible refine HC3.out.mono ?_; rintro e wx ⟨rfl, rfl⟩) | ((with_reducible refine wpList_gate ?_); first | ((with_reducible refine gate_load ?_ ?_); rfl; first | (refine ks_load1 KN 22 Try.underlying22 ?_) | (refine ks_load1 KN 3 Try.underlying3 ?_)) | ((with_reducible refine gate_store ?_ ?_); rfl; first | (refine ks_storeW KN 30 ?_; clear KN; intro wx KN) | (refine ks_storeA KN 30 ?_; clear KN; intro wx KN)) | ((with_reducible refine gate_new ?_ ?_); rfl; first | (refine ks_alloc KN 30 (q := 10) #[.int .i64 0, .slice none 0 0, .slice none 0 0] ?_; clear KN; intro g10 wx hg10 KN))))
        go_roundw
        case rel => exact ⟨k + 1, by go_num, by omega, KN⟩
        case measure => simp [natOf]; omega
    · obtain rfl : k = mn := by omega
      clear hlt hk
      go_upto_block 0 with (first | ((with_reducible refine wpList_gate ?_); first | ((with_reducible refine gate_load ?_ ?_); rfl; first | (refine ks_load1 KN 22 Try.underlying22 ?_) | (refine ks_load1 KN 3 Try.underlying3 ?_)) | ((with_reducible refine gate_store ?_ ?_); rfl; first | (refine ks_storeW KN 30 ?_; clear KN; intro wx KN) | (refine ks_storeA KN 30 ?_; clear KN; intro wx KN)) | ((with_reducible refine gate_new ?_ ?_); rfl; first | (refine ks_alloc KN 30 (q := 10) #[.int .i64 0, .slice none 0 0, .slice none 0 0] ?_; clear KN; intro g10 wx hg10 KN))))
      (try go_frame)
      go_wp2_with fail
      go_loopw [13] (fun i wr => MbR N w3 [(g10, At #[.int .i64 num, .slice ma k mc, .slice oa on oc] 30)] i wr) (fun i _ => N - natOf i)
      case atStart => exact ⟨0, rfl, Nat.zero_le _, KN⟩
      case round =>
        clear KN
        obtain ⟨j, rfl, hj, KN⟩ := hrel
        by_cases hlt : j < N
        · have HC1 : Hid (Calls Try.prog 15 #[.slice ma k mc, .int .i64 (j : Int)] _ _) := Lib.hid (HasInt_any (HM.out.below KN.toBelow) (j : Int))
          rw [decide_eq_true ((HL2.out (j : Int)).2 (.inl ⟨by omega, by omega⟩))] at HC1
          go_wp2_with (first | (go_at_call 15; with_reducible refine HC1.out.mono ?_; rintro e wx ⟨rfl, rfl⟩) | ((with_reducible refine wpList_gate ?_); first | ((with_reducible refine gate_load ?_ ?_); rfl; first | (refine ks_load1 KN 22 Try.underlying22 ?_) | (refine ks_load1 KN 3 Try.underlying3 ?_)) | ((with_reducible refine gate_store ?_ ?_); rfl; first | (refine ks_storeW KN 30 ?_; clear KN; intro wx KN) | (refine ks_storeA KN 30 ?_; clear KN; intro wx KN)) | ((with_reducible refine gate_new ?_ ?_); rfl; first | (refine ks_alloc KN 30 (q := 10) #[.int .i64 0, .slice none 0 0, .slice none 0 0] ?_; clear KN; intro g10 wx hg10 KN))))
          go_roundw
          case rel => exact ⟨j + 1, by go_num, by omega, KN⟩
          case measure => simp [natOf]; omega
        · obtain rfl : j = N := by omega
          clear hlt hj
          go_upto_block 0 with (first | ((with_reducible refine wpList_gate ?_); first | ((with_reducible refine gate_load ?_ ?_); rfl; first | (refine ks_load1 KN 22 Try.underlying22 ?_) | (refine ks_load1 KN 3 Try.underlying3 ?_)) | ((with_reducible refine gate_store ?_ ?_); rfl; first | (refine ks_storeW KN 30 ?_; clear KN; intro wx KN) | (refine ks_storeA KN 30 ?_; clear KN; intro wx KN)) | ((with_reducible refine gate_new ?_ ?_); rfl; first | (refine ks_alloc KN 30 (q := 10) #[.int .i64 0, .slice none 0 0, .slice none 0 0] ?_; clear KN; intro g10 wx hg10 KN))))
          (try go_frame)
          go_wp2_with fail
          go_loopw [14] (fun i wr => MbR wl w3 [(g10, At #[.int .i64 num, .slice ma k mc, .slice oa on oc] 30)] i wr) (fun i _ => wl - natOf i)
          case atStart => exact ⟨0, rfl, Nat.zero_le _, KN⟩
          case round =>
            clear KN
            obtain ⟨u, rfl, hu, KN⟩ := hrel
            by_cases hlt : u < wl
            · obtain ⟨x, hx⟩ : ∃ x, wanted[u]? = some x := ⟨_, List.getElem?_eq_getElem (by rw [← HWL.out]; exact hlt)⟩
              have HXW := Lib.hid (List.mem_of_getElem? hx)
              obtain ⟨g, off, rfl, hg, hc1, hc2, hcell⟩ := row_at (HW3.out.below KN.toBelow) hx
              unfold maxLen at hc2
              clear hx
              by_cases hdx : x ∈ dead
              · have HQ := Lib.hid (hasInt_q (v := .slice da dl dc) (HD3.out.below KN.toBelow) x true (decide_eq_true hdx))
                have c1 := KN.cell (g := g10) (o := 1) (by repeat (first | exact Has.here | refine Has.there ?_)) rfl
                clear hdx
                go_upto_region 19 with fail
                (try go_frame)
                go_quiet ((go_at_call 15; exact Calls.quiet_of_same (HQ.out _)))
                rename_i nq
                replace KN := KN.drewN nq
                clear c1 hcell
                go_wp2_with fail
                go_roundw
                case rel => exact ⟨u + 1, by go_num, by omega, KN⟩
                case measure => simp [natOf]; omega
              · have HQ := Lib.hid (hasInt_q (v := .slice da dl dc) (HD3.out.below KN.toBelow) x false (decide_eq_false hdx))
                have HQ2 := Lib.hid (hasInt_q (v := .slice ma k mc) (HM.out.below KN.toBelow) x true (decide_eq_true ((HL2.out x).2 (.inr ⟨HXW.out, hdx⟩))))
                have c1 := KN.cell (g := g10) (o := 1) (by repeat (first | exact Has.here | refine Has.there ?_)) rfl
                clear hdx
                go_upto_region 19 with fail
                (try go_frame)
                go_quiet ((go_at_call 15; first | (with_reducible exact Calls.quiet_of_same (HQ.out _)) | (with_reducible exact Calls.quiet_of_same (HQ2.out _))))
                rename_i nq
                replace KN := KN.drewN nq
                clear c1 hcell
                go_wp2_with fail
                go_roundw
                case rel => exact ⟨u + 1, by go_num, by omega, KN⟩
                case measure => simp [natOf]; omega
            · obtain rfl : u = wl := by omega
              clear hlt hu
              go_upto_block 0 with (first | ((with_reducible refine wpList_gate ?_); first | ((with_reducible refine gate_load ?_ ?_); rfl; first | (refine ks_load1 KN 22 Try.underlying22 ?_) | (refine ks_load1 KN 3 Try.underlying3 ?_)) | ((with_reducible refine gate_store ?_ ?_); rfl; first | (refine ks_storeW KN 30 ?_; clear KN; intro wx KN) | (refine ks_storeA KN 30 ?_; clear KN; intro wx KN)) | ((with_reducible refine gate_new ?_ ?_); rfl; first | (refine ks_alloc KN 30 (q := 10) #[.int .i64 0, .slice none 0 0, .slice none 0 0] ?_; clear KN; intro g10 wx hg10 KN))))
              (try go_frame)
              go_wp2_with fail
              go_loopw [15] (fun i wr => MbR on w3 [(g10, At #[.int .i64 num, .slice ma k mc, .slice oa on oc] 30)] i wr) (fun i _ => on - natOf i)
              case atStart => exact ⟨0, rfl, Nat.zero_le _, KN⟩
              case round =>
                clear KN
                obtain ⟨y, rfl, hy, KN⟩ := hrel
                by_cases hlt : y < on
                · obtain ⟨x, hx⟩ : ∃ x, own[y]? = some x := ⟨_, List.getElem?_eq_getElem (by rw [← HON.out]; exact hlt)⟩
                  obtain ⟨g, off, rfl, hg, hc1, hc2, hcell⟩ := row_at (a := oa) (n := on) (c := oc) (HO.out.below KN.toBelow) hx
                  have HQ2 := Lib.hid (hasInt_q (v := .slice ma k mc) (HM.out.below KN.toBelow) x true (decide_eq_true (HL3.out x (List.mem_of_getElem? hx))))
                  unfold maxLen at hc2
                  clear hx
                  go_upto_region 24 with (first | ((with_reducible refine wpList_gate ?_); first | ((with_reducible refine gate_load ?_ ?_); rfl; first | (refine ks_load1 KN 22 Try.underlying22 ?_) | (refine ks_load1 KN 3 Try.underlying3 ?_)) | ((with_reducible refine gate_store ?_ ?_); rfl; first | (refine ks_storeW KN 30 ?_; clear KN; intro wx KN) | (refine ks_storeA KN 30 ?_; clear KN; intro wx KN)) | ((with_reducible refine gate_new ?_ ?_); rfl; first | (refine ks_alloc KN 30 (q := 10) #[.int .i64 0, .slice none 0 0, .slice none 0 0] ?_; clear KN; intro g10 wx hg10 KN))))
                  (try go_frame)
                  have c1 := KN.cell (g := g10) (o := 1) (by repeat (first | exact Has.here | refine Has.there ?_)) rfl
                  have c2 := KN.cell (g := g10) (o := 2) (by repeat (first | exact Has.here | refine Has.there ?_)) rfl
                  go_quiet ((go_at_call 15; exact Calls.quiet_of_same (HQ2.out _)))
                  rename_i nq
                  replace KN := KN.drewN nq
                  clear c1 c2 hcell
                  go_wp2_with fail
                  go_roundw
                  case rel => exact ⟨y + 1, by go_num, by omega, KN⟩
                  case measure => simp [natOf]; omega
                · obtain rfl : y = on := by omega
                  clear hlt hy
                  go_wp2_with (first | (go_at_call 7; refine (vawake_any _).mono ?_; rintro e wx ⟨rfl, hb⟩; replace KN := KN.below hb; clear hb) | ((with_reducible refine wpList_gate ?_); first | ((with_reducible refine gate_load ?_ ?_); rfl; first | (refine ks_load1 KN 22 Try.underlying22 ?_) | (refine ks_load1 KN 3 Try.underlying3 ?_)) | ((with_reducible refine gate_store ?_ ?_); rfl; first | (refine ks_storeW KN 30 ?_; clear KN; intro wx KN) | (refine ks_storeA KN 30 ?_; clear KN; intro wx KN)) | ((with_reducible refine gate_new ?_ ?_); rfl; first | (refine ks_alloc KN 30 (q := 10) #[.int .i64 0, .slice none 0 0, .slice none 0 0] ?_; clear KN; intro g10 wx hg10 KN))))
                  go_ret
                  exact ⟨rfl, HB1.out.trans ((HB2.out.trans ((HB3.out.trans (KN.toBelow.mono HB3.out.size)).mono HB2.out.size)).mono HB1.out.size)⟩
end Go.Proofs.Ytpjejaoobbancaa
