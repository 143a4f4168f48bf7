/- ViewBaseExact: true for every list, numbers and moves. -/
import Derived.Test.YtpjejaoobbancaaPkRNext
import Derived.Test.YtpjejaoobbancaaPkLawMembers
import Derived.Test.YtpjejaoobbancaaPkSameV
set_option linter.unusedVariables false
set_option linter.unusedSimpArgs false
set_option linter.unusedSectionVars false
namespace Go.Proofs.Ytpjejaoobbancaa
open Go.RowKit Go.BigFrame

theorem IsBase.unique {rs : List Rep} {b b' : Int} {ad ad' : Bool} (h : IsBase rs b ad) (h' : IsBase rs b' ad') : b = b' ∧ ad = ad' := by
  rcases h with ⟨h0, rfl, rfl⟩ | ⟨g, hg, h⟩
  · rcases h' with ⟨_, rfl, rfl⟩ | ⟨g', hg', _⟩
    · exact ⟨rfl, rfl⟩
    · have := hg'.1; rw [h0] at this; simp [viewsL] at this
  · rcases h' with ⟨h0, _⟩ | ⟨g', hg', h'⟩
    · have := hg.1; rw [h0] at this; simp [viewsL] at this
    · obtain rfl := hg.unique hg'
      rcases h with ⟨ha, rfl, rfl⟩ | ⟨n, hn, h⟩
      · rcases h' with ⟨_, rfl, rfl⟩ | ⟨n', hn', _⟩
        · exact ⟨rfl, rfl⟩
        · have := hn'.1; rw [ha] at this; cases this
      · rcases h' with ⟨ha, _⟩ | ⟨n', hn', h'⟩
        · have := hn.1; rw [ha] at this; cases this
        · obtain rfl := hn.unique hn'
          rcases h with ⟨h1, rfl, rfl⟩ | ⟨h1, rfl, rfl⟩ <;> rcases h' with ⟨h2, rfl, rfl⟩ | ⟨h2, rfl, rfl⟩
          · exact ⟨rfl, rfl⟩
          · rw [h1] at h2; cases h2
          · rw [h1] at h2; cases h2
          · exact ⟨rfl, rfl⟩
theorem IsNextM.unique {leader p : Int} {rs : List Rep} {js : List Int} {mv : List (Int × Int)} {V V' : Vw} (h : IsNextM leader p rs js mv V) (h' : IsNextM leader p rs js mv V') : V = V' := by
  obtain ⟨mx, b, ad, h1, h2, h3, h4, h5⟩ := h
  obtain ⟨mx', b', ad', h1', h2', h3', h4', h5'⟩ := h'
  obtain rfl := h1.unique h1'
  obtain ⟨rfl, rfl⟩ := h2.unique h2'
  have e1 : V.num = V'.num := h3.trans h3'.symm
  have e2 : V.mem = V'.mem := h4.trans h4'.symm
  have e3 : V.own = V'.own := by rw [h5, h5', e2]
  cases V; cases V'
  simp only at e1 e2 e3
  rw [e1, e2, e3]
theorem mv_info : (Try.prog.info? 84).map (fun i => (i.size, i.bytes, i.zero.map (·.cells.size))) = some (2, 16, some 2) := by kernel_rfl
theorem mvRows_len (l : List (Int × Int)) : ∀ c ∈ mvRows l, c.length = 2 := by intro c hc; obtain ⟨x, _, rfl⟩ := List.mem_map.1 hc; rfl
theorem mvRows_one (l : List (Int × Int)) : ∀ c ∈ mvRows l, ∀ u ∈ c, u.oneCell' = true := by
  intro c hc u hu
  obtain ⟨x, _, rfl⟩ := List.mem_map.1 hc
  have : u = .int .i64 x.1 ∨ u = .int .i64 x.2 := by simpa using hu
  rcases this with rfl | rfl <;> rfl
set_option maxRecDepth 100000 in
set_option maxHeartbeats 8000000 in
theorem viewBaseExact_any {v wv dv mvv : Value} {zs wanted dead : List Int} {mvs : List (Int × Int)} {w : World} (h : Ints w v zs) (hw : Ints w wv wanted) (hd : Ints w dv dead) (hm : Row w mvv 2 (mvRows mvs)) (n leader c : Int) (hn0 : -9223372036854775808 ≤ n) (hn1 : n ≤ 9223372036854775807)
    (hc0 : -9223372036854775808 ≤ c) (hc1 : c ≤ 9223372036854775807) :
    Calls Try.prog 4 #[v, .int .i64 n, .int .i64 leader, .int .i64 c, wv, dv, mvv] w fun e w' => e = .returned (.bool true) ∧ Below w.heap.size w w' := by
  have HI := Lib.hid h
  have HW := Lib.hid hw
  have HD := Lib.hid hd
  have HMV := Lib.hid hm
  obtain ⟨va, vc, rfl, hlm, _⟩ := ints_form h.1
  obtain ⟨wa, wc, rfl, hwm, _⟩ := ints_form hw.1
  obtain ⟨da, dc, rfl, hdm, _⟩ := ints_form hd.1
  obtain ⟨ta, tc, rfl, htm, _⟩ := mv_at hm
  obtain ⟨zl, hzl⟩ : ∃ q, q = zs.length := ⟨_, rfl⟩
  obtain ⟨wl, hwl⟩ : ∃ q, q = wanted.length := ⟨_, rfl⟩
  obtain ⟨dl, hdl⟩ : ∃ q, q = dead.length := ⟨_, rfl⟩
  obtain ⟨tl, htl⟩ : ∃ q, q = mvs.length := ⟨_, rfl⟩
  have HZL := Lib.hid hzl
  have HWL := Lib.hid hwl
  have HDL := Lib.hid hdl
  have HTL := Lib.hid htl
  rw [← hzl] at HI hlm ⊢
  rw [← hwl] at HW hwm ⊢
  rw [← hdl] at HD hdm ⊢
  rw [← htl] at HMV htm ⊢
  unfold maxLen at hlm hwm hdm htm
  clear h hw hd hm hzl hwl hdl htl
  by_cases hbad : 100 < zl ∨ 20 < wl ∨ 20 < dl ∨ 16 < tl
  · have hc4 : 100 < zl ∨ (¬ 100 < zl ∧ (20 < wl ∨ (¬ 20 < wl ∧ (20 < dl ∨ (¬ 20 < dl ∧ 16 < tl))))) := by omega
    clear hbad
    rcases hc4 with h1 | ⟨h1, h2 | ⟨h2, h3 | ⟨h3, h4⟩⟩⟩ <;>
    · go_enter Try.func4, Try.ntmps4
      go_wp2_with (go_at_call 7; refine (vawake_any _).mono ?_; rintro e wx ⟨rfl, hb⟩)
      go_ret
      exact ⟨rfl, hb⟩
  have hl1 : ¬ 100 < zl := fun q => hbad (.inl q)
  have hl2 : ¬ 20 < wl := fun q => hbad (.inr (.inl q))
  have hl3 : ¬ 20 < dl := fun q => hbad (.inr (.inr (.inl q)))
  have hl4 : ¬ 16 < tl := fun q => hbad (.inr (.inr (.inr q)))
  clear hbad
  obtain ⟨N, hN⟩ : ∃ N : Nat, n % 5 = (N : Int) := ⟨(n % 5).toNat, by omega⟩
  have hN5 : N < 5 := by omega
  have HN := Lib.hid hN
  obtain ⟨pp, hpp⟩ : ∃ pp, c % 300 = pp := ⟨_, rfl⟩
  have hpp0 : 0 ≤ pp := by omega
  have hpp1 : pp < 300 := by omega
  have HPP := Lib.hid hpp
  obtain ⟨rs, hrs⟩ : ∃ rs, rs = mkReports zs N := ⟨_, rfl⟩
  have HRS := Lib.hid hrs
  have HRL : Hid (rs.length = N) := Lib.hid (by rw [hrs]; exact mkReports_len _ _)
  have HCORE : Hid (∀ (k : Nat) (r : Rep), rs[k]? = some r → r.core = (k : Int)) := Lib.hid (fun k r hr => by rw [hrs] at hr; exact mkReports_core hr)
  have HNUM : Hid (∀ z ∈ numsOf pp rs, 0 ≤ z ∧ z ≤ 1073741824) := Lib.hid (by rw [hrs]; exact mkReports_num hpp0 hpp1)
  have HNB : Hid (∀ r ∈ rs, (0 ≤ r.view.num ∧ r.view.num ≤ 1073741824) ∧ 0 ≤ r.next.num ∧ r.next.num ≤ 1073741824) := Lib.hid (fun r hr => by rw [hrs] at hr; have := mkReports_bd hr; omega)
  have HVB : Hid (ViewsB rs) := Lib.hid (by rw [hrs]; exact mkReports_vb _ _)
  clear hN hrs hpp
  go_enter Try.func4, Try.ntmps4
  go_upto_region 3 with fail
  (try go_frame)
  go_upto_region 4 with (first | (go_at_call 9; refine (MPlace_any _ _ _ hn0 hn1 (by omega) (by omega)).mono ?_; rintro e wx ⟨rfl, rfl⟩; rw [HN.out]) | (go_at_call 8; refine (reports_rd HI.out N (by omega)).mono ?_; rw [← HRS.out]; rintro e w1 ⟨x, rfl, hrd, hb1⟩; have HX1 := Lib.hid hrd; have HB1 := Lib.hid hb1; obtain ⟨xa, xc, hxv, _⟩ := hrd.form; rw [HRL.out] at hxv; subst hxv; clear hrd hb1))
  (try go_frame)
  have KN := Kn.start w1
  go_upto_region 5 with (first | (go_at_call 8; refine (reports_rd ((HI.out.below HB1.out).below KN.toBelow) N (by omega)).mono ?_; rw [← HRS.out]; rintro e wx ⟨x2, rfl, hrd, hb2⟩; have HX2 := Lib.hid hrd; replace KN := KN.below hb2; clear hrd hb2) | (go_at_call 10; refine (Base_any HX2.out (by rw [HRL.out]; omega)).mono ?_; rintro e wx ⟨b1, ad1, rfl, hbs, hb⟩; have HBS1 := Lib.hid hbs; replace KN := KN.below hb; clear hb hbs HX2))
  (try go_frame)
  go_upto_region 6 with (go_at_call 11; refine (RBase_any (HX1.out.below KN.toBelow) (by rw [HRL.out]; omega) (fun r hr => ⟨(HNB.out r hr).1.1, (HNB.out r hr).2.1⟩)).mono ?_; rintro e wx ⟨b2, ad2, rfl, hbs2, rfl⟩; have HBS2 := Lib.hid hbs2; clear hbs2)
  (try go_frame)
  have hbb := HBS1.out.unique HBS2.out
  obtain ⟨hq1, hq2⟩ := hbb
  subst hq1
  subst hq2
  go_upto_region 7 with (go_at_call 9; refine (MPlace_any _ _ _ hc0 hc1 (by omega) (by omega)).mono ?_; rintro e wx ⟨rfl, rfl⟩; rw [HPP.out])
  (try go_frame)
  go_upto_region 8 with (first | (go_at_call 8; refine (reports_rd ((HI.out.below HB1.out).below KN.toBelow) N (by omega)).mono ?_; rw [← HRS.out]; rintro e w2 ⟨x2, rfl, hrd, hb2⟩; have HX2 := Lib.hid hrd; have HB2 := Lib.hid (KN.below hb2).toBelow; clear KN hrd hb2; have KN := Kn.start w2) | (go_at_call 12; refine (Next_mv (srt := sortL wanted) (dead := dead) (mvs := mvs) leader pp (HX2.out.below KN.toBelow) (by rw [HRL.out]; omega) HCORE.out HNUM.out (sortsTo_list (HO40.out.row (f := fun o => o) (KN.sub ((List.sublist_append_left _ _).trans (List.sublist_append_left _ _))) .id) (by rw [← HWL.out]; omega)) (by unfold sortL; rw [List.length_mergeSort, ← HWL.out]; omega) HVB.out (HO42.out.row (f := fun o => o) (KN.sub ((List.sublist_append_right _ _).trans (List.sublist_append_left _ _))) .id) (HO44.out.row (f := fun o => o) (KN.sub (List.sublist_append_right _ _)) .id)).mono ?_; rintro e w3 ⟨⟨ma, mn, mc⟩, ⟨oa, on, oc⟩, V, hV, hV0, rfl, hm, ho, hb⟩; have HV := Lib.hid hV; have HV0 := Lib.hid hV0; have HM := Lib.hid hm; have HO := Lib.hid ho; have HB3 := Lib.hid (KN.below hb).toBelow; clear KN hV hV0 hm ho hb HX2; have KN := Kn.start w3) | ((with_reducible refine wpList_gate ?_); first | (at_builtin; refine wpList_kn_appendR (f := fun o => o) KN .nil (by rfl) _ _ 22 rfl 8 Try.underlying22 int_info (by decide) rfl (.slice wa wl wc) rfl _ (((HW.out.1.below HB1.out).below HB2.out).below KN.toBelow) (intRows_len _) (intRows_one _) (by rw [List.length_map, ← HWL.out]; unfold maxLen; simp; omega) (by rw [List.length_map, ← HWL.out]; simp; omega) .id rfl ?_; clear KN; intro v40 wx ol40 OW40 KN; have HO40 := Lib.hid OW40; clear OW40) | (at_builtin; refine wpList_kn_appendR (f := fun o => ol40 ++ o) KN .nil (by rfl) _ _ 22 rfl 8 Try.underlying22 int_info (by decide) rfl (.slice da dl dc) rfl _ (((HD.out.1.below HB1.out).below HB2.out).below KN.toBelow) (intRows_len _) (intRows_one _) (by rw [List.length_map, ← HDL.out]; unfold maxLen; simp; omega) (by rw [List.length_map, ← HDL.out]; simp; omega) (.app .id _) (List.append_nil _) ?_; clear KN; intro v42 wx ol42 OW42 KN; have HO42 := Lib.hid OW42; clear OW42) | (at_builtin; refine wpList_kn_appendR (e := 84) (sz := 2) (f := fun o => (ol40 ++ ol42) ++ o) KN .nil (by rfl) _ _ 42 rfl 16 Try.underlying42 mv_info (by decide) rfl (.slice ta tl tc) rfl _ (((HMV.out.below HB1.out).below HB2.out).below KN.toBelow) (mvRows_len _) (mvRows_one _) (by rw [List.length_map, ← HTL.out]; unfold maxLen; simp; omega) (by rw [List.length_map, ← HTL.out]; simp; omega) (.app .id _) (List.append_nil _) ?_; clear KN; intro v44 wx ol44 OW44 KN; have HO44 := Lib.hid OW44; clear OW44) | ((with_reducible refine gate_load ?_ ?_); rfl; first | (refine ks_loadW KN 30 Try.underlying30 ?_)) | ((with_reducible refine gate_store ?_ ?_); rfl; first | (refine ks_storeW KN 30 ?_; clear KN; intro wx KN) | (refine ks_storeA KN 30 ?_; clear KN; intro wx KN)) | ((with_reducible refine gate_new ?_ ?_); rfl; first | (refine ks_alloc KN 30 (q := 21) #[.int .i64 0, .slice none 0 0, .slice none 0 0] ?_; clear KN; intro g21 wx hg21 KN) | (refine ks_alloc KN 30 (q := 22) #[.int .i64 0, .slice none 0 0, .slice none 0 0] ?_; clear KN; intro g22 wx hg22 KN))))
  (try go_frame)
  have HWX : Hid (Row w3 (.slice wa wl wc) 1 (intRows wanted)) := Lib.hid (((HW.out.1.below HB1.out).below HB2.out).below HB3.out)
  have HDX : Hid (Row w3 (.slice da dl dc) 1 (intRows dead)) := Lib.hid (((HD.out.1.below HB1.out).below HB2.out).below HB3.out)
  have HTX : Hid (Row w3 (.slice ta tl tc) 2 (mvRows mvs)) := Lib.hid (((HMV.out.below HB1.out).below HB2.out).below HB3.out)
  have HXX : Hid (RepRd w3 (.slice xa N xc) rs) := Lib.hid ((HX1.out.below HB2.out).below HB3.out)
  have K9 := KN.as_ g21 #[.int .i64 V.num, .slice ma mn mc, .slice oa on oc] (by repeat (first | exact Repl.here | apply Repl.there)) rfl
  clear KN
  have KN := K9
  clear K9
  go_upto_region 9 with (first | (go_at_call 13; refine (RNext_any (wanted := wanted) (dead := dead) (mvs := mvs) leader pp (HXX.out.below KN.toBelow) (by rw [HRL.out]; omega) HCORE.out HNUM.out HNB.out (HWX.out.below KN.toBelow) (by rw [← HWL.out]; omega) HVB.out (HDX.out.below KN.toBelow) (HTX.out.below KN.toBelow)).mono ?_; rintro e w4 ⟨⟨na, nn, nc⟩, ⟨pa, pn, pc⟩, V2, hV, hV0, rfl, hm2, ho2, hb⟩; have HV2 := Lib.hid hV; have HV20 := Lib.hid hV0; have HM2 := Lib.hid hm2; have HO2 := Lib.hid ho2; replace KN := KN.below hb; have HR21 : Hid (w4.rangeAt g21 0 #[.int .i64 V.num, .slice ma mn mc, .slice oa on oc].toList) := Lib.hid (fun j v hj => by rw [Nat.zero_add]; exact KN.cell (g := g21) (by repeat (first | exact Has.here | refine Has.there ?_)) (by simpa using hj)); have HG21 : Hid (g21 < w4.heap.size) := Lib.hid (Array.getElem?_eq_some_iff.1 (KN.at_ (g := g21) (by repeat (first | exact Has.here | refine Has.there ?_)))).1; have HB4 := Lib.hid KN.toBelow; clear KN hV hV0 hm2 ho2 hb; have KN := Kn.start w4) | ((with_reducible refine wpList_gate ?_); first | ((with_reducible refine gate_load ?_ ?_); rfl; first | (refine ks_loadW KN 30 Try.underlying30 ?_)) | ((with_reducible refine gate_store ?_ ?_); rfl; first | (refine ks_storeW KN 30 ?_; clear KN; intro wx KN) | (refine ks_storeA KN 30 ?_; clear KN; intro wx KN)) | ((with_reducible refine gate_new ?_ ?_); rfl; first | (refine ks_alloc KN 30 (q := 21) #[.int .i64 0, .slice none 0 0, .slice none 0 0] ?_; clear KN; intro g21 wx hg21 KN) | (refine ks_alloc KN 30 (q := 22) #[.int .i64 0, .slice none 0 0, .slice none 0 0] ?_; clear KN; intro g22 wx hg22 KN))))
  (try go_frame)
  have HVV : Hid (V2 = V) := Lib.hid (by
    by_cases hl : 0 ≤ leader ∧ leader < 32
    · exact (HV2.out hl).unique (HV.out hl)
    · rw [HV20.out hl, HV0.out hl])
  have K9 := KN.as_ g22 #[.int .i64 V2.num, .slice na nn nc, .slice pa pn pc] (by repeat (first | exact Repl.here | apply Repl.there)) rfl
  clear KN
  have KN := K9
  clear K9
  have hvv := HVV.out
  subst hvv
  have e1 : (b1 == b1) = true := beq_self_eq_true _
  have e2 : (ad1 == ad1) = true := beq_self_eq_true _
  have HS := Lib.hid (SameView_any (x := V2.num) (y := V2.num) (m1 := ⟨ma, mn, mc⟩) (m2 := ⟨na, nn, nc⟩) (o1 := ⟨oa, on, oc⟩) (o2 := ⟨pa, pn, pc⟩) ((HM.out.below HB4.out).below KN.toBelow) (HM2.out.below KN.toBelow) ((HO.out.below HB4.out).below KN.toBelow) (HO2.out.below KN.toBelow))
  rw [beq_self_eq_true, decide_eq_true rfl, decide_eq_true rfl] at HS
  go_wp2_with (first | (go_at_call 14; refine HS.out.mono ?_; rintro e wx ⟨rfl, hb⟩; replace KN := KN.below hb; clear hb) | (go_at_call 7; refine (vawake_any _).mono ?_; rintro e wx ⟨rfl, hb⟩; replace KN := KN.below hb; clear hb) | ((with_reducible refine wpList_gate ?_); first | ((with_reducible refine gate_load ?_ ?_); rfl; first | (refine wpList_kn_oldN KN (by rfl) 30 _ rfl g21 _ rfl #[.int .i64 V2.num, .slice ma mn mc, .slice oa on oc] HR21.out HG21.out (by simp) _ Try.underlying30 rfl (by kernel_rfl) ?_) | (refine ks_loadW KN 30 Try.underlying30 ?_)) | ((with_reducible refine gate_store ?_ ?_); rfl; first | (refine ks_storeW KN 30 ?_; clear KN; intro wx KN) | (refine ks_storeA KN 30 ?_; clear KN; intro wx KN)) | ((with_reducible refine gate_new ?_ ?_); rfl; first | (refine ks_alloc KN 30 (q := 21) #[.int .i64 0, .slice none 0 0, .slice none 0 0] ?_; clear KN; intro g21 wx hg21 KN) | (refine ks_alloc KN 30 (q := 22) #[.int .i64 0, .slice none 0 0, .slice none 0 0] ?_; clear KN; intro g22 wx hg22 KN))))
  go_ret
  exact ⟨rfl, HB1.out.trans ((HB2.out.trans ((HB3.out.trans ((HB4.out.trans (KN.toBelow.mono HB4.out.size)).mono HB3.out.size)).mono HB2.out.size)).mono HB1.out.size)⟩
end Go.Proofs.Ytpjejaoobbancaa
