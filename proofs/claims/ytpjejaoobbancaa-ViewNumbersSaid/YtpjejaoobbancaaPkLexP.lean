/- Merged: LawNumbers. -/
import Derived.Test.YtpjejaoobbancaaPkSrtNil
import Derived.Test.YtpjejaoobbancaaPkLawAdopts
set_option linter.unusedVariables false
set_option linter.unusedSimpArgs false
set_option linter.unusedSectionVars false
namespace Go.Proofs.Ytpjejaoobbancaa
section
open Go.RowKit Go.BigFrame

theorem mkReports_core {zs : List Int} : ∀ {n k : Nat} {r : Rep}, (mkReports zs n)[k]? = some r → r.core = (k : Int)
  | 0, k, r, h => by simp [mkReports] at h
  | n + 1, k, r, h => by
    unfold mkReports at h
    rcases Nat.lt_or_ge k n with hk | hk
    · rw [List.getElem?_append_left (by rw [mkReports_len]; exact hk)] at h
      exact mkReports_core h
    · rw [List.getElem?_append_right (by rw [mkReports_len]; exact hk), mkReports_len] at h
      have hk0 : k - n = 0 := by
        have := (List.getElem?_eq_some_iff.1 h).1
        simp only [List.length_cons, List.length_nil] at this
        omega
      rw [hk0] at h
      have hr : { mkReport (zs.drop (11 * (n : Int)).toNat) with core := (n : Int) } = r := by simpa using h
      rw [← hr]
      show (n : Int) = (k : Int)
      omega
theorem mkView_len (zs : List Int) : (mkView zs).mem.length ≤ 1000 ∧ (mkView zs).own.length ≤ 1000 := by
  refine ⟨?_, ?_⟩
  · have := memK_len zs (at0 zs 1 % 4).toNat
    show (memK zs (at0 zs 1 % 4).toNat).length ≤ 1000
    omega
  · have := ownK_len zs (at0 zs 6 % 3).toNat
    show (ownK zs (at0 zs 6 % 3).toNat).length ≤ 1000
    omega
theorem mkReports_vb (zs : List Int) (n : Nat) : ViewsB (mkReports zs n) := by
  intro r hr
  obtain ⟨i, _, rfl⟩ := mkReports_mem hr
  refine ⟨mkView_len _, ?_⟩
  unfold mkReport
  dsimp only
  split
  · exact mkView_len _
  · exact ⟨Nat.zero_le _, Nat.zero_le _⟩
theorem mkReports_num {zs : List Int} {n : Nat} {p : Int} (h0 : 0 ≤ p) (h1 : p < 300) : ∀ z ∈ numsOf p (mkReports zs n), 0 ≤ z ∧ z ≤ 1073741824 := by
  intro z hz
  rcases numsOf_mem hz with rfl | ⟨r, hr, h | h⟩
  · omega
  · have := mkReports_bd hr; omega
  · have := mkReports_bd hr; omega
theorem numFor_laws (la mx : Int) (h0 : 0 ≤ la) (h1 : la < 32) : mx < numFor la mx ∧ numFor la mx ≤ mx + 32 ∧ numFor la mx % 32 = la := by unfold numFor; omega
theorem numFor_inj {la lb mx : Int} (h0 : 0 ≤ la) (h1 : la < 32) (h2 : 0 ≤ lb) (h3 : lb < 32) (h : numFor la mx = numFor lb mx) : la = lb := by unfold numFor at h; omega
theorem nil_row (w : World) : Row w (.slice none 0 0) 1 (intRows []) := ⟨by simp, .inl ⟨rfl, _, _, rfl⟩⟩
def natOf : Value → Nat | .int _ q => q.toNat | _ => 0
def NbR (p : Int) (rs : List Rep) (s17 s18 : Value) : Prop :=
  ∃ (k : Nat) (m : Int), s17 = .int .i64 m ∧ s18 = .int .i64 (k : Int) ∧ k ≤ rs.length ∧ IsMax m (numsOf p (rs.take k))
set_option maxRecDepth 100000 in
set_option maxHeartbeats 8000000 in
theorem viewNumbers_any {v : Value} {zs : List Int} {w : World} (h : Ints w v zs) (n a b c : Int) (hn0 : -9223372036854775808 ≤ n) (hn1 : n ≤ 9223372036854775807) (ha0 : -9223372036854775808 ≤ a) (ha1 : a ≤ 9223372036854775807) (hb0 : -9223372036854775808 ≤ b) (hb1 : b ≤ 9223372036854775807) (hc0 : -9223372036854775808 ≤ c) (hc1 : c ≤ 9223372036854775807) :
    Calls Try.prog 5 #[v, .int .i64 n, .int .i64 a, .int .i64 b, .int .i64 c] w fun e w' => e = .returned (.bool true) ∧ Below w.heap.size w w' := by
  have HI := Lib.hid h
  obtain ⟨va, vc, rfl, hlm, _⟩ := ints_form h.1
  obtain ⟨zl, hzl⟩ : ∃ q, q = zs.length := ⟨_, rfl⟩
  have HZL := Lib.hid hzl
  rw [← hzl] at HI hlm ⊢
  unfold maxLen at hlm
  clear h hzl
  by_cases hlen : 100 < zl
  · go_enter Try.func5, Try.ntmps5
    go_wp2_with (go_at_call 7; refine (vawake_any _).mono ?_; rintro e wx ⟨rfl, hb⟩)
    go_ret
    exact ⟨rfl, hb⟩
  obtain ⟨N, hN⟩ : ∃ N : Nat, n % 5 = (N : Int) := ⟨(n % 5).toNat, by omega⟩
  have hN5 : N < 5 := by omega
  have HN := Lib.hid hN
  obtain ⟨la, hla⟩ : ∃ la, a % 32 = la := ⟨_, rfl⟩
  obtain ⟨lb, hlb⟩ : ∃ lb, b % 32 = lb := ⟨_, rfl⟩
  obtain ⟨pp, hpp⟩ : ∃ pp, c % 300 = pp := ⟨_, rfl⟩
  have hla0 : 0 ≤ la := by omega
  have hla1 : la < 32 := by omega
  have hlb0 : 0 ≤ lb := by omega
  have hlb1 : lb < 32 := by omega
  have hpp0 : 0 ≤ pp := by omega
  have hpp1 : pp < 300 := by omega
  have HLA := Lib.hid hla
  have HLB := Lib.hid hlb
  have HPP := Lib.hid hpp
  obtain ⟨rs, hrs⟩ : ∃ rs, rs = mkReports zs N := ⟨_, rfl⟩
  have HRS := Lib.hid hrs
  have HRL : Hid (rs.length = N) := Lib.hid (by rw [hrs]; exact mkReports_len _ _)
  have HCORE : Hid (∀ (k : Nat) (r : Rep), rs[k]? = some r → r.core = (k : Int)) := Lib.hid (fun k r hr => by rw [hrs] at hr; exact mkReports_core hr)
  have HNUM : Hid (∀ z ∈ numsOf pp rs, 0 ≤ z ∧ z ≤ 1073741824) := Lib.hid (by rw [hrs]; exact mkReports_num hpp0 hpp1)
  have HVB : Hid (ViewsB rs) := Lib.hid (by rw [hrs]; exact mkReports_vb _ _)
  clear hN hrs hla hlb hpp
  go_enter Try.func5, Try.ntmps5
  go_upto_region 4 with (first | (go_at_call 9; refine (MPlace_any _ _ _ hn0 hn1 (by omega) (by omega)).mono ?_; rintro e wx ⟨rfl, rfl⟩; rw [HN.out]) | (go_at_call 8; refine (reports_rd HI.out N (by omega)).mono ?_; rw [← HRS.out]; rintro e w1 ⟨x, rfl, hrd, hb1⟩; have HX1 := Lib.hid hrd; have HB1 := Lib.hid hb1; obtain ⟨xa, xc, hxv, _⟩ := hrd.form; rw [HRL.out] at hxv; subst hxv; clear hrd hb1))
  (try go_frame)
  go_upto_region 5 with (go_at_call 9; refine (MPlace_any _ _ _ ha0 ha1 (by omega) (by omega)).mono ?_; rintro e wx ⟨rfl, rfl⟩; rw [HLA.out])
  (try go_frame)
  go_upto_region 6 with (go_at_call 9; refine (MPlace_any _ _ _ hb0 hb1 (by omega) (by omega)).mono ?_; rintro e wx ⟨rfl, rfl⟩; rw [HLB.out])
  (try go_frame)
  go_upto_region 7 with (go_at_call 9; refine (MPlace_any _ _ _ hc0 hc1 (by omega) (by omega)).mono ?_; rintro e wx ⟨rfl, rfl⟩; rw [HPP.out])
  (try go_frame)
  have KN := Kn.start w1
  go_upto_region 8 with (first | (go_at_call 8; refine (reports_rd ((HI.out.below HB1.out).below KN.toBelow) N (by omega)).mono ?_; rw [← HRS.out]; rintro e wx ⟨x2, rfl, hrd, hb2⟩; have HX2 := Lib.hid hrd; replace KN := KN.below hb2; clear hrd hb2) | (go_at_call 12; refine (Next_any (srt := []) (dead := []) la pp HX2.out (by rw [HRL.out]; omega) HCORE.out HNUM.out hla0 hla1 (sortsTo_nil _) (Nat.zero_le _) HVB.out (nil_row _)).mono ?_; rintro e wx ⟨⟨ma, mn, mc⟩, ⟨oa, on, oc⟩, ⟨v1, vm1, vo1⟩, ⟨mx, bb, ad, hmx, _, hnum, _, _⟩, rfl, _, _, hb⟩; have HMX := Lib.hid hmx; have HV1 : Hid (v1 = numFor la mx) := Lib.hid hnum; replace KN := KN.below hb; clear hmx hnum hb HX2) | ((with_reducible refine wpList_gate ?_); first | ((with_reducible refine gate_load ?_ ?_); rfl; first | (refine ks_load1 KN 3 Try.underlying3 ?_) | (refine ks_load1 KN 4 Try.underlying4 ?_)) | ((with_reducible refine gate_store ?_ ?_); rfl; first | (refine ks_storeW KN 30 ?_; clear KN; intro wx KN) | (refine ks_storeA KN 30 ?_; clear KN; intro wx KN)) | ((with_reducible refine gate_new ?_ ?_); rfl; first | (refine ks_alloc KN 30 (q := 15) #[.int .i64 0, .slice none 0 0, .slice none 0 0] ?_; clear KN; intro g15 wx hg15 KN) | (refine ks_alloc KN 30 (q := 16) #[.int .i64 0, .slice none 0 0, .slice none 0 0] ?_; clear KN; intro g16 wx hg16 KN))))
  (try go_frame)
  go_upto_region 9 with (first | (go_at_call 8; refine (reports_rd ((HI.out.below HB1.out).below KN.toBelow) N (by omega)).mono ?_; rw [← HRS.out]; rintro e wx ⟨x2, rfl, hrd, hb2⟩; have HX2 := Lib.hid hrd; replace KN := KN.below hb2; clear hrd hb2) | (go_at_call 12; refine (Next_any (srt := []) (dead := []) lb pp HX2.out (by rw [HRL.out]; omega) HCORE.out HNUM.out hlb0 hlb1 (sortsTo_nil _) (Nat.zero_le _) HVB.out (nil_row _)).mono ?_; rintro e wx ⟨⟨ma2, mn2, mc2⟩, ⟨oa2, on2, oc2⟩, ⟨v2, vm2, vo2⟩, ⟨mx2, bb2, ad2, hmx, _, hnum, _, _⟩, rfl, _, _, hb⟩; obtain rfl := HMX.out.unique hmx; have HV2 : Hid (v2 = numFor lb mx) := Lib.hid hnum; replace KN := KN.below hb; clear hmx hnum hb HX2) | ((with_reducible refine wpList_gate ?_); first | ((with_reducible refine gate_load ?_ ?_); rfl; first | (refine ks_load1 KN 3 Try.underlying3 ?_) | (refine ks_load1 KN 4 Try.underlying4 ?_)) | ((with_reducible refine gate_store ?_ ?_); rfl; first | (refine ks_storeW KN 30 ?_; clear KN; intro wx KN) | (refine ks_storeA KN 30 ?_; clear KN; intro wx KN)) | ((with_reducible refine gate_new ?_ ?_); rfl; first | (refine ks_alloc KN 30 (q := 15) #[.int .i64 0, .slice none 0 0, .slice none 0 0] ?_; clear KN; intro g15 wx hg15 KN) | (refine ks_alloc KN 30 (q := 16) #[.int .i64 0, .slice none 0 0, .slice none 0 0] ?_; clear KN; intro g16 wx hg16 KN))))
  (try go_frame)
  have hform := (HX1.out.below KN.toBelow).form
  rw [HRL.out] at hform
  obtain ⟨_, _, hv4, _, hcells⟩ := hform
  simp only [Value.slice.injEq] at hv4
  obtain ⟨hq1, _, hq2⟩ := hv4
  subst hq1
  subst hq2
  have HC := Lib.hid hcells
  clear hcells
  go_upto_block 0 with fail
  (try go_frame)
  go_wp2_with fail
  go_loop [17, 18] (fun s17 s18 => NbR pp rs s17 s18) (fun _ s18 => N - natOf s18)
  case atStart => exact ⟨0, pp, rfl, rfl, Nat.zero_le _, by unfold numsOf; exact ⟨by simp, fun z hz => by have : z = pp := (by simpa using hz); omega⟩⟩
  case round =>
    obtain ⟨k, m, rfl, rfl, hk, hm⟩ := hrel
    rw [HRL.out] at hk
    have HM := Lib.hid hm
    clear hm
    by_cases hlt : k < N
    · obtain ⟨r, hr⟩ : ∃ r, rs[k]? = some r := ⟨_, List.getElem?_eq_getElem (by rw [HRL.out]; exact hlt)⟩
      obtain ⟨g, off, cs, rfl, hg, hc1, hc2, hd, hrange⟩ := HC.out k r hr
      obtain ⟨m1, o1, s0, s2, s3, nm, no, p0, p2, p3, rfl, _⟩ := hd
      have HNS := Lib.hid (numsOf_snoc (p := pp) hr)
      unfold maxLen at hc2
      obtain ⟨rd, hrdy⟩ : ∃ q, q = r.ready := ⟨_, rfl⟩
      have HRDY := Lib.hid hrdy
      rw [← hrdy] at hrange
      have c1 := hrange 1 _ rfl
      have c10 := hrange 10 _ rfl
      have c11 := hrange 11 _ rfl
      clear hr hrange hrdy
      cases hb : rd with
      | true =>
        rw [hb] at c10
        have HNX : Hid (numsOf pp (rs.take (k + 1)) = (numsOf pp (rs.take k) ++ [r.view.num]) ++ [r.next.num]) := Lib.hid (by rw [HNS.out]; unfold repNums; rw [if_pos (by rw [← HRDY.out]; exact hb)]; simp)
        clear hb
        go_wp2
        go_round
        case rel => exact ⟨k + 1, _, rfl, by go_num, by rw [HRL.out]; omega, by rw [HNX.out]; have h9 := (HM.out.snoc (x := r.view.num)).snoc (x := r.next.num); rwa [Int.max_assoc] at h9⟩
        case measure => simp [natOf]; omega
      | false =>
        rw [hb] at c10
        have HNX : Hid (numsOf pp (rs.take (k + 1)) = numsOf pp (rs.take k) ++ [r.view.num]) := Lib.hid (by rw [HNS.out]; unfold repNums; rw [if_neg (by rw [← HRDY.out, hb]; decide)])
        clear hb
        go_wp2
        go_round
        case rel => exact ⟨k + 1, _, rfl, by go_num, by rw [HRL.out]; omega, by rw [HNX.out]; exact HM.out.snoc⟩
        case measure => simp [natOf]; omega
    · have hmm : m = mx := by
        have h1 := HM.out
        rw [List.take_of_length_le (by rw [HRL.out]; omega)] at h1
        exact h1.unique HMX.out
      subst hmm
      have hmb := HNUM.out m HMX.out.1
      obtain ⟨f1, f2, f3⟩ := numFor_laws la m hla0 hla1
      rw [← HV1.out] at f1 f2 f3
      have q1 : decide (m < v1) = true := decide_eq_true f1
      have q2 : decide (v1 ≤ m + 32) = true := decide_eq_true f2
      have q3 : v1.tmod 32 = la := by rw [Int.tmod_eq_emod_of_nonneg (by omega)]; exact f3
      have q4 : (la == la) = true := beq_self_eq_true _
      have hv2 := HV2.out
      by_cases hll : la = lb
      · have hvv : v1 = v2 := by rw [HV1.out, HV2.out, hll]
        subst hll
        subst hvv
        have q5 : (v1 == v1) = true := beq_self_eq_true _
        clear hv2
        go_wp2_with (first | (go_at_call 7; refine (vawake_any _).mono ?_; rintro e wx ⟨rfl, hb⟩; replace KN := KN.below hb; clear hb) | ((with_reducible refine wpList_gate ?_); first | ((with_reducible refine gate_load ?_ ?_); rfl; first | (refine ks_load1 KN 3 Try.underlying3 ?_) | (refine ks_load1 KN 4 Try.underlying4 ?_)) | ((with_reducible refine gate_store ?_ ?_); rfl; first | (refine ks_storeW KN 30 ?_; clear KN; intro wx KN) | (refine ks_storeA KN 30 ?_; clear KN; intro wx KN)) | ((with_reducible refine gate_new ?_ ?_); rfl; first | (refine ks_alloc KN 30 (q := 15) #[.int .i64 0, .slice none 0 0, .slice none 0 0] ?_; clear KN; intro g15 wx hg15 KN) | (refine ks_alloc KN 30 (q := 16) #[.int .i64 0, .slice none 0 0, .slice none 0 0] ?_; clear KN; intro g16 wx hg16 KN))))
        go_ret
        exact ⟨rfl, HB1.out.trans (KN.toBelow.mono HB1.out.size)⟩
      · have q6 : (la == lb) = false := beq_eq_false_iff_ne.2 hll
        have q5 : (v1 == v2) = false := beq_eq_false_iff_ne.2 (fun hv => hll (numFor_inj hla0 hla1 hlb0 hlb1 (by rw [← HV1.out, ← HV2.out]; exact hv)))
        clear hv2 hll
        go_wp2_with (first | (go_at_call 7; refine (vawake_any _).mono ?_; rintro e wx ⟨rfl, hb⟩; replace KN := KN.below hb; clear hb) | ((with_reducible refine wpList_gate ?_); first | ((with_reducible refine gate_load ?_ ?_); rfl; first | (refine ks_load1 KN 3 Try.underlying3 ?_) | (refine ks_load1 KN 4 Try.underlying4 ?_)) | ((with_reducible refine gate_store ?_ ?_); rfl; first | (refine ks_storeW KN 30 ?_; clear KN; intro wx KN) | (refine ks_storeA KN 30 ?_; clear KN; intro wx KN)) | ((with_reducible refine gate_new ?_ ?_); rfl; first | (refine ks_alloc KN 30 (q := 15) #[.int .i64 0, .slice none 0 0, .slice none 0 0] ?_; clear KN; intro g15 wx hg15 KN) | (refine ks_alloc KN 30 (q := 16) #[.int .i64 0, .slice none 0 0, .slice none 0 0] ?_; clear KN; intro g16 wx hg16 KN))))
        go_ret
        exact ⟨rfl, HB1.out.trans (KN.toBelow.mono HB1.out.size)⟩
end
end Go.Proofs.Ytpjejaoobbancaa
