/- ViewAdopts: true for every list and number. -/
import Derived.Test.YtpjejaoobbancaaPkVAwake
import Derived.Test.YtpjejaoobbancaaPkBase
set_option linter.unusedVariables false
set_option linter.unusedSimpArgs false
set_option linter.unusedSectionVars false
namespace Go.Proofs.Ytpjejaoobbancaa
open Go.RowKit Go.BigFrame

theorem mkReports_mem {zs : List Int} : ∀ {n : Nat} {r : Rep}, r ∈ mkReports zs n → ∃ i : Nat, i < n ∧ r = { mkReport (zs.drop (11 * (i : Int)).toNat) with core := (i : Int) }
  | 0, r, h => by simp [mkReports] at h
  | n + 1, r, h => by
    unfold mkReports at h
    rcases List.mem_append.1 h with h | h
    · obtain ⟨i, hi, e⟩ := mkReports_mem h
      exact ⟨i, by omega, e⟩
    · exact ⟨n, by omega, by simpa using h⟩
theorem mkReports_bd {zs : List Int} {n : Nat} {r : Rep} (h : r ∈ mkReports zs n) : (0 ≤ r.view.num ∧ r.view.num < 200) ∧ 0 ≤ r.next.num ∧ r.next.num < 200 := by
  obtain ⟨i, _, rfl⟩ := mkReports_mem h
  refine ⟨?_, ?_⟩
  · show 0 ≤ at0 _ 0 % 200 ∧ at0 _ 0 % 200 < 200
    omega
  · unfold mkReport
    dsimp only
    split
    · show 0 ≤ at0 _ 0 % 200 ∧ at0 _ 0 % 200 < 200
      omega
    · show (0 : Int) ≤ 0 ∧ (0 : Int) < 200
      decide
def knowsR (d : Int) (r : Rep) : Bool := decide (d ≤ r.view.num) || (r.ready && r.next.num == d)
theorem knows_eq (d : Int) (r : Rep) : knows d r = knowsR d r := by
  unfold knows knowsR
  by_cases h : r.view.num < d
  · rw [decide_eq_true h, decide_eq_false (by omega : ¬ d ≤ r.view.num)]; cases (r.ready && r.next.num == d) <;> rfl
  · rw [decide_eq_false h, decide_eq_true (by omega : d ≤ r.view.num)]; rfl
theorem IsMax.cons {m a : Int} {l : List Int} (h : IsMax m (a :: l)) (hl : ∀ z ∈ l, a ≤ z) (hne : ¬ l = []) : IsMax m l := by
  refine ⟨?_, fun z hz => h.2 z (List.mem_cons_of_mem _ hz)⟩
  rcases List.mem_cons.1 h.1 with h1 | h1
  · subst h1
    cases l with
    | nil => exact absurd rfl hne
    | cons y ys =>
      have h2 := h.2 y (by simp)
      have h3 := hl y (by simp)
      have : m = y := by omega
      rw [this]; simp
  · exact h1
theorem adopts_law {rs : List Rep} {b m d : Int} {ad : Bool} (hb : ∀ r ∈ rs, 0 ≤ r.view.num ∧ 0 ≤ r.next.num) (h : IsBase rs b ad) (hm : IsMax m (0 :: viewsL rs)) (hd : IsMax d (-1 :: accL rs)) :
    (((decide (0 ≤ d) && rs.all (knowsR d)) = true ∧ ad = true ∧ b = d) ∨ ((decide (0 ≤ d) && rs.all (knowsR d)) = false ∧ ad = false ∧ b = m)) := by
  have hacc : ∀ z ∈ accL rs, 0 ≤ z := by
    intro z hz
    unfold accL at hz
    obtain ⟨r, hr, rfl⟩ := List.mem_map.1 hz
    exact (hb r (List.mem_filter.1 hr).1).2
  have hvw : ∀ z ∈ viewsL rs, 0 ≤ z := by
    intro z hz
    unfold viewsL at hz
    obtain ⟨r, hr, rfl⟩ := List.mem_map.1 hz
    exact (hb r hr).1
  have hnil : accL rs = [] → d = -1 := fun h => by
    rw [h] at hd
    simpa using hd.1
  rcases h with ⟨rfl, rfl, rfl⟩ | ⟨g, hg, hcase⟩
  · right
    have hd1 := hnil rfl
    subst hd1
    refine ⟨rfl, rfl, ?_⟩
    have : m = 0 := by simpa [viewsL] using hm.1
    exact this.symm
  · have hne : ¬ viewsL rs = [] := fun h => by rw [h] at hg; simpa using hg.1
    have hmg : m = g := (hm.cons hvw hne).unique hg
    rcases hcase with ⟨ha, rfl, rfl⟩ | ⟨n, hn, hcase⟩
    · right
      have hd1 := hnil ha
      subst hd1
      exact ⟨rfl, rfl, hmg.symm⟩
    · have hne2 : ¬ accL rs = [] := fun h => by rw [h] at hn; simpa using hn.1
      have hdn : d = n := (hd.cons (fun z hz => by have := hacc z hz; omega) hne2).unique hn
      have hd0 : 0 ≤ d := by rw [hdn]; exact hacc n hn.1
      have hall : rs.all (knowsR d) = rs.all (knows n) := by
        rw [hdn]; congr 1; funext r; exact (knows_eq n r).symm
      rw [decide_eq_true hd0, Bool.true_and, hall]
      rcases hcase with ⟨h1, rfl, rfl⟩ | ⟨h1, rfl, rfl⟩
      · exact .inl ⟨h1, rfl, hdn.symm⟩
      · exact .inr ⟨h1, rfl, hmg.symm⟩
def AdR1 (rs : List Rep) (s8 s9 i : Value) : Prop :=
  ∃ (k : Nat) (m d : Int), s8 = .int .i64 m ∧ s9 = .int .i64 d ∧ i = .int .i64 (k : Int) ∧ k ≤ rs.length ∧ IsMax m (0 :: viewsL (rs.take k)) ∧ IsMax d (-1 :: accL (rs.take k))
def AdR2 (rs : List Rep) (d : Int) (s11 i : Value) : Prop :=
  ∃ (k : Nat) (b : Bool), s11 = .bool b ∧ i = .int .i64 (k : Int) ∧ k ≤ rs.length ∧ b = (decide (0 ≤ d) && (rs.take k).all (knowsR d))
set_option maxRecDepth 100000 in
set_option maxHeartbeats 8000000 in
theorem viewAdopts_any {v : Value} {zs : List Int} {w : World} (h : Ints w v zs) (n : Int) (hn0 : -9223372036854775808 ≤ n) (hn1 : n ≤ 9223372036854775807) :
    Calls Try.prog 3 #[v, .int .i64 n] w fun e w' => e = .returned (.bool true) ∧ Below w.heap.size w w' := by
  have HI := Lib.hid h
  obtain ⟨va, vc, rfl, hlm, _⟩ := ints_form h.1
  obtain ⟨zl, hzl⟩ : ∃ q, q = zs.length := ⟨_, rfl⟩
  have HZL := Lib.hid hzl
  rw [← hzl] at HI hlm ⊢
  unfold maxLen at hlm
  clear h hzl
  by_cases hlen : 100 < zl
  · go_enter Try.func3, Try.ntmps3
    go_wp2_with (go_at_call 7; refine (vawake_any _).mono ?_; rintro e wx ⟨rfl, hb⟩)
    go_ret
    exact ⟨rfl, hb⟩
  obtain ⟨N, hN⟩ : ∃ N : Nat, n % 5 = (N : Int) := ⟨(n % 5).toNat, by omega⟩
  have hN5 : N < 5 := by omega
  have HN := Lib.hid hN
  obtain ⟨rs, hrs⟩ : ∃ rs, rs = mkReports zs N := ⟨_, rfl⟩
  have HRS := Lib.hid hrs
  have HRL : Hid (rs.length = N) := Lib.hid (by rw [hrs]; exact mkReports_len _ _)
  have HBD : Hid (∀ r ∈ rs, 0 ≤ r.view.num ∧ 0 ≤ r.next.num) := Lib.hid (fun r hr => by rw [hrs] at hr; have := mkReports_bd hr; omega)
  clear hN hrs
  go_enter Try.func3, Try.ntmps3
  go_upto_region 4 with (first | (go_at_call 9; refine (MPlace_any _ _ _ hn0 hn1 (by omega) (by omega)).mono ?_; rintro e wx ⟨rfl, rfl⟩; rw [HN.out]) | (go_at_call 8; refine (reports_rd HI.out N (by omega)).mono ?_; rw [← HRS.out]; rintro e w1 ⟨x, rfl, hrd, hb1⟩; have HX1 := Lib.hid hrd; have HB1 := Lib.hid hb1; obtain ⟨xa, xc, hxv, _⟩ := hrd.form; rw [HRL.out] at hxv; subst hxv; clear hrd hb1))
  (try go_frame)
  go_upto_region 5 with (first | (go_at_call 8; refine (reports_rd (HI.out.below HB1.out) N (by omega)).mono ?_; rw [← HRS.out]; rintro e w2 ⟨x2, rfl, hrd, hb2⟩; have HX2 := Lib.hid hrd; have HB2 := Lib.hid hb2; clear hrd hb2) | (go_at_call 10; refine (Base_any HX2.out (by rw [HRL.out]; omega)).mono ?_; rintro e w3 ⟨b, ad, rfl, hbs, hb3⟩; have HBS := Lib.hid hbs; have HB3 := Lib.hid hb3; clear hbs hb3))
  (try go_frame)
  have HX3 : Hid (RepRd w3 (.slice xa N xc) rs) := Lib.hid ((HX1.out.below HB2.out).below HB3.out)
  have HBB : Hid (Below w.heap.size w w3) := Lib.hid (HB1.out.trans ((HB2.out.mono HB1.out.size).trans (HB3.out.mono (Nat.le_trans HB1.out.size HB2.out.size))))
  have hform := HX3.out.form
  rw [HRL.out] at hform
  obtain ⟨_, _, hv4, _, hcells⟩ := hform
  simp only [Value.slice.injEq] at hv4
  obtain ⟨hq1, _, hq2⟩ := hv4
  subst hq1
  subst hq2
  have HC := Lib.hid hcells
  clear hcells
  go_wp2
  go_loop [8, 9, 10] (fun s8 s9 i => AdR1 rs s8 s9 i) (fun _ _ i => N - (intOf i).toNat)
  case atStart => exact ⟨0, 0, -1, rfl, rfl, rfl, Nat.zero_le _, ⟨by simp, fun z hz => by have : z = 0 := (by simpa [viewsL] using hz); omega⟩, ⟨by simp, fun z hz => by have : z = -1 := (by simpa [accL] using hz); omega⟩⟩
  case round =>
    obtain ⟨k, m, d, rfl, rfl, rfl, hk, hm, hd⟩ := hrel
    rw [HRL.out] at hk
    have HM := Lib.hid hm
    have HD := Lib.hid hd
    clear hm hd
    by_cases hlt : k < N
    · obtain ⟨r, hr⟩ : ∃ r, rs[k]? = some r := ⟨_, List.getElem?_eq_getElem (by rw [HRL.out]; exact hlt)⟩
      obtain ⟨g, off, cs, rfl, hg, hc1, hc2, hd, hrange⟩ := HC.out k r hr
      obtain ⟨m1, o1, s0, s2, s3, nm, no, p0, p2, p3, rfl, _⟩ := hd
      have HR := Lib.hid hr
      unfold maxLen at hc2
      obtain ⟨rd, hrdy⟩ : ∃ q, q = r.ready := ⟨_, rfl⟩
      have HRDY := Lib.hid hrdy
      rw [← hrdy] at hrange
      have c1 := hrange 1 _ rfl
      have c10 := hrange 10 _ rfl
      have c11 := hrange 11 _ rfl
      clear hr hrange hrdy
      cases hb : rd with
      | true =>
        rw [hb] at c10
        have HAC := Lib.hid (accL_yes HR.out (by rw [← HRDY.out]; exact hb))
        clear hb
        go_wp2
        go_round
        case rel => exact ⟨k + 1, _, _, rfl, rfl, by go_num, by rw [HRL.out]; omega, by rw [viewsL_snoc HR.out]; exact HM.out.snoc, by rw [HAC.out]; exact HD.out.snoc⟩
        case measure => simp [intOf]; omega
      | false =>
        rw [hb] at c10
        have HAC := Lib.hid (accL_no HR.out (by rw [← HRDY.out]; exact hb))
        clear hb
        go_wp2
        go_round
        case rel => exact ⟨k + 1, _, _, rfl, rfl, by go_num, by rw [HRL.out]; omega, by rw [viewsL_snoc HR.out]; exact HM.out.snoc, by rw [HAC.out]; exact HD.out⟩
        case measure => simp [intOf]; omega
    · obtain rfl : k = N := by omega
      have HLW : Hid (((decide (0 ≤ d) && rs.all (knowsR d)) = true ∧ ad = true ∧ b = d) ∨ ((decide (0 ≤ d) && rs.all (knowsR d)) = false ∧ ad = false ∧ b = m)) := Lib.hid (by
        have h1 := HM.out
        have h2 := HD.out
        rw [List.take_of_length_le (by rw [HRL.out]; exact Nat.le_refl _)] at h1 h2
        exact adopts_law HBD.out HBS.out h1 h2)
      clear HM HD hk hlt
      go_wp2
      go_loop [11, 12] (fun s11 i => AdR2 rs d s11 i) (fun _ i => k - (intOf i).toNat)
      case atStart => exact ⟨0, decide (0 ≤ d), rfl, rfl, Nat.zero_le _, by simp⟩
      case round =>
        obtain ⟨j, bb, rfl, rfl, hj, hbb⟩ := hrel
        rw [HRL.out] at hj
        have HBQ := Lib.hid hbb
        clear hbb
        by_cases hlt : j < k
        · obtain ⟨r, hr⟩ : ∃ r, rs[j]? = some r := ⟨_, List.getElem?_eq_getElem (by rw [HRL.out]; exact hlt)⟩
          obtain ⟨g, off, cs, rfl, hg, hc1, hc2, hd, hrange⟩ := HC.out j r hr
          obtain ⟨m1, o1, s0, s2, s3, nm, no, p0, p2, p3, rfl, _⟩ := hd
          have HR := Lib.hid hr
          unfold maxLen at hc2
          obtain ⟨rd, hrdy⟩ : ∃ q, q = r.ready := ⟨_, rfl⟩
          have HRDY := Lib.hid hrdy
          rw [← hrdy] at hrange
          have c1 := hrange 1 _ rfl
          have c10 := hrange 10 _ rfl
          have c11 := hrange 11 _ rfl
          clear hr hrange hrdy
          have d1 : decide (d ≤ r.view.num) = true ∨ decide (d ≤ r.view.num) = false := by cases decide (d ≤ r.view.num) <;> simp
          have d3 : (r.next.num == d) = true ∨ (r.next.num == d) = false := by cases (r.next.num == d) <;> simp
          have HNX : Hid (∀ b1 b3, decide (d ≤ r.view.num) = b1 → (r.next.num == d) = b3 → (decide (0 ≤ d) && (rs.take (j + 1)).all (knowsR d)) = (bb && (b1 || (rd && b3)))) := Lib.hid (fun b1 b3 h1 h3 => by
            rw [List.take_add_one, HR.out, List.all_append]
            show (decide (0 ≤ d) && ((rs.take j).all (knowsR d) && (knowsR d r && true))) = _
            rw [HBQ.out, ← Bool.and_assoc]
            unfold knowsR
            rw [h1, h3, ← HRDY.out, Bool.and_true])
          cases hb1 : bb with
          | false =>
            have HQ : Hid (∀ b1 b3, decide (d ≤ r.view.num) = b1 → (r.next.num == d) = b3 → false = (decide (0 ≤ d) && (rs.take (j + 1)).all (knowsR d))) := Lib.hid (fun b1 b3 h1 h3 => by rw [HNX.out b1 b3 h1 h3, hb1]; rfl)
            have HQ2 := Lib.hid (HQ.out _ _ rfl rfl)
            clear hb1 d1 d3
            go_wp2
            go_round
            case rel => exact ⟨j + 1, false, rfl, by go_num, by rw [HRL.out]; omega, HQ2.out⟩
            case measure => simp [intOf]; omega
          | true =>
            rcases d1 with d1 | d1
            · have HQ2 : Hid (true = (decide (0 ≤ d) && (rs.take (j + 1)).all (knowsR d))) := Lib.hid (by rw [HNX.out _ _ d1 rfl, hb1]; rfl)
              clear hb1 d3
              go_wp2
              go_round
              case rel => exact ⟨j + 1, true, rfl, by go_num, by rw [HRL.out]; omega, HQ2.out⟩
              case measure => simp [intOf]; omega
            · cases hb : rd with
              | false =>
                rw [hb] at c10
                have HQ2 : Hid (false = (decide (0 ≤ d) && (rs.take (j + 1)).all (knowsR d))) := Lib.hid (by rw [HNX.out _ _ d1 rfl, hb1, hb]; rfl)
                clear hb1 hb d3
                go_wp2
                go_round
                case rel => exact ⟨j + 1, false, rfl, by go_num, by rw [HRL.out]; omega, HQ2.out⟩
                case measure => simp [intOf]; omega
              | true =>
                rw [hb] at c10
                rcases d3 with d3 | d3
                · have HQ2 : Hid (true = (decide (0 ≤ d) && (rs.take (j + 1)).all (knowsR d))) := Lib.hid (by rw [HNX.out _ _ d1 d3, hb1, hb]; rfl)
                  clear hb1 hb
                  go_wp2
                  go_round
                  case rel => exact ⟨j + 1, true, rfl, by go_num, by rw [HRL.out]; omega, HQ2.out⟩
                  case measure => simp [intOf]; omega
                · have HQ2 : Hid (false = (decide (0 ≤ d) && (rs.take (j + 1)).all (knowsR d))) := Lib.hid (by rw [HNX.out _ _ d1 d3, hb1, hb]; rfl)
                  clear hb1 hb
                  go_wp2
                  go_round
                  case rel => exact ⟨j + 1, false, rfl, by go_num, by rw [HRL.out]; omega, HQ2.out⟩
                  case measure => simp [intOf]; omega
        · have HBF : Hid (bb = (decide (0 ≤ d) && rs.all (knowsR d))) := Lib.hid (by
            have h1 := HBQ.out
            rwa [List.take_of_length_le (by rw [HRL.out]; omega)] at h1)
          rcases HLW.out with ⟨h1, h2, h3⟩ | ⟨h1, h2, h3⟩
          · have hbt : bb = true := by rw [HBF.out, h1]
            subst hbt
            subst h2
            subst h3
            clear h1
            have hbb2 : (b == b) = true := beq_self_eq_true _
            go_wp2_with (go_at_call 7; refine (vawake_any _).mono ?_; rintro e wx ⟨rfl, hb⟩; have HB9 := Lib.hid hb; clear hb)
            go_ret
            exact ⟨rfl, HBB.out.trans (HB9.out.mono HBB.out.size)⟩
          · have hbt : bb = false := by rw [HBF.out, h1]
            subst hbt
            subst h2
            subst h3
            clear h1
            have hbb2 : (b == b) = true := beq_self_eq_true _
            go_wp2_with (go_at_call 7; refine (vawake_any _).mono ?_; rintro e wx ⟨rfl, hb⟩; have HB9 := Lib.hid hb; clear hb)
            go_ret
            exact ⟨rfl, HBB.out.trans (HB9.out.mono HBB.out.size)⟩
end Go.Proofs.Ytpjejaoobbancaa
