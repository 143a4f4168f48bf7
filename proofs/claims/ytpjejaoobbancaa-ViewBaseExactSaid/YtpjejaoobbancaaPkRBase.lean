/- The reference's Base and baseView. -/
import Derived.Test.YtpjejaoobbancaaPkLawAdopts
import Derived.Test.YtpjejaoobbancaaPkBaseV
set_option linter.unusedVariables false
set_option linter.unusedSimpArgs false
set_option linter.unusedSectionVars false
namespace Go.Proofs.Ytpjejaoobbancaa
open Go.RowKit Go.BigFrame

theorem accL_ge {rs : List Rep} (hb : ∀ r ∈ rs, 0 ≤ r.view.num ∧ 0 ≤ r.next.num) : ∀ z ∈ accL rs, 0 ≤ z := by
  intro z hz
  unfold accL at hz
  obtain ⟨r, hr, rfl⟩ := List.mem_map.1 hz
  exact (hb r (List.mem_filter.1 hr).1).2
theorem viewsL_ge {rs : List Rep} (hb : ∀ r ∈ rs, 0 ≤ r.view.num ∧ 0 ≤ r.next.num) : ∀ z ∈ viewsL rs, 0 ≤ z := by
  intro z hz
  unfold viewsL at hz
  obtain ⟨r, hr, rfl⟩ := List.mem_map.1 hz
  exact (hb r hr).1
theorem base_no {rs : List Rep} {g M : Int} (hb : ∀ r ∈ rs, 0 ≤ r.view.num ∧ 0 ≤ r.next.num) (hg : IsMax g (0 :: viewsL rs)) (hM : IsMax M (-1 :: accL rs)) (h : M < 0 ∨ ∃ r ∈ rs, knows M r = false) : IsBase rs g false := by
  by_cases h0 : rs = []
  · subst h0
    have : g = 0 := by simpa [viewsL] using hg.1
    exact .inl ⟨rfl, this, rfl⟩
  have hv : IsMax g (viewsL rs) := hg.cons (viewsL_ge hb) (fun q => h0 (by simpa [viewsL] using q))
  refine .inr ⟨g, hv, ?_⟩
  by_cases ha : accL rs = []
  · exact .inl ⟨ha, rfl, rfl⟩
  have hm : IsMax M (accL rs) := hM.cons (fun z hz => by have := accL_ge hb z hz; omega) ha
  refine .inr ⟨M, hm, .inr ⟨?_, rfl, rfl⟩⟩
  rcases h with h | ⟨r, hr, hk⟩
  · have := accL_ge hb M hm.1
    omega
  · rw [← Bool.not_eq_true]
    intro hq
    have := List.all_eq_true.1 hq r hr
    rw [hk] at this; cases this
theorem base_yes {rs : List Rep} {g M : Int} (hb : ∀ r ∈ rs, 0 ≤ r.view.num ∧ 0 ≤ r.next.num) (hg : IsMax g (0 :: viewsL rs)) (hM : IsMax M (-1 :: accL rs)) (h0 : 0 ≤ M) (h : rs.all (knows M) = true) : IsBase rs M true := by
  have ha : ¬ accL rs = [] := fun q => by
    have := hM.1
    rw [q] at this
    have : M = -1 := by simpa using this
    omega
  have hn : ¬ rs = [] := fun q => ha (by rw [q]; rfl)
  have hm : IsMax M (accL rs) := hM.cons (fun z hz => by have := accL_ge hb z hz; omega) ha
  exact .inr ⟨g, hg.cons (viewsL_ge hb) (fun q => hn (by simpa [viewsL] using q)), .inr ⟨M, hm, .inl ⟨h, rfl, rfl⟩⟩⟩
def RBaseOut (rs : List Rep) (w : World) (e : Ending) (w' : World) : Prop := ∃ b ad, e = .returned (.tuple #[.int .i64 b, .bool ad]) ∧ IsBase rs b ad ∧ w = w'
def RbR1 (rs : List Rep) (s4 s5 s6 : Value) : Prop :=
  ∃ (k : Nat) (n g : Int), s6 = .int .i64 (k : Int) ∧ s4 = .int .i64 n ∧ s5 = .int .i64 g ∧ k ≤ rs.length ∧ IsMax n (-1 :: accL (rs.take k)) ∧ IsMax g (0 :: viewsL (rs.take k))
def RbR2 (rs : List Rep) (M : Int) (s4 s7 : Value) : Prop :=
  ∃ (k : Nat) (n : Int), s7 = .int .i64 (k : Int) ∧ s4 = .int .i64 n ∧ k ≤ rs.length ∧ ((n = M ∧ (rs.take k).all (knows M) = true) ∨ (n = -1 ∧ ∃ r ∈ rs, knows M r = false))
set_option maxRecDepth 100000 in
set_option maxHeartbeats 8000000 in
theorem RBase_any {v : Value} {rs : List Rep} {w : World} (h : RepRd w v rs) (hl : rs.length ≤ 1000) (hb : ∀ r ∈ rs, 0 ≤ r.view.num ∧ 0 ≤ r.next.num) :
    Calls Try.prog 11 #[v] w (RBaseOut rs w) := by
  obtain ⟨a, c, rfl, _, hf⟩ := h.form
  obtain ⟨n, hn⟩ : ∃ n, n = rs.length := ⟨_, rfl⟩
  have HN := Lib.hid hn
  have HF := Lib.hid hf
  have HBD := Lib.hid hb
  rw [← hn] at hl ⊢
  clear h hf hn hb
  go_enter Try.func11, Try.ntmps11
  go_wp2_with fail
  go_loop [4, 5, 6] (fun s4 s5 s6 => RbR1 rs s4 s5 s6) (fun _ _ s6 => n - (intOf s6).toNat)
  case atStart => exact ⟨0, -1, 0, rfl, rfl, rfl, Nat.zero_le _, by simp [IsMax, accL], by simp [IsMax, viewsL]⟩
  case round =>
    obtain ⟨k, m4, g5, rfl, rfl, rfl, hk, hm4, hg5⟩ := hrel
    rw [← HN.out] at hk
    have HM := Lib.hid hm4
    have HG := Lib.hid hg5
    clear hm4 hg5
    by_cases hlt : k < n
    · obtain ⟨r, hr⟩ : ∃ r, rs[k]? = some r := ⟨_, List.getElem?_eq_getElem (by rw [← HN.out]; exact hlt)⟩
      obtain ⟨g, off, cs, rfl, hg, hc1, hc2, hd, hrange⟩ := HF.out k r hr
      obtain ⟨m, o, s0, s2, s3, nm, no, p0, p2, p3, rfl, _⟩ := hd
      have hrb := HBD.out r (List.mem_of_getElem? hr)
      have HRB := Lib.hid hrb
      have HVS := Lib.hid (viewsL_snoc hr)
      have HAY := Lib.hid (accL_yes hr)
      have HAN := Lib.hid (accL_no hr)
      have hc1' : n ≤ c := by rw [HN.out]; exact hc1
      unfold maxLen at hc2
      obtain ⟨rd, hrdy⟩ : ∃ q, q = r.ready := ⟨_, rfl⟩
      rw [← hrdy] at hrange HAY HAN
      have c1 := hrange 1 _ rfl
      have c10 := hrange 10 _ rfl
      have c11 := hrange 11 _ rfl
      obtain ⟨rv, hrv⟩ : ∃ q, q = r.view.num := ⟨_, rfl⟩
      obtain ⟨rn, hrn⟩ : ∃ q, q = r.next.num := ⟨_, rfl⟩
      rw [← hrv] at c1 hrb HVS
      rw [← hrn] at c11 hrb HAY
      clear hr hrange hrdy hrv hrn
      have HG2 : Hid (∀ z, z = max g5 rv → IsMax z (0 :: viewsL (rs.take (k + 1)))) := Lib.hid (fun z hz => by rw [hz, HVS.out]; exact HG.out.snoc)
      have hg0 : 0 ≤ g5 := HG.out.2 0 (List.mem_cons_self)
      have HK0 : Hid (k = 0 → g5 = 0) := Lib.hid (fun h0 => by have := HG.out.1; rw [h0] at this; simpa [viewsL] using this)
      have HM2 : Hid (∀ z, z = (if rd = true then max m4 rn else m4) → IsMax z (-1 :: accL (rs.take (k + 1)))) := Lib.hid (fun z hz => by
        cases rd with
        | true => rw [hz, HAY.out rfl]; exact HM.out.snoc
        | false => rw [hz, HAN.out rfl]; exact HM.out)
      clear HVS HAY HAN HM HG
      cases rd with
      | true =>
        by_cases hq4 : m4 < rn
        · have e4 : decide (m4 < rn) = true := decide_eq_true hq4
          by_cases hk0 : k = 0
          · have e0 : ((k : Int) == 0) = true := beq_iff_eq.2 (by omega)
            have HKZ := Lib.hid hk0
            clear hk0
            go_wp2
            go_round
            case rel => exact ⟨k + 1, _, _, by go_num, rfl, rfl, by rw [← HN.out]; omega, HM2.out _ (by rw [if_pos rfl, Int.max_eq_right (by omega)]), HG2.out _ (by have := HK0.out HKZ.out; rw [Int.max_eq_right (by omega)])⟩
            case measure => simp [intOf]; omega
          · have e0 : ((k : Int) == 0) = false := beq_eq_false_iff_ne.2 (by omega)
            by_cases hq5 : g5 < rv
            · have e5 : decide (g5 < rv) = true := decide_eq_true hq5
              go_wp2
              go_round
              case rel => exact ⟨k + 1, _, _, by go_num, rfl, rfl, by rw [← HN.out]; omega, HM2.out _ (by rw [if_pos rfl, Int.max_eq_right (by omega)]), HG2.out _ (by rw [Int.max_eq_right (by omega)])⟩
              case measure => simp [intOf]; omega
            · have e5 : decide (g5 < rv) = false := decide_eq_false hq5
              go_wp2
              go_round
              case rel => exact ⟨k + 1, _, _, by go_num, rfl, rfl, by rw [← HN.out]; omega, HM2.out _ (by rw [if_pos rfl, Int.max_eq_right (by omega)]), HG2.out _ (by rw [Int.max_eq_left (by omega)])⟩
              case measure => simp [intOf]; omega
        · have e4 : decide (m4 < rn) = false := decide_eq_false hq4
          by_cases hk0 : k = 0
          · have e0 : ((k : Int) == 0) = true := beq_iff_eq.2 (by omega)
            have HKZ := Lib.hid hk0
            clear hk0
            go_wp2
            go_round
            case rel => exact ⟨k + 1, _, _, by go_num, rfl, rfl, by rw [← HN.out]; omega, HM2.out _ (by rw [if_pos rfl, Int.max_eq_left (by omega)]), HG2.out _ (by have := HK0.out HKZ.out; rw [Int.max_eq_right (by omega)])⟩
            case measure => simp [intOf]; omega
          · have e0 : ((k : Int) == 0) = false := beq_eq_false_iff_ne.2 (by omega)
            by_cases hq5 : g5 < rv
            · have e5 : decide (g5 < rv) = true := decide_eq_true hq5
              go_wp2
              go_round
              case rel => exact ⟨k + 1, _, _, by go_num, rfl, rfl, by rw [← HN.out]; omega, HM2.out _ (by rw [if_pos rfl, Int.max_eq_left (by omega)]), HG2.out _ (by rw [Int.max_eq_right (by omega)])⟩
              case measure => simp [intOf]; omega
            · have e5 : decide (g5 < rv) = false := decide_eq_false hq5
              go_wp2
              go_round
              case rel => exact ⟨k + 1, _, _, by go_num, rfl, rfl, by rw [← HN.out]; omega, HM2.out _ (by rw [if_pos rfl, Int.max_eq_left (by omega)]), HG2.out _ (by rw [Int.max_eq_left (by omega)])⟩
              case measure => simp [intOf]; omega
      | false =>
        by_cases hk0 : k = 0
        · have e0 : ((k : Int) == 0) = true := beq_iff_eq.2 (by omega)
          have HKZ := Lib.hid hk0
          clear hk0
          go_wp2
          go_round
          case rel => exact ⟨k + 1, _, _, by go_num, rfl, rfl, by rw [← HN.out]; omega, HM2.out _ (by rw [if_neg (by decide)]), HG2.out _ (by have := HK0.out HKZ.out; rw [Int.max_eq_right (by omega)])⟩
          case measure => simp [intOf]; omega
        · have e0 : ((k : Int) == 0) = false := beq_eq_false_iff_ne.2 (by omega)
          by_cases hq5 : g5 < rv
          · have e5 : decide (g5 < rv) = true := decide_eq_true hq5
            go_wp2
            go_round
            case rel => exact ⟨k + 1, _, _, by go_num, rfl, rfl, by rw [← HN.out]; omega, HM2.out _ (by rw [if_neg (by decide)]), HG2.out _ (by rw [Int.max_eq_right (by omega)])⟩
            case measure => simp [intOf]; omega
          · have e5 : decide (g5 < rv) = false := decide_eq_false hq5
            go_wp2
            go_round
            case rel => exact ⟨k + 1, _, _, by go_num, rfl, rfl, by rw [← HN.out]; omega, HM2.out _ (by rw [if_neg (by decide)]), HG2.out _ (by rw [Int.max_eq_left (by omega)])⟩
            case measure => simp [intOf]; omega
    · obtain rfl : k = n := by omega
      have hM : IsMax m4 (-1 :: accL rs) := by have := HM.out; rwa [List.take_of_length_le (by rw [← HN.out]; omega)] at this
      have hG : IsMax g5 (0 :: viewsL rs) := by have := HG.out; rwa [List.take_of_length_le (by rw [← HN.out]; omega)] at this
      have HNO := Lib.hid (base_no HBD.out hG hM)
      have HYES := Lib.hid (base_yes HBD.out hG hM)
      have HM0 : Hid (m4 = -1 ∨ 0 ≤ m4) := Lib.hid (by
        rcases List.mem_cons.1 hM.1 with h | h
        · exact .inl h
        · exact .inr (accL_ge HBD.out _ h))
      clear hM hG HM HG hlt hk
      go_wp2_with fail
      go_loop [4, 7] (fun s4 s7 => RbR2 rs m4 s4 s7) (fun _ s7 => k - (intOf s7).toNat)
      case atStart => exact ⟨0, m4, rfl, rfl, Nat.zero_le _, .inl ⟨rfl, rfl⟩⟩
      case round =>
        obtain ⟨j, x, rfl, rfl, hj, hst⟩ := hrel
        rw [← HN.out] at hj
        by_cases hx0 : x < 0
        · have e1 : decide (0 ≤ x) = false := decide_eq_false (by omega)
          have e2 : decide (x < 0) = true := decide_eq_true hx0
          have HB : Hid (IsBase rs g5 false) := Lib.hid (HNO.out (by
            rcases hst with ⟨rfl, _⟩ | ⟨_, h⟩
            · exact .inl hx0
            · exact .inr h))
          clear hst hx0
          by_cases hjk : j < k
          · go_wp2_with fail
            refine bodyPost_ret (results_tmp2 rfl _ _ _) rfl ?_
            exact ⟨g5, false, rfl, HB.out, rfl⟩
          · obtain rfl : j = k := by omega
            go_wp2_with fail
            refine bodyPost_ret (results_tmp2 rfl _ _ _) rfl ?_
            exact ⟨g5, false, rfl, HB.out, rfl⟩
        · have e1 : decide (0 ≤ x) = true := decide_eq_true (by omega)
          have e2 : decide (x < 0) = false := decide_eq_false hx0
          have hst2 : x = m4 ∧ (rs.take j).all (knows m4) = true := by
            rcases hst with h | ⟨h, _⟩
            · exact h
            · omega
          obtain ⟨rfl, hall⟩ := hst2
          have HALL := Lib.hid hall
          clear hst hall
          by_cases hjk : j < k
          · obtain ⟨r, hr⟩ : ∃ r, rs[j]? = some r := ⟨_, List.getElem?_eq_getElem (by rw [← HN.out]; exact hjk)⟩
            obtain ⟨g, off, cs, rfl, hg, hc1, hc2, hd, hrange⟩ := HF.out j r hr
            obtain ⟨m, o, s0, s2, s3, nm, no, p0, p2, p3, rfl, _⟩ := hd
            have hc1' : k ≤ c := by rw [HN.out]; exact hc1
            have HNX : Hid (knows x r = true → (rs.take (j + 1)).all (knows x) = true) := Lib.hid (fun h => by rw [List.take_add_one, hr, List.all_append, HALL.out]; simp [h])
            have HBADX : Hid (knows x r = false → ∃ r ∈ rs, knows x r = false) := Lib.hid (fun h => ⟨r, List.mem_of_getElem? hr, h⟩)
            unfold maxLen at hc2
            obtain ⟨rd, hrd⟩ : ∃ b, b = r.ready := ⟨_, rfl⟩
            have HRD := Lib.hid hrd
            rw [← hrd] at hrange
            have c1 := hrange 1 _ rfl
            have c10 := hrange 10 _ rfl
            have c11 := hrange 11 _ rfl
            clear hr hrange hc1 hrd
            have d1 : decide (r.view.num < x) = true ∨ decide (r.view.num < x) = false := by cases decide (r.view.num < x) <;> simp
            have d3 : (r.next.num == x) = true ∨ (r.next.num == x) = false := by cases (r.next.num == x) <;> simp
            have HK : Hid (∀ b1 b3, decide (r.view.num < x) = b1 → (r.next.num == x) = b3 → knows x r = !(b1 && !(rd && b3))) := Lib.hid (fun b1 b3 h1 h3 => by unfold knows; rw [h1, h3, ← HRD.out])
            rcases d1 with d1 | d1
            · cases hb : rd with
              | false =>
                have HQ := Lib.hid (HBADX.out (by rcases d3 with d3 | d3 <;> (rw [HK.out _ _ d1 d3, hb]; rfl)))
                rw [hb] at c10
                clear hb d3
                go_wp2
                go_round
                case rel => exact ⟨j + 1, -1, by go_num, rfl, by rw [← HN.out]; omega, .inr ⟨rfl, HQ.out⟩⟩
                case measure => simp [intOf]; omega
              | true =>
                rw [hb] at c10
                rcases d3 with d3 | d3
                · have HQ := Lib.hid (HNX.out (by rw [HK.out _ _ d1 d3, hb]; rfl))
                  clear hb
                  go_wp2
                  go_round
                  case rel => exact ⟨j + 1, x, by go_num, rfl, by rw [← HN.out]; omega, .inl ⟨rfl, HQ.out⟩⟩
                  case measure => simp [intOf]; omega
                · have HQ := Lib.hid (HBADX.out (by rw [HK.out _ _ d1 d3, hb]; rfl))
                  clear hb
                  go_wp2
                  go_round
                  case rel => exact ⟨j + 1, -1, by go_num, rfl, by rw [← HN.out]; omega, .inr ⟨rfl, HQ.out⟩⟩
                  case measure => simp [intOf]; omega
            · have HQ := Lib.hid (HNX.out (by rcases d3 with d3 | d3 <;> (rw [HK.out _ _ d1 d3]; rfl)))
              clear d3
              go_wp2
              go_round
              case rel => exact ⟨j + 1, x, by go_num, rfl, by rw [← HN.out]; omega, .inl ⟨rfl, HQ.out⟩⟩
              case measure => simp [intOf]; omega
          · obtain rfl : j = k := by omega
            have HB : Hid (IsBase rs x true) := Lib.hid (HYES.out (by omega) (by have := HALL.out; rwa [List.take_of_length_le (by rw [← HN.out]; omega)] at this))
            go_wp2_with fail
            refine bodyPost_ret (results_tmp2 rfl _ _ _) rfl ?_
            exact ⟨x, true, rfl, HB.out, rfl⟩
def RvR1 (rs : List Rep) (b : Int) (g6 : Nat) (w : World) (i : Value) (wr : World) : Prop :=
  ∃ k : Nat, i = .int .i64 (k : Int) ∧ k ≤ rs.length ∧ (rs.take k).find? (fun r => r.view.num == b) = none ∧ Kn [] w wr [(g6, At #[.int .i64 0, .slice none 0 0, .slice none 0 0] 30)]
def RvR2 (rs : List Rep) (b : Int) (ad : Bool) (g6 : Nat) (w : World) (i : Value) (wr : World) : Prop :=
  ∃ k : Nat, i = .int .i64 (k : Int) ∧ k ≤ rs.length ∧ (rs.take k).find? (fun r => ad && (r.ready && r.next.num == b)) = none ∧ Kn [] w wr [(g6, At #[.int .i64 0, .slice none 0 0, .slice none 0 0] 30)]
def RbvOut (rs : List Rep) (b : Int) (ad : Bool) (W w : World) (e : Ending) (w' : World) : Prop :=
  ∃ (m o : SL), e = .returned (.agg #[.int .i64 (baseVf rs b ad).num, m.v, o.v]) ∧ Row W m.v 1 (intRows (baseVf rs b ad).mem) ∧ Row W o.v 1 (intRows (baseVf rs b ad).own) ∧ Below w.heap.size w w'
set_option maxRecDepth 100000 in
set_option maxHeartbeats 8000000 in
theorem RbaseView_any {W w : World} {v : Value} {rs : List Rep} (h : RepRd W v rs) (hb0 : Below W.heap.size W w) (hl : rs.length ≤ 1000) (b : Int) (ad : Bool) :
    Calls Try.prog 36 #[v, .int .i64 b, .bool ad] w (RbvOut rs b ad W w) := by
  have KN := Kn.start w
  have HB0 := Lib.hid hb0
  obtain ⟨a, c, rfl, _, hf⟩ := h.form
  obtain ⟨n, hn⟩ : ∃ n, n = rs.length := ⟨_, rfl⟩
  have HN := Lib.hid hn
  have HF := Lib.hid hf
  rw [← hn] at hl ⊢
  clear h hf hn hb0
  go_enter Try.func36, Try.ntmps36
  go_wp2_with (first | ((with_reducible refine wpList_gate ?_); first | ((with_reducible refine gate_load ?_ ?_); rfl; first | (refine ks_load1 KN 3 Try.underlying3 ?_) | (refine ks_loadW KN 30 Try.underlying30 ?_) | (refine ks_load1 KN 4 Try.underlying4 ?_)) | ((with_reducible refine gate_store ?_ ?_); rfl; first | (refine ks_storeW KN 30 ?_; clear KN; intro wx KN) | (refine ks_storeA KN 30 ?_; clear KN; intro wx KN)) | ((with_reducible refine gate_new ?_ ?_); rfl; first | (refine ks_alloc KN 30 (q := 6) #[.int .i64 0, .slice none 0 0, .slice none 0 0] ?_; clear KN; intro g6 wx hg6 KN) | (refine wpList_built rfl 30 #[] rfl #[.int .i64 0, .slice none 0 0, .slice none 0 0] (by kernel_rfl) ?_))))
  go_loopw [7] (fun i wr => RvR1 rs b g6 w i wr) (fun i _ => n - (intOf i).toNat)
  case atStart => exact ⟨0, rfl, Nat.zero_le _, rfl, KN⟩
  case round =>
    clear KN
    obtain ⟨k, rfl, hk, hnone, KN⟩ := hrel
    have HNO := Lib.hid hnone
    rw [← HN.out] at hk
    clear hnone
    by_cases hlt : k < n
    · obtain ⟨r, hr⟩ : ∃ r, rs[k]? = some r := ⟨_, List.getElem?_eq_getElem (by rw [← HN.out]; exact hlt)⟩
      obtain ⟨g, off, cs, rfl, hg, hc1, hc2, hd, hrange⟩ := HF.out k r hr
      obtain ⟨m, o, s0, s2, s3, nm, no, p0, p2, p3, rfl, q1, q2, _, _⟩ := hd
      have HR := Lib.hid hr
      have RNG := Lib.hid (fun j v hj => (HB0.out.cell (by exact hg)).trans (hrange j v hj) : w.rangeAt g _ _)
      have hg := Nat.lt_of_lt_of_le hg HB0.out.size
      have HQ1 := Lib.hid q1
      have HQ2 := Lib.hid q2
      have hc1' : n ≤ c := by rw [HN.out]; exact hc1
      unfold maxLen at hc2
      clear hr hrange hc1 q1 q2
      have c1 := (KN.old hg (by simp)).trans (RNG.out 1 _ rfl)
      by_cases hq : r.view.num = b
      · have hqb : (r.view.num == b) = true := beq_iff_eq.2 hq
        have HFD : Hid (baseVf rs b ad = r.view) := Lib.hid (by unfold baseVf; rw [find_hit HNO.out HR.out hqb])
        clear hq
        obtain ⟨ma, mn, mc⟩ := m
        obtain ⟨oa, on, oc⟩ := o
        have RNG2 : Hid (w.rangeAt g (off + k * 20 + 1) #[.int .i64 r.view.num, .slice ma mn mc, .slice oa on oc].toList) := Lib.hid (fun j v hj => by
          have := RNG.out (1 + j) v (by
            rcases j with _ | _ | _ | j
            · exact hj
            · exact hj
            · exact hj
            · simp at hj)
          rwa [← Nat.add_assoc] at this)
        go_wp2_with (first | ((with_reducible refine wpList_gate ?_); first | ((with_reducible refine gate_load ?_ ?_); rfl; first | (refine wpList_kn_oldN KN (by rfl) 30 _ rfl g _ rfl #[.int .i64 r.view.num, .slice ma mn mc, .slice oa on oc] RNG2.out hg (by simp) _ Try.underlying30 rfl (by kernel_rfl) ?_) | (refine ks_load1 KN 3 Try.underlying3 ?_) | (refine ks_loadW KN 30 Try.underlying30 ?_) | (refine ks_load1 KN 4 Try.underlying4 ?_)) | ((with_reducible refine gate_store ?_ ?_); rfl; first | (refine ks_storeW KN 30 ?_; clear KN; intro wx KN) | (refine ks_storeA KN 30 ?_; clear KN; intro wx KN)) | ((with_reducible refine gate_new ?_ ?_); rfl; first | (refine ks_alloc KN 30 (q := 6) #[.int .i64 0, .slice none 0 0, .slice none 0 0] ?_; clear KN; intro g6 wx hg6 KN) | (refine wpList_built rfl 30 #[] rfl #[.int .i64 0, .slice none 0 0, .slice none 0 0] (by kernel_rfl) ?_))))
        refine bodyPost_ret (results_cell_row (p := 6) Try.results36 _ _ g6 30 #[.int .i64 r.view.num, .slice ma mn mc, .slice oa on oc] (0, 0) _ rfl (KN.at_ (by repeat (first | exact Has.here | refine Has.there ?_))) Try.underlying30 rfl (by kernel_rfl)) rfl ?_
        exact ⟨⟨ma, mn, mc⟩, ⟨oa, on, oc⟩, by rw [HFD.out]; rfl, by rw [HFD.out]; exact HQ1.out, by rw [HFD.out]; exact HQ2.out, KN.toBelow⟩
      · have hqb : (r.view.num == b) = false := beq_eq_false_iff_ne.2 hq
        have HNX := Lib.hid (find_none_take HNO.out HR.out hqb)
        clear hq
        go_wp2_with fail
        go_roundw
        case rel => exact ⟨k + 1, by go_num, by rw [← HN.out]; omega, HNX.out, KN⟩
        case measure => simp [intOf]; omega
    · obtain rfl : k = n := by omega
      have HN1 : Hid (rs.find? (fun r => r.view.num == b) = none) := Lib.hid (by
        have := HNO.out
        rwa [List.take_of_length_le (by rw [← HN.out]; exact Nat.le_refl _)] at this)
      clear hk hlt HNO
      go_wp2_with fail
      go_loopw [8] (fun i wr => RvR2 rs b ad g6 w i wr) (fun i _ => k - (intOf i).toNat)
      case atStart => exact ⟨0, rfl, Nat.zero_le _, rfl, KN⟩
      case round =>
        clear KN
        obtain ⟨j, rfl, hj, hnone, KN⟩ := hrel
        have HNO := Lib.hid hnone
        rw [← HN.out] at hj
        clear hnone
        cases ad with
        | false =>
          have HFD : Hid (baseVf rs b false = ⟨0, [], []⟩) := Lib.hid (by
            unfold baseVf
            rw [HN1.out]
            dsimp only
            rw [List.find?_eq_none.2 (by simp)])
          by_cases hlt : j < k
          · go_wp2_with (first | ((with_reducible refine wpList_gate ?_); first | ((with_reducible refine gate_load ?_ ?_); rfl; first | (refine ks_load1 KN 3 Try.underlying3 ?_) | (refine ks_loadW KN 30 Try.underlying30 ?_) | (refine ks_load1 KN 4 Try.underlying4 ?_)) | ((with_reducible refine gate_store ?_ ?_); rfl; first | (refine ks_storeW KN 30 ?_; clear KN; intro wx KN) | (refine ks_storeA KN 30 ?_; clear KN; intro wx KN)) | ((with_reducible refine gate_new ?_ ?_); rfl; first | (refine ks_alloc KN 30 (q := 6) #[.int .i64 0, .slice none 0 0, .slice none 0 0] ?_; clear KN; intro g6 wx hg6 KN) | (refine wpList_built rfl 30 #[] rfl #[.int .i64 0, .slice none 0 0, .slice none 0 0] (by kernel_rfl) ?_))))
            refine bodyPost_ret (results_cell_row (p := 6) Try.results36 _ _ g6 30 #[.int .i64 0, .slice none 0 0, .slice none 0 0] (0, 0) _ rfl (KN.at_ (by repeat (first | exact Has.here | refine Has.there ?_))) Try.underlying30 rfl (by kernel_rfl)) rfl ?_
            exact ⟨.nil, .nil, by rw [HFD.out]; rfl, by rw [HFD.out]; exact ⟨by simp, .inl ⟨rfl, _, _, rfl⟩⟩, by rw [HFD.out]; exact ⟨by simp, .inl ⟨rfl, _, _, rfl⟩⟩, KN.toBelow⟩
          · obtain rfl : j = k := by omega
            go_wp2_with (first | ((with_reducible refine wpList_gate ?_); first | ((with_reducible refine gate_load ?_ ?_); rfl; first | (refine ks_load1 KN 3 Try.underlying3 ?_) | (refine ks_loadW KN 30 Try.underlying30 ?_) | (refine ks_load1 KN 4 Try.underlying4 ?_)) | ((with_reducible refine gate_store ?_ ?_); rfl; first | (refine ks_storeW KN 30 ?_; clear KN; intro wx KN) | (refine ks_storeA KN 30 ?_; clear KN; intro wx KN)) | ((with_reducible refine gate_new ?_ ?_); rfl; first | (refine ks_alloc KN 30 (q := 6) #[.int .i64 0, .slice none 0 0, .slice none 0 0] ?_; clear KN; intro g6 wx hg6 KN) | (refine wpList_built rfl 30 #[] rfl #[.int .i64 0, .slice none 0 0, .slice none 0 0] (by kernel_rfl) ?_))))
            refine bodyPost_ret (results_cell_row (p := 6) Try.results36 _ _ g6 30 #[.int .i64 0, .slice none 0 0, .slice none 0 0] (0, 0) _ rfl (KN.at_ (by repeat (first | exact Has.here | refine Has.there ?_))) Try.underlying30 rfl (by kernel_rfl)) rfl ?_
            exact ⟨.nil, .nil, by rw [HFD.out]; rfl, by rw [HFD.out]; exact ⟨by simp, .inl ⟨rfl, _, _, rfl⟩⟩, by rw [HFD.out]; exact ⟨by simp, .inl ⟨rfl, _, _, rfl⟩⟩, KN.toBelow⟩
        | true =>
          by_cases hlt : j < k
          · obtain ⟨r, hr⟩ : ∃ r, rs[j]? = some r := ⟨_, List.getElem?_eq_getElem (by rw [← HN.out]; exact hlt)⟩
            obtain ⟨g, off, cs, rfl, hg, hc1, hc2, hd, hrange⟩ := HF.out j r hr
            obtain ⟨m, o, s0, s2, s3, nm, no, p0, p2, p3, rfl, _, _, q1, q2⟩ := hd
            have HR := Lib.hid hr
            have RNG := Lib.hid (fun j v hj => (HB0.out.cell (by exact hg)).trans (hrange j v hj) : w.rangeAt g _ _)
            have hg := Nat.lt_of_lt_of_le hg HB0.out.size
            have HQ1 := Lib.hid q1
            have HQ2 := Lib.hid q2
            have hc1' : k ≤ c := by rw [HN.out]; exact hc1
            unfold maxLen at hc2
            obtain ⟨rd, hrd⟩ : ∃ q, q = r.ready := ⟨_, rfl⟩
            have HRD := Lib.hid hrd
            rw [← hrd] at RNG
            clear hr hrange hc1 q1 q2 hrd
            have c10 := (KN.old hg (by simp)).trans (RNG.out 10 _ rfl)
            have c11 := (KN.old hg (by simp)).trans (RNG.out 11 _ rfl)
            have HP : Hid (∀ b3, (r.next.num == b) = b3 → (true && (r.ready && r.next.num == b)) = (rd && b3)) := Lib.hid (fun b3 h3 => by rw [h3, ← HRD.out]; rfl)
            cases h2 : rd with
            | false =>
              have HNX := Lib.hid (find_none_take HNO.out HR.out (by rw [HP.out _ rfl, h2]; rfl))
              rw [h2] at c10
              clear h2
              go_wp2_with fail
              go_roundw
              case rel => exact ⟨j + 1, by go_num, by rw [← HN.out]; omega, HNX.out, KN⟩
              case measure => simp [intOf]; omega
            | true =>
              by_cases hq : r.next.num = b
              · have h3 : (r.next.num == b) = true := beq_iff_eq.2 hq
                have HFD : Hid (baseVf rs b true = r.next) := Lib.hid (by unfold baseVf; rw [HN1.out, find_hit HNO.out HR.out (by rw [HP.out _ h3, h2]; rfl)])
                rw [h2] at c10
                clear h2 hq
                obtain ⟨ma, mn, mc⟩ := nm
                obtain ⟨oa, on, oc⟩ := no
                have RNG2 : Hid (w.rangeAt g (off + j * 20 + 11) #[.int .i64 r.next.num, .slice ma mn mc, .slice oa on oc].toList) := Lib.hid (fun j v hj => by
                  have := RNG.out (11 + j) v (by
                    rcases j with _ | _ | _ | j
                    · exact hj
                    · exact hj
                    · exact hj
                    · simp at hj)
                  rwa [← Nat.add_assoc] at this)
                go_wp2_with (first | ((with_reducible refine wpList_gate ?_); first | ((with_reducible refine gate_load ?_ ?_); rfl; first | (refine wpList_kn_oldN KN (by rfl) 30 _ rfl g _ rfl #[.int .i64 r.next.num, .slice ma mn mc, .slice oa on oc] RNG2.out hg (by simp) _ Try.underlying30 rfl (by kernel_rfl) ?_) | (refine ks_load1 KN 3 Try.underlying3 ?_) | (refine ks_loadW KN 30 Try.underlying30 ?_) | (refine ks_load1 KN 4 Try.underlying4 ?_)) | ((with_reducible refine gate_store ?_ ?_); rfl; first | (refine ks_storeW KN 30 ?_; clear KN; intro wx KN) | (refine ks_storeA KN 30 ?_; clear KN; intro wx KN)) | ((with_reducible refine gate_new ?_ ?_); rfl; first | (refine ks_alloc KN 30 (q := 6) #[.int .i64 0, .slice none 0 0, .slice none 0 0] ?_; clear KN; intro g6 wx hg6 KN) | (refine wpList_built rfl 30 #[] rfl #[.int .i64 0, .slice none 0 0, .slice none 0 0] (by kernel_rfl) ?_))))
                refine bodyPost_ret (results_cell_row (p := 6) Try.results36 _ _ g6 30 #[.int .i64 r.next.num, .slice ma mn mc, .slice oa on oc] (0, 0) _ rfl (KN.at_ (by repeat (first | exact Has.here | refine Has.there ?_))) Try.underlying30 rfl (by kernel_rfl)) rfl ?_
                exact ⟨⟨ma, mn, mc⟩, ⟨oa, on, oc⟩, by rw [HFD.out]; rfl, by rw [HFD.out]; exact HQ1.out, by rw [HFD.out]; exact HQ2.out, KN.toBelow⟩
              · have h3 : (r.next.num == b) = false := beq_eq_false_iff_ne.2 hq
                have HNX := Lib.hid (find_none_take HNO.out HR.out (by rw [HP.out _ h3, h2]; rfl))
                rw [h2] at c10
                clear h2 hq
                go_wp2_with fail
                go_roundw
                case rel => exact ⟨j + 1, by go_num, by rw [← HN.out]; omega, HNX.out, KN⟩
                case measure => simp [intOf]; omega
          · have HFD : Hid (baseVf rs b true = ⟨0, [], []⟩) := Lib.hid (by
              have h2 := HNO.out
              rw [List.take_of_length_le (by rw [← HN.out]; omega)] at h2
              unfold baseVf
              rw [HN1.out]
              dsimp only
              rw [h2])
            obtain rfl : j = k := by omega
            go_wp2_with (first | ((with_reducible refine wpList_gate ?_); first | ((with_reducible refine gate_load ?_ ?_); rfl; first | (refine ks_load1 KN 3 Try.underlying3 ?_) | (refine ks_loadW KN 30 Try.underlying30 ?_) | (refine ks_load1 KN 4 Try.underlying4 ?_)) | ((with_reducible refine gate_store ?_ ?_); rfl; first | (refine ks_storeW KN 30 ?_; clear KN; intro wx KN) | (refine ks_storeA KN 30 ?_; clear KN; intro wx KN)) | ((with_reducible refine gate_new ?_ ?_); rfl; first | (refine ks_alloc KN 30 (q := 6) #[.int .i64 0, .slice none 0 0, .slice none 0 0] ?_; clear KN; intro g6 wx hg6 KN) | (refine wpList_built rfl 30 #[] rfl #[.int .i64 0, .slice none 0 0, .slice none 0 0] (by kernel_rfl) ?_))))
            refine bodyPost_ret (results_cell_row (p := 6) Try.results36 _ _ g6 30 #[.int .i64 0, .slice none 0 0, .slice none 0 0] (0, 0) _ rfl (KN.at_ (by repeat (first | exact Has.here | refine Has.there ?_))) Try.underlying30 rfl (by kernel_rfl)) rfl ?_
            exact ⟨.nil, .nil, by rw [HFD.out]; rfl, by rw [HFD.out]; exact ⟨by simp, .inl ⟨rfl, _, _, rfl⟩⟩, by rw [HFD.out]; exact ⟨by simp, .inl ⟨rfl, _, _, rfl⟩⟩, KN.toBelow⟩
end Go.Proofs.Ytpjejaoobbancaa
