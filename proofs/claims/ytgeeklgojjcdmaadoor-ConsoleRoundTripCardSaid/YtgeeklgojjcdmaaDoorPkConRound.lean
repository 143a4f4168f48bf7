/- ConsoleRoundTrip: true for every list and every text. -/
import Derived.Test.YtgeeklgojjcdmaaDoorPkEvents
import Derived.Test.YtgeeklgojjcdmaaDoorPkConCntP
set_option linter.unusedVariables false
set_option linter.unusedSimpArgs false
set_option linter.unusedSectionVars false
namespace Go.Proofs.YtgeeklgojjcdmaaDoor
open Go.RowKit Go.BigFrame

theorem count_snoc (s : ByteArray) (k : Nat) (hk : k < s.size) : (s.data.toList.take (k + 1)).count 10 = (s.data.toList.take k).count 10 + (if s[k] = 10 then 1 else 0) := by
  rw [take_snoc s k hk, List.count_append]
  congr 1
  rw [List.count_singleton]
  by_cases h : s[k] = 10
  · rw [if_pos h, h]; rfl
  · rw [if_neg h, if_neg (by simpa using h)]
theorem row_raw {w : World} {a : Option Addr} {n c : Nat} {l : List RawEv} (h : Row w (.slice a n c) 3 (rawRows l)) {k : Nat} {x : RawEv} (hx : l[k]? = some x) : ∃ g o, a = some ⟨g, o, none⟩ ∧ g < w.heap.size ∧ n ≤ c ∧ c ≤ maxLen ∧ w.rangeAt g (o + k * 3) x.cells.toList := by
  obtain ⟨a', c', hv, hc⟩ := raws_form h
  simp only [Value.slice.injEq] at hv
  obtain ⟨rfl, rfl, rfl⟩ := hv
  obtain ⟨g, o, hg, hgb, hl1, hl2, x0, x1, x2⟩ := hc k x hx
  exact ⟨g, o, hg, hgb, hl1, hl2, row_range x0 x1 x2⟩
def LinR (u : ByteArray) (s10 s12 : Value) : Prop := ∃ k : Nat, s12 = .int .i64 (k : Int) ∧ k ≤ u.size ∧ s10 = .int .i64 (((u.data.toList.take k).count 10 : Nat) : Int)
def ChgR (l : List RawEv) (n : Nat) (W : World) (s11 s13 : Value) (wr : World) : Prop := ∃ k : Nat, s13 = .int .i64 (k : Int) ∧ k ≤ n ∧ s11 = .int .i64 ((chgS none (l.take k) : Nat) : Int) ∧ Kn [] W wr []
set_option maxRecDepth 100000 in
set_option maxHeartbeats 8000000 in
theorem consoleRoundTrip_any {va : Value} {zs : List Int} (s : ByteArray) (w : World) (hz : Ints w va zs) (hs : s.size ≤ maxLen) (hp : Pow w) : Calls Tryd.prog 4 #[va, .string s] w fun e w' => e = .returned (.bool true) ∧ Below w.heap.size w w' := by
  have HPW := Lib.hid hp
  have HZ := Lib.hid hz
  obtain ⟨a, c, rfl, hm⟩ := hz.form
  obtain ⟨n, hn⟩ : ∃ n, n = zs.length := ⟨_, rfl⟩
  rw [← hn] at hm HZ ⊢
  unfold maxLen at hm
  have HS := Lib.hid hs
  clear hz hn hp
  by_cases hlen : 100 < n
  · unfold maxLen at hs
    go_enter Tryd.func4, Tryd.ntmps4
    go_wp2_with (go_at_call 5; refine (awake40_any _ HPW.out).mono ?_; rintro e wx ⟨rfl, hb⟩)
    go_ret
    exact ⟨rfl, hb⟩
  by_cases hlen2 : 2000 < s.size
  · unfold maxLen at hs
    go_enter Tryd.func4, Tryd.ntmps4
    go_wp2_with (go_at_call 5; refine (awake40_any _ HPW.out).mono ?_; rintro e wx ⟨rfl, hb⟩)
    go_ret
    exact ⟨rfl, hb⟩
  unfold maxLen at hs
  go_enter Tryd.func4, Tryd.ntmps4
  go_upto_region 4 with (go_at_call 11; refine (events_any HZ.out).mono ?_; rintro e w1 ⟨v, l, ol, rfl, hok, hln, OL, K2⟩; have HX1 := Lib.hid (OL.row (f := fun o => o) K2 .id); obtain ⟨xa, xn, xc, rfl, hxn⟩ := OL.form4; rw [List.length_map] at hxn; have HXN := Lib.hid hxn; have HOK := Lib.hid hok; have HLN := Lib.hid hln; have HB1 := Lib.hid K2.toBelow; clear OL K2 hok hln hxn)
  (try go_frame)
  obtain ⟨u, hu⟩ : ∃ u, u = str (fmtR l) := ⟨_, rfl⟩
  have HU := Lib.hid hu
  have HUS : Hid (u.size ≤ 18000) := Lib.hid (by
    have h1 := fmt_size HOK.out (by have := HLN.out; omega)
    have h2 := chgS_len l none
    have h3 := HLN.out
    rw [hu]
    show (fmtR l).toArray.size ≤ 18000
    rw [List.size_toArray]
    omega)
  have HSC : Hid (script u.data.toList = (l.map RawEv.ev, (0, 0), 0)) := Lib.hid (by
    rw [hu, data_str]
    exact fmt_read HOK.out (by have := HLN.out; omega) (by have := chgS_len l none; have := HLN.out; omega))
  have HCN : Hid ((u.data.toList).count 10 = chgS none l) := Lib.hid (by rw [hu, data_str]; exact fmt_cnt HOK.out (by have := HLN.out; omega))
  clear hu
  have KN := Kn.start w1
  go_upto_region 5 with (go_at_call 9; refine (FormatScript_any _ l _ (HX1.out.below KN.toBelow) (by have := HLN.out; omega) ((HPW.out.below HB1.out).below KN.toBelow)).mono ?_; rintro e wx ⟨rfl, hb⟩; rw [← HU.out]; replace KN := KN.below hb; clear hb)
  (try go_frame)
  have HPS := Lib.hid (fun w0 => ParseScript_any u w0 (by have := HUS.out; unfold maxLen; omega))
  unfold ScriptOut at HPS
  rw [HSC.out] at HPS
  dsimp only at HPS
  go_upto_region 6 with (first | (go_at_call 6; refine (HPS.out _).mono ?_; rintro e w2 ⟨v2, ol2, rfl, OW, K2⟩; have HX2 := Lib.hid (OW.row (f := fun o => o) K2 .id); obtain ⟨ya, yn, yc, rfl⟩ := OW.form3; have HB2 := Lib.hid (KN.below K2.toBelow).toBelow; clear KN OW K2; have KN := Kn.start w2) | ((with_reducible refine wpList_gate ?_); first | ((with_reducible refine gate_load ?_ ?_); rfl; first | (refine ks_loadW KN 35 Tryd.underlying35 ?_)) | ((with_reducible refine gate_store ?_ ?_); rfl; first | (refine ks_storeW KN 25 ?_; clear KN; intro wx KN) | (refine ks_storeA KN 25 ?_; clear KN; intro wx KN)) | ((with_reducible refine gate_new ?_ ?_); rfl; first | (refine ks_alloc KN 25 (q := 8) #[.int .i64 0, .int .i64 0] ?_; clear KN; intro g8 wx hg8 KN) | (refine ks_alloc KN 25 (q := 15) #[.int .i64 0, .int .i64 0] ?_; clear KN; intro g15 wx hg15 KN) | (refine ks_alloc KN 25 (q := 18) #[.int .i64 0, .int .i64 0] ?_; clear KN; intro g18 wx hg18 KN))))
  (try go_frame)
  rw [raw_of_ev, evRows_ev HOK.out] at HX2
  go_upto_region 8 with (first | (go_at_call 8; refine (same40_eq _ _ l _ ((HX1.out.below HB2.out).below KN.toBelow) (HX2.out.below KN.toBelow)).mono ?_; rintro e wx ⟨rfl, hb⟩; replace KN := KN.below hb; clear hb) | ((with_reducible refine wpList_gate ?_); first | ((with_reducible refine gate_load ?_ ?_); rfl; first | (refine ks_loadW KN 35 Tryd.underlying35 ?_)) | ((with_reducible refine gate_store ?_ ?_); rfl; first | (refine ks_storeW KN 25 ?_; clear KN; intro wx KN) | (refine ks_storeA KN 25 ?_; clear KN; intro wx KN)) | ((with_reducible refine gate_new ?_ ?_); rfl; first | (refine ks_alloc KN 25 (q := 8) #[.int .i64 0, .int .i64 0] ?_; clear KN; intro g8 wx hg8 KN) | (refine ks_alloc KN 25 (q := 15) #[.int .i64 0, .int .i64 0] ?_; clear KN; intro g15 wx hg15 KN) | (refine ks_alloc KN 25 (q := 18) #[.int .i64 0, .int .i64 0] ?_; clear KN; intro g18 wx hg18 KN))))
  (try go_frame)
  have HB3 := Lib.hid KN.toBelow
  clear KN
  go_wp2_with fail
  go_loop [10, 12] (fun s10 s12 => LinR u s10 s12) (fun _ s12 => u.size - (intOf s12).toNat)
  case atStart => exact ⟨0, rfl, Nat.zero_le _, by simp⟩
  case round =>
    obtain ⟨k, rfl, hk, rfl⟩ := hrel
    have hus := HUS.out
    obtain ⟨cn, hcn⟩ : ∃ cn, cn = (u.data.toList.take k).count 10 := ⟨_, rfl⟩
    have hcb : cn ≤ 18000 := by
      have h1 := List.count_le_length (a := (10 : UInt8)) (l := u.data.toList.take k)
      rw [List.length_take] at h1
      omega
    rw [← hcn]
    by_cases hlt : k < u.size
    · have HNX := Lib.hid (count_snoc u k hlt)
      rw [← hcn] at HNX
      clear hcn
      by_cases h10 : u[k] = 10
      · have e10 : (((u[k]).toNat : Int) == 10) = true := by rw [h10]; rfl
        rw [if_pos h10] at HNX
        clear h10
        go_wp2
        go_round
        case rel => exact ⟨k + 1, by go_num, by omega, by rw [HNX.out]; rfl⟩
        case measure => simp [intOf]; omega
      · have e10 : (((u[k]).toNat : Int) == 10) = false := beq_eq_false_iff_ne.2 (fun q => h10 (UInt8.toNat_inj.1 (Int.ofNat_inj.1 q)))
        rw [if_neg h10] at HNX
        clear h10
        go_wp2
        go_round
        case rel => exact ⟨k + 1, by go_num, by omega, by rw [HNX.out]; rfl⟩
        case measure => simp [intOf]; omega
    · have hke : k = u.size := by omega
      have hall : cn = chgS none l := by
        rw [hcn, List.take_of_length_le (by rw [hke, Array.length_toList]; exact Nat.le_refl _)]
        exact HCN.out
      clear hcn
      subst hall
      have HKE := Lib.hid hke
      obtain ⟨ch, hch⟩ : ∃ ch, ch = chgS none l := ⟨_, rfl⟩
      have HCH := Lib.hid hch
      rw [← hch] at hcb ⊢
      clear hch hke
      obtain ⟨w3, hw3⟩ : ∃ q : World, q = wx := ⟨_, rfl⟩
      rw [← hw3] at HB3 ⊢
      clear hw3
      have hxn : xn ≤ 240 := by rw [HXN.out]; exact HLN.out
      have HX3 : Hid (Row w3 (.slice xa xn xc) 3 (rawRows l)) := Lib.hid ((HX1.out.below HB2.out).below HB3.out)
      have KN := Kn.start w3
      go_wp2_with fail
      go_loopw [11, 13] (fun s11 s13 wr => ChgR l xn w3 s11 s13 wr) (fun _ s13 _ => xn - (intOf s13).toNat)
      case atStart => exact ⟨0, rfl, Nat.zero_le _, rfl, KN⟩
      case round =>
        clear KN
        obtain ⟨q, rfl, hq, rfl, KN⟩ := hrel
        obtain ⟨cq, hcq⟩ : ∃ cq, cq = chgS none (l.take q) := ⟨_, rfl⟩
        have hcqb : cq ≤ 240 := by
          have h1 := chgS_len (l.take q) none
          rw [List.length_take] at h1
          omega
        have HCQ := Lib.hid hcq
        rw [← hcq]
        clear hcq
        by_cases hlt : q < xn
        · obtain ⟨x, hx⟩ : ∃ x, l[q]? = some x := ⟨_, List.getElem?_eq_getElem (by rw [← HXN.out]; exact hlt)⟩
          have HX := Lib.hid hx
          clear hx
          by_cases hq0 : q = 0
          · have e0 : ((q : Int) == 0) = true := beq_iff_eq.2 (by omega)
            have HNX : Hid (chgS none (l.take (q + 1)) = cq + 1) := Lib.hid (by
              have h1 := HCQ.out
              have h2 := HX.out
              rw [hq0] at h1 h2 ⊢
              rw [h1, List.take_zero]
              exact chg_first h2)
            clear hq0
            go_upto_region 17 with fail
            (try go_frame)
            go_quiet (fail)
            rename_i nq
            replace KN := KN.drewN nq
            go_wp2_with fail
            go_roundw
            case rel => exact ⟨q + 1, by go_num, by omega, by rw [HNX.out]; rfl, KN⟩
            case measure => simp [intOf]; omega
          · have e0 : ((q : Int) == 0) = false := beq_eq_false_iff_ne.2 (by omega)
            obtain ⟨j, hj⟩ : ∃ j, q = j + 1 := ⟨q - 1, by omega⟩
            have hjq : (q : Int) - 1 = (j : Int) := by omega
            obtain ⟨y, hy⟩ : ∃ y, l[j]? = some y := ⟨_, List.getElem?_eq_getElem (by rw [← HXN.out]; omega)⟩
            have HNX : Hid (chgS none (l.take (q + 1)) = cq + (if y = x then 0 else 1)) := Lib.hid (by
              have h1 := HCQ.out
              have h2 := HX.out
              rw [hj] at h1 h2 ⊢
              rw [h1]
              exact chg_next hy h2)
            obtain ⟨g, o, rfl, hg, hc1, hc2, hr1⟩ := row_raw (HX3.out) HX.out
            obtain ⟨g2, o2, he, _, _, _, hr2⟩ := row_raw (HX3.out) hy
            simp only [Option.some.injEq, Addr.mk.injEq] at he
            obtain ⟨rfl, rfl, _⟩ := he
            have KR := Lib.hid (fun (wz : World) (K : Kn [] w3 wz []) => (⟨fun j v hj => (K.old hg (by simp)).trans (hr1 j v hj), fun j v hj => (K.old hg (by simp)).trans (hr2 j v hj)⟩ : wz.rangeAt g (o + q * 3) x.cells.toList ∧ wz.rangeAt g (o + j * 3) y.cells.toList))
            have hjn : j < xn := by omega
            have hjw : IntKind.i64.wrap (j : Int) = (j : Int) := by rw [IntKind.wrap_i64]; omega
            clear hr1 hr2 hy hj hq0
            unfold maxLen at hc2
            by_cases hyx : x = y
            · have HEQ : Hid (eqV Tryd.prog 10 35 (.agg x.cells) (.agg y.cells) = some true) := Lib.hid ((eq_raw x y).trans (by rw [decide_eq_true hyx]))
              have HN2 : Hid (chgS none (l.take (q + 1)) = cq) := Lib.hid (by rw [HNX.out, if_pos hyx.symm, Nat.add_zero])
              clear hyx
              go_upto_region 17 with fail
              (try go_frame)
              replace KN := KN.drew
              refine wp_region_held_drew (S := (fun w' => w'.rangeAt g (o + q * 3) x.cells.toList ∧ w'.rangeAt g (o + j * 3) y.cells.toList)) (by kernel_rfl) ?qthS (fun hHeld => ?qtrest)
              case qthS => exact KR.out _ KN
              refine wpAnyH_take (i := 0) (oi := ⟨some 65, _, _, _, _, _⟩) (v := ?qtv0) rfl (by kernel_rfl) (by kernel_rfl) (by kernel_rfl) (fun _ _ _ h => h) (Or.inl ⟨by rfl, ?qthy0⟩) hHeld ?qtr0
              case qthy0 => (intro w hSw; (try dsimp only at hSw); go_simp; (try with_reducible rfl))
              (try simp only [Act.put, List.setIfInBounds_toArray, List.set_cons_zero, List.set_cons_succ])
              refine wpAnyH_take (i := 1) (oi := ⟨some 66, _, _, _, _, _⟩) (v := ?qtv1) rfl (by kernel_rfl) (by kernel_rfl) (by kernel_rfl) (fun _ _ _ h => h) (Or.inl ⟨by rfl, ?qthy1⟩) hHeld ?qtr1
              case qthy1 => (intro w hSw; (try dsimp only at hSw); go_simp; (try with_reducible rfl))
              (try simp only [Act.put, List.setIfInBounds_toArray, List.set_cons_zero, List.set_cons_succ])
              refine wpAnyH_take (i := 2) (oi := ⟨some 67, _, _, _, _, _⟩) (v := ?qtv2) rfl (by kernel_rfl) (by kernel_rfl) (by kernel_rfl) (fun _ _ _ h => h) (Or.inl ⟨by rfl, ?qthy2⟩) hHeld ?qtr2
              case qthy2 => (intro w hSw; (try dsimp only at hSw); go_simp; (try with_reducible rfl))
              (try simp only [Act.put, List.setIfInBounds_toArray, List.set_cons_zero, List.set_cons_succ])
              refine wpAnyH_take (i := 3) (oi := ⟨some 68, _, _, _, _, _⟩) (v := ?qtv3) rfl (by kernel_rfl) (by kernel_rfl) (by kernel_rfl) (fun _ _ _ h => h) (Or.inl ⟨by rfl, ?qthy3⟩) hHeld ?qtr3
              case qthy3 => (intro w hSw; (try dsimp only at hSw); go_simp; (try with_reducible rfl))
              (try simp only [Act.put, List.setIfInBounds_toArray, List.set_cons_zero, List.set_cons_succ])
              refine wpAnyH_take (i := 4) (oi := ⟨some 69, _, _, _, _, _⟩) (v := ?qtv4) rfl (by kernel_rfl) (by kernel_rfl) (by kernel_rfl) (fun _ _ _ h => h) (Or.inl ⟨by rfl, ?qthy4⟩) hHeld ?qtr4
              case qthy4 => (intro w hSw; (try dsimp only at hSw); go_simp; (try with_reducible rfl))
              (try simp only [Act.put, List.setIfInBounds_toArray, List.set_cons_zero, List.set_cons_succ])
              refine wpAnyH_take (i := 5) (oi := ⟨some 70, _, _, _, _, _⟩) (v := (.pointer (some ⟨g, o + q * 3, none⟩))) rfl (by kernel_rfl) (by kernel_rfl) (by kernel_rfl) (fun _ _ _ h => h) (Or.inl ⟨by rfl, ?qthy5⟩) hHeld ?qtr5
              case qthy5 => (intro w hSw; (try dsimp only at hSw); go_simp; (try rfl))
              (try simp only [Act.put, List.setIfInBounds_toArray, List.set_cons_zero, List.set_cons_succ])
              refine wpAnyH_take (i := 6) (oi := ⟨some 71, _, _, _, _, _⟩) (v := (.agg x.cells)) rfl (by kernel_rfl) (by kernel_rfl) (by kernel_rfl) (fun _ _ _ h => h) (yields_load (by rfl) 35 _ rfl g (o + q * 3) rfl x.cells _ (fun _ h => h.1) Tryd.underlying35 rfl (by kernel_rfl)) hHeld ?qtr6
              (try simp only [Act.put, List.setIfInBounds_toArray, List.set_cons_zero, List.set_cons_succ])
              refine wpAnyH_take (i := 7) (oi := ⟨some 72, _, _, _, _, _⟩) (v := ?qtv7) rfl (by kernel_rfl) (by kernel_rfl) (by kernel_rfl) (fun _ _ _ h => h) (Or.inl ⟨by rfl, ?qthy7⟩) hHeld ?qtr7
              case qthy7 => (intro w hSw; (try dsimp only at hSw); go_simp; (try with_reducible rfl))
              (try simp only [Act.put, List.setIfInBounds_toArray, List.set_cons_zero, List.set_cons_succ])
              refine wpAnyH_take (i := 8) (oi := ⟨some 73, _, _, _, _, _⟩) (v := ?qtv8) rfl (by kernel_rfl) (by kernel_rfl) (by kernel_rfl) (fun _ _ _ h => h) (Or.inl ⟨by rfl, ?qthy8⟩) hHeld ?qtr8
              case qthy8 => (intro w hSw; (try dsimp only at hSw); go_simp; (try with_reducible rfl))
              (try simp only [Act.put, List.setIfInBounds_toArray, List.set_cons_zero, List.set_cons_succ])
              refine wpAnyH_take (i := 9) (oi := ⟨some 74, _, _, _, _, _⟩) (v := (.int .i64 (j : Int))) rfl (by kernel_rfl) (by kernel_rfl) (by kernel_rfl) (fun _ _ _ h => h) (Or.inl ⟨by rfl, ?qthy9⟩) hHeld ?qtr9
              case qthy9 => (intro w hSw; (try dsimp only at hSw); go_simp; (try rfl))
              (try simp only [Act.put, List.setIfInBounds_toArray, List.set_cons_zero, List.set_cons_succ])
              refine wpAnyH_take (i := 10) (oi := ⟨some 75, _, _, _, _, _⟩) (v := (.pointer (some ⟨g, o + j * 3, none⟩))) rfl (by kernel_rfl) (by kernel_rfl) (by kernel_rfl) (fun _ _ _ h => h) (Or.inl ⟨by rfl, ?qthy10⟩) hHeld ?qtr10
              case qthy10 => (intro w hSw; (try dsimp only at hSw); go_simp; (try rfl))
              (try simp only [Act.put, List.setIfInBounds_toArray, List.set_cons_zero, List.set_cons_succ])
              refine wpAnyH_take (i := 11) (oi := ⟨some 76, _, _, _, _, _⟩) (v := (.agg y.cells)) rfl (by kernel_rfl) (by kernel_rfl) (by kernel_rfl) (fun _ _ _ h => h) (yields_load (by rfl) 35 _ rfl g (o + j * 3) rfl y.cells _ (fun _ h => h.2) Tryd.underlying35 rfl (by kernel_rfl)) hHeld ?qtr11
              (try simp only [Act.put, List.setIfInBounds_toArray, List.set_cons_zero, List.set_cons_succ])
              refine wpAnyH_take (i := 12) (oi := ⟨some 77, _, _, _, _, _⟩) (v := (.bool !true)) rfl (by kernel_rfl) (by kernel_rfl) (by kernel_rfl) (fun _ _ _ h => h) (yields_neqV (by rfl) 35 _ _ _ rfl x.cells y.cells rfl rfl (by kernel_rfl) true HEQ.out) hHeld ?qtr12
              (try simp only [Act.put, List.setIfInBounds_toArray, List.set_cons_zero, List.set_cons_succ])
              refine wpAnyH_take (i := 13) (oi := ⟨some 78, _, _, _, _, _⟩) (v := ?qtv13) rfl (by kernel_rfl) (by kernel_rfl) (by kernel_rfl) (fun _ _ _ h => h) (Or.inl ⟨by rfl, ?qthy13⟩) hHeld ?qtr13
              case qthy13 => (intro w hSw; (try dsimp only at hSw); go_simp; (try with_reducible rfl))
              (try simp only [Act.put, List.setIfInBounds_toArray, List.set_cons_zero, List.set_cons_succ])
              refine wpAnyH_done (by kernel_rfl) ?qtdone _
              go_wp2_with fail
              go_roundw
              case rel => exact ⟨q + 1, by go_num, by omega, by rw [HN2.out], KN⟩
              case measure => simp [intOf]; omega
            · have HEQ : Hid (eqV Tryd.prog 10 35 (.agg x.cells) (.agg y.cells) = some false) := Lib.hid ((eq_raw x y).trans (by rw [decide_eq_false hyx]))
              have HN2 : Hid (chgS none (l.take (q + 1)) = cq + 1) := Lib.hid (by rw [HNX.out, if_neg (fun e => hyx e.symm)])
              clear hyx
              go_upto_region 17 with fail
              (try go_frame)
              replace KN := KN.drew
              refine wp_region_held_drew (S := (fun w' => w'.rangeAt g (o + q * 3) x.cells.toList ∧ w'.rangeAt g (o + j * 3) y.cells.toList)) (by kernel_rfl) ?quhS (fun hHeld => ?qurest)
              case quhS => exact KR.out _ KN
              refine wpAnyH_take (i := 0) (oi := ⟨some 65, _, _, _, _, _⟩) (v := ?quv0) rfl (by kernel_rfl) (by kernel_rfl) (by kernel_rfl) (fun _ _ _ h => h) (Or.inl ⟨by rfl, ?quhy0⟩) hHeld ?qur0
              case quhy0 => (intro w hSw; (try dsimp only at hSw); go_simp; (try with_reducible rfl))
              (try simp only [Act.put, List.setIfInBounds_toArray, List.set_cons_zero, List.set_cons_succ])
              refine wpAnyH_take (i := 1) (oi := ⟨some 66, _, _, _, _, _⟩) (v := ?quv1) rfl (by kernel_rfl) (by kernel_rfl) (by kernel_rfl) (fun _ _ _ h => h) (Or.inl ⟨by rfl, ?quhy1⟩) hHeld ?qur1
              case quhy1 => (intro w hSw; (try dsimp only at hSw); go_simp; (try with_reducible rfl))
              (try simp only [Act.put, List.setIfInBounds_toArray, List.set_cons_zero, List.set_cons_succ])
              refine wpAnyH_take (i := 2) (oi := ⟨some 67, _, _, _, _, _⟩) (v := ?quv2) rfl (by kernel_rfl) (by kernel_rfl) (by kernel_rfl) (fun _ _ _ h => h) (Or.inl ⟨by rfl, ?quhy2⟩) hHeld ?qur2
              case quhy2 => (intro w hSw; (try dsimp only at hSw); go_simp; (try with_reducible rfl))
              (try simp only [Act.put, List.setIfInBounds_toArray, List.set_cons_zero, List.set_cons_succ])
              refine wpAnyH_take (i := 3) (oi := ⟨some 68, _, _, _, _, _⟩) (v := ?quv3) rfl (by kernel_rfl) (by kernel_rfl) (by kernel_rfl) (fun _ _ _ h => h) (Or.inl ⟨by rfl, ?quhy3⟩) hHeld ?qur3
              case quhy3 => (intro w hSw; (try dsimp only at hSw); go_simp; (try with_reducible rfl))
              (try simp only [Act.put, List.setIfInBounds_toArray, List.set_cons_zero, List.set_cons_succ])
              refine wpAnyH_take (i := 4) (oi := ⟨some 69, _, _, _, _, _⟩) (v := ?quv4) rfl (by kernel_rfl) (by kernel_rfl) (by kernel_rfl) (fun _ _ _ h => h) (Or.inl ⟨by rfl, ?quhy4⟩) hHeld ?qur4
              case quhy4 => (intro w hSw; (try dsimp only at hSw); go_simp; (try with_reducible rfl))
              (try simp only [Act.put, List.setIfInBounds_toArray, List.set_cons_zero, List.set_cons_succ])
              refine wpAnyH_take (i := 5) (oi := ⟨some 70, _, _, _, _, _⟩) (v := (.pointer (some ⟨g, o + q * 3, none⟩))) rfl (by kernel_rfl) (by kernel_rfl) (by kernel_rfl) (fun _ _ _ h => h) (Or.inl ⟨by rfl, ?quhy5⟩) hHeld ?qur5
              case quhy5 => (intro w hSw; (try dsimp only at hSw); go_simp; (try rfl))
              (try simp only [Act.put, List.setIfInBounds_toArray, List.set_cons_zero, List.set_cons_succ])
              refine wpAnyH_take (i := 6) (oi := ⟨some 71, _, _, _, _, _⟩) (v := (.agg x.cells)) rfl (by kernel_rfl) (by kernel_rfl) (by kernel_rfl) (fun _ _ _ h => h) (yields_load (by rfl) 35 _ rfl g (o + q * 3) rfl x.cells _ (fun _ h => h.1) Tryd.underlying35 rfl (by kernel_rfl)) hHeld ?qur6
              (try simp only [Act.put, List.setIfInBounds_toArray, List.set_cons_zero, List.set_cons_succ])
              refine wpAnyH_take (i := 7) (oi := ⟨some 72, _, _, _, _, _⟩) (v := ?quv7) rfl (by kernel_rfl) (by kernel_rfl) (by kernel_rfl) (fun _ _ _ h => h) (Or.inl ⟨by rfl, ?quhy7⟩) hHeld ?qur7
              case quhy7 => (intro w hSw; (try dsimp only at hSw); go_simp; (try with_reducible rfl))
              (try simp only [Act.put, List.setIfInBounds_toArray, List.set_cons_zero, List.set_cons_succ])
              refine wpAnyH_take (i := 8) (oi := ⟨some 73, _, _, _, _, _⟩) (v := ?quv8) rfl (by kernel_rfl) (by kernel_rfl) (by kernel_rfl) (fun _ _ _ h => h) (Or.inl ⟨by rfl, ?quhy8⟩) hHeld ?qur8
              case quhy8 => (intro w hSw; (try dsimp only at hSw); go_simp; (try with_reducible rfl))
              (try simp only [Act.put, List.setIfInBounds_toArray, List.set_cons_zero, List.set_cons_succ])
              refine wpAnyH_take (i := 9) (oi := ⟨some 74, _, _, _, _, _⟩) (v := (.int .i64 (j : Int))) rfl (by kernel_rfl) (by kernel_rfl) (by kernel_rfl) (fun _ _ _ h => h) (Or.inl ⟨by rfl, ?quhy9⟩) hHeld ?qur9
              case quhy9 => (intro w hSw; (try dsimp only at hSw); go_simp; (try rfl))
              (try simp only [Act.put, List.setIfInBounds_toArray, List.set_cons_zero, List.set_cons_succ])
              refine wpAnyH_take (i := 10) (oi := ⟨some 75, _, _, _, _, _⟩) (v := (.pointer (some ⟨g, o + j * 3, none⟩))) rfl (by kernel_rfl) (by kernel_rfl) (by kernel_rfl) (fun _ _ _ h => h) (Or.inl ⟨by rfl, ?quhy10⟩) hHeld ?qur10
              case quhy10 => (intro w hSw; (try dsimp only at hSw); go_simp; (try rfl))
              (try simp only [Act.put, List.setIfInBounds_toArray, List.set_cons_zero, List.set_cons_succ])
              refine wpAnyH_take (i := 11) (oi := ⟨some 76, _, _, _, _, _⟩) (v := (.agg y.cells)) rfl (by kernel_rfl) (by kernel_rfl) (by kernel_rfl) (fun _ _ _ h => h) (yields_load (by rfl) 35 _ rfl g (o + j * 3) rfl y.cells _ (fun _ h => h.2) Tryd.underlying35 rfl (by kernel_rfl)) hHeld ?qur11
              (try simp only [Act.put, List.setIfInBounds_toArray, List.set_cons_zero, List.set_cons_succ])
              refine wpAnyH_take (i := 12) (oi := ⟨some 77, _, _, _, _, _⟩) (v := (.bool !false)) rfl (by kernel_rfl) (by kernel_rfl) (by kernel_rfl) (fun _ _ _ h => h) (yields_neqV (by rfl) 35 _ _ _ rfl x.cells y.cells rfl rfl (by kernel_rfl) false HEQ.out) hHeld ?qur12
              (try simp only [Act.put, List.setIfInBounds_toArray, List.set_cons_zero, List.set_cons_succ])
              refine wpAnyH_take (i := 13) (oi := ⟨some 78, _, _, _, _, _⟩) (v := ?quv13) rfl (by kernel_rfl) (by kernel_rfl) (by kernel_rfl) (fun _ _ _ h => h) (Or.inl ⟨by rfl, ?quhy13⟩) hHeld ?qur13
              case quhy13 => (intro w hSw; (try dsimp only at hSw); go_simp; (try with_reducible rfl))
              (try simp only [Act.put, List.setIfInBounds_toArray, List.set_cons_zero, List.set_cons_succ])
              refine wpAnyH_done (by kernel_rfl) ?qudone _
              go_wp2_with fail
              go_roundw
              case rel => exact ⟨q + 1, by go_num, by omega, by rw [HN2.out]; rfl, KN⟩
              case measure => simp [intOf]; omega
        · have hqe : cq = ch := by
            rw [HCQ.out, List.take_of_length_le (by rw [← HXN.out]; omega), HCH.out]
          subst hqe
          clear hq
          have e1 : ((cq : Int) == (cq : Int)) = true := beq_self_eq_true _
          have e2 : ((cq : Int) != (cq : Int)) = false := by simp
          obtain ⟨A, hA⟩ : ∃ A, A = (script s.data.toList).1 := ⟨_, rfl⟩
          obtain ⟨px, hpx⟩ : ∃ p, p = (script s.data.toList).2.1.1 := ⟨_, rfl⟩
          obtain ⟨py, hpy⟩ : ∃ p, p = (script s.data.toList).2.1.2 := ⟨_, rfl⟩
          obtain ⟨f, hf⟩ : ∃ p, p = (script s.data.toList).2.2 := ⟨_, rfl⟩
          have HSL : Hid (s.data.toList.length ≤ 2000) := Lib.hid (by rw [Array.length_toList]; show s.size ≤ 2000; omega)
          have HFA := Lib.hid (script_facts s.data.toList)
          have HAG := Lib.hid (again HSL.out)
          rw [← hA] at HAG
          rw [← hA, ← hf] at HFA
          have HP2 := Lib.hid (fun w0 => ParseScript_any s w0 HS.out)
          unfold ScriptOut at HP2
          rw [← hA, ← hpx, ← hpy, ← hf] at HP2
          clear hA hpx hpy hf
          go_upto_region 19 with fail
          (try go_frame)
          go_upto_region 20 with (first | (go_at_call 6; refine (HP2.out _).mono ?_; rintro e w4 ⟨v4, ol4, rfl, OW, K2⟩; have HX4 := Lib.hid (OW.row (f := fun o => o) K2 .id); obtain ⟨pa, pn, pc, rfl, hpn⟩ := OW.form4; rw [List.length_map] at hpn; have HPN := Lib.hid hpn; have HB4 := Lib.hid (KN.below K2.toBelow).toBelow; clear KN OW K2 hpn; have KN := Kn.start w4) | ((with_reducible refine wpList_gate ?_); first | ((with_reducible refine gate_load ?_ ?_); rfl; first | (refine ks_loadW KN 35 Tryd.underlying35 ?_)) | ((with_reducible refine gate_store ?_ ?_); rfl; first | (refine ks_storeW KN 25 ?_; clear KN; intro wx KN) | (refine ks_storeA KN 25 ?_; clear KN; intro wx KN)) | ((with_reducible refine gate_new ?_ ?_); rfl; first | (refine ks_alloc KN 25 (q := 8) #[.int .i64 0, .int .i64 0] ?_; clear KN; intro g8 wx hg8 KN) | (refine ks_alloc KN 25 (q := 15) #[.int .i64 0, .int .i64 0] ?_; clear KN; intro g15 wx hg15 KN) | (refine ks_alloc KN 25 (q := 18) #[.int .i64 0, .int .i64 0] ?_; clear KN; intro g18 wx hg18 KN))))
          (try go_frame)
          rw [raw_of_ev] at HX4
          by_cases hf : f = 0
          · have f1 : (f == 0) = true := beq_iff_eq.2 hf
            have f2 : (f != 0) = false := by simp [hf]
            clear hf
            obtain ⟨u2, hu2⟩ : ∃ q, q = str (fmtR (A.map Ev.raw)) := ⟨_, rfl⟩
            have HU2 := Lib.hid hu2
            have HP3 := Lib.hid (fun w0 => ParseScript_any u2 w0 (by
              have h1 := fmt_size HFA.out.1.1 (by rw [List.length_map]; exact HFA.out.1.2.2)
              have h2 := HFA.out.1.2.1
              have h3 := HSL.out
              rw [hu2]
              show (fmtR (A.map Ev.raw)).toArray.size ≤ maxLen
              rw [List.size_toArray]
              unfold maxLen
              omega))
            unfold ScriptOut at HP3
            rw [hu2, data_str, HAG.out] at HP3
            dsimp only at HP3
            clear hu2
            go_upto_region 23 with (first | (go_at_call 9; refine (FormatScript_any _ (A.map Ev.raw) _ (HX4.out.below KN.toBelow) (by rw [List.length_map]; exact HFA.out.1.2.2) (((((HPW.out.below HB1.out).below HB2.out).below HB3.out).below HB4.out).below KN.toBelow)).mono ?_; rintro e wx ⟨rfl, hb⟩; replace KN := KN.below hb; clear hb) | (go_at_call 6; refine (HP3.out _).mono ?_; rintro e w5 ⟨v5, ol5, rfl, OW, K2⟩; have HX5 := Lib.hid (OW.row (f := fun o => o) K2 .id); obtain ⟨ta, tn, tc, rfl⟩ := OW.form3; have HB5 := Lib.hid (KN.below K2.toBelow).toBelow; clear KN OW K2; have KN := Kn.start w5) | ((with_reducible refine wpList_gate ?_); first | ((with_reducible refine gate_load ?_ ?_); rfl; first | (refine ks_loadW KN 35 Tryd.underlying35 ?_)) | ((with_reducible refine gate_store ?_ ?_); rfl; first | (refine ks_storeW KN 25 ?_; clear KN; intro wx KN) | (refine ks_storeA KN 25 ?_; clear KN; intro wx KN)) | ((with_reducible refine gate_new ?_ ?_); rfl; first | (refine ks_alloc KN 25 (q := 8) #[.int .i64 0, .int .i64 0] ?_; clear KN; intro g8 wx hg8 KN) | (refine ks_alloc KN 25 (q := 15) #[.int .i64 0, .int .i64 0] ?_; clear KN; intro g15 wx hg15 KN) | (refine ks_alloc KN 25 (q := 18) #[.int .i64 0, .int .i64 0] ?_; clear KN; intro g18 wx hg18 KN))))
            (try go_frame)
            rw [raw_of_ev] at HX5
            go_wp2_with (first | (go_at_call 8; refine (same40_eq _ _ (A.map Ev.raw) _ ((HX4.out.below HB5.out).below KN.toBelow) (HX5.out.below KN.toBelow)).mono ?_; rintro e wx ⟨rfl, hb⟩; replace KN := KN.below hb; clear hb) | (go_at_call 5; refine (awake40_any _ ((((((HPW.out.below HB1.out).below HB2.out).below HB3.out).below HB4.out).below HB5.out).below KN.toBelow)).mono ?_; rintro e wx ⟨rfl, hb⟩; replace KN := KN.below hb; clear hb) | ((with_reducible refine wpList_gate ?_); first | ((with_reducible refine gate_load ?_ ?_); rfl; first | (refine ks_loadW KN 35 Tryd.underlying35 ?_)) | ((with_reducible refine gate_store ?_ ?_); rfl; first | (refine ks_storeW KN 25 ?_; clear KN; intro wx KN) | (refine ks_storeA KN 25 ?_; clear KN; intro wx KN)) | ((with_reducible refine gate_new ?_ ?_); rfl; first | (refine ks_alloc KN 25 (q := 8) #[.int .i64 0, .int .i64 0] ?_; clear KN; intro g8 wx hg8 KN) | (refine ks_alloc KN 25 (q := 15) #[.int .i64 0, .int .i64 0] ?_; clear KN; intro g15 wx hg15 KN) | (refine ks_alloc KN 25 (q := 18) #[.int .i64 0, .int .i64 0] ?_; clear KN; intro g18 wx hg18 KN))))
            go_ret
            exact ⟨rfl, HB1.out.trans ((HB2.out.trans ((HB3.out.trans ((HB4.out.trans ((HB5.out.trans (KN.toBelow.mono HB5.out.size)).mono HB4.out.size)).mono HB3.out.size)).mono HB2.out.size)).mono HB1.out.size)⟩
          · have f1 : (f == 0) = false := beq_eq_false_iff_ne.2 hf
            have f2 : (f != 0) = true := by simp [hf]
            have hpn : pn = 0 := by rw [HPN.out, HFA.out.2 hf]; rfl
            subst hpn
            clear hf
            go_wp2_with (first | (go_at_call 5; refine (awake40_any _ (((((HPW.out.below HB1.out).below HB2.out).below HB3.out).below HB4.out).below KN.toBelow)).mono ?_; rintro e wx ⟨rfl, hb⟩; replace KN := KN.below hb; clear hb) | ((with_reducible refine wpList_gate ?_); first | ((with_reducible refine gate_load ?_ ?_); rfl; first | (refine ks_loadW KN 35 Tryd.underlying35 ?_)) | ((with_reducible refine gate_store ?_ ?_); rfl; first | (refine ks_storeW KN 25 ?_; clear KN; intro wx KN) | (refine ks_storeA KN 25 ?_; clear KN; intro wx KN)) | ((with_reducible refine gate_new ?_ ?_); rfl; first | (refine ks_alloc KN 25 (q := 8) #[.int .i64 0, .int .i64 0] ?_; clear KN; intro g8 wx hg8 KN) | (refine ks_alloc KN 25 (q := 15) #[.int .i64 0, .int .i64 0] ?_; clear KN; intro g15 wx hg15 KN) | (refine ks_alloc KN 25 (q := 18) #[.int .i64 0, .int .i64 0] ?_; clear KN; intro g18 wx hg18 KN))))
            go_ret
            exact ⟨rfl, HB1.out.trans ((HB2.out.trans ((HB3.out.trans ((HB4.out.trans (KN.toBelow.mono HB4.out.size)).mono HB3.out.size)).mono HB2.out.size)).mono HB1.out.size)⟩
end Go.Proofs.YtgeeklgojjcdmaaDoor
