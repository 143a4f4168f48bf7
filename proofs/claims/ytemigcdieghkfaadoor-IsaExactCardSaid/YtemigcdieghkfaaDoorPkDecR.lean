/- The reference's Decode. -/
import Derived.Test.YtemigcdieghkfaaDoorPkDec
import Derived.Test.YtemigcdieghkfaaDoorPkRefVal2
set_option linter.unusedVariables false
set_option linter.unusedSimpArgs false
set_option linter.unusedSectionVars false
namespace Go.Proofs.YtemigcdieghkfaaDoor
open Go.RowKit Go.BigFrame

set_option maxRecDepth 100000 in
set_option maxHeartbeats 40000000 in
theorem RDecode_any (va : Value) (zs : List Int) (w : World) (h : U8s w va zs) (hmax : zs.length ≤ 100000) : Calls Tryd.prog 19 #[va] w (DecPost zs w) := by
  have KN := Kn.start w
  obtain ⟨a, c, rfl, hm, _⟩ := h.form
  have H := Lib.hid h
  obtain ⟨n, hn⟩ : ∃ n, n = zs.length := ⟨_, rfl⟩
  have HN := Lib.hid hn
  rw [← hn] at hm hmax ⊢
  unfold maxLen at hm
  clear h hn
  by_cases h8 : n % 8 = 0
  · have hbig : n ≤ 100000 := hmax
    obtain ⟨m, hnm⟩ : ∃ m, n = 8 * m := ⟨n / 8, by omega⟩
    have HNM := Lib.hid hnm
    have ht : (n : Int).tmod 8 = 0 := by rw [Int.tmod_eq_emod_of_nonneg (by omega)]; omega
    clear h8 hnm
    go_enter Tryd.func19, Tryd.ntmps19
    go_wp2_with (first | ((with_reducible refine wpList_gate ?_); first | ((refine gate_load (by rfl) ?_); first | (refine wpList_kn_load1 KN (by rfl) 5 _ rfl _ _ rfl _ _ (by repeat (first | exact Has.here | refine Has.there ?_)) _ (by (repeat (first | ((with_reducible refine get_hit ?_); exact Nat.le_of_ble_eq_true (by kernel_rfl)) | ((with_reducible refine (get_miss ?_).trans ?_); (focus kernel_rfl)) | ((with_reducible refine (get_pmiss ?_).trans ?_); (focus kernel_rfl)))); all_goals (conv => lhs; whnf; arg 1; whnf)) _ Tryd.underlying5 rfl ?_))))
    have HREL : Hid (DecRel zs n w (.slice none 0 0) (.int .i64 0) w) := Lib.hid ⟨0, [], rfl, Nat.zero_le _, .nil, KN⟩
    clear KN
    go_loopw [4, 5] (fun v i wr => DecRel zs n w v i wr) (fun _ i _ => n - (intOf i).toNat)
    case atStart => exact HREL.out
    case round =>
      obtain ⟨k, ol, rfl, hk, OW, KN⟩ := hrel
      obtain ⟨o, ho⟩ : ∃ o, o = 8 * k := ⟨_, rfl⟩
      rw [← ho]
      have HOK := Lib.hid ho
      clear ho
      by_cases hlt : o < n
      · have hlt7 : o + 7 < n := by have := HOK.out; have := HNM.out; omega
        have hU := H.out.below KN.toBelow
        obtain ⟨a', c', hv, _, hcells⟩ := H.out.form
        simp only [Value.slice.injEq] at hv
        have g0 := getD_get (zs := zs) (i := o) (by rw [← HN.out]; omega)
        have g1 := getD_get (zs := zs) (i := o + 1) (by rw [← HN.out]; omega)
        have g2 := getD_get (zs := zs) (i := o + 2) (by rw [← HN.out]; omega)
        have g3 := getD_get (zs := zs) (i := o + 3) (by rw [← HN.out]; omega)
        have hu := refUint4 (w := wr) hU (o + 4) (by rw [← HN.out]; omega) (getD_get (zs := zs) (i := o + 4) (by rw [← HN.out]; omega)) (getD_get (zs := zs) (i := o + 4 + 1) (by rw [← HN.out]; omega)) (getD_get (zs := zs) (i := o + 4 + 2) (by rw [← HN.out]; omega)) (getD_get (zs := zs) (i := o + 4 + 3) (by rw [← HN.out]; omega))
        rw [← HN.out, show ((o + 4 : Nat) : Int) = (o : Int) + 4 from by omega] at hu
        obtain ⟨gb, off, ha, hgb, hc1, hc2, c0⟩ := hcells _ _ g0
        obtain ⟨gb1, off1, ha1, _, _, _, c1⟩ := hcells _ _ g1
        obtain ⟨gb2, off2, ha2, _, _, _, c2⟩ := hcells _ _ g2
        obtain ⟨gb3, off3, ha3, _, _, _, c3⟩ := hcells _ _ g3
        obtain ⟨rfl, _, rfl⟩ := hv
        subst ha
        cases ha1; cases ha2; cases ha3
        have bo := H.out.2
        have b0 := BytesOk.getD bo o
        have b1 := BytesOk.getD bo (o + 1)
        have b2 := BytesOk.getD bo (o + 2)
        have b3 := BytesOk.getD bo (o + 3)
        obtain ⟨x0, hx0⟩ : ∃ x, x = zs.getD o 0 := ⟨_, rfl⟩
        obtain ⟨x1, hx1⟩ : ∃ x, x = zs.getD (o + 1) 0 := ⟨_, rfl⟩
        obtain ⟨x2, hx2⟩ : ∃ x, x = zs.getD (o + 2) 0 := ⟨_, rfl⟩
        obtain ⟨x3, hx3⟩ : ∃ x, x = zs.getD (o + 3) 0 := ⟨_, rfl⟩
        obtain ⟨xv, hxv⟩ : ∃ x, x = zs.getD (o + 4) 0 + 256 * zs.getD (o + 4 + 1) 0 + 65536 * zs.getD (o + 4 + 2) 0 + 16777216 * zs.getD (o + 4 + 3) 0 := ⟨_, rfl⟩
        have wu : IntKind.u32.wrap xv = xv := by
          have b4 := BytesOk.getD bo (o + 4)
          have b5 := BytesOk.getD bo (o + 4 + 1)
          have b6 := BytesOk.getD bo (o + 4 + 2)
          have b7 := BytesOk.getD bo (o + 4 + 3)
          rw [IntKind.wrap_u32, hxv]; omega
        rw [← hx0] at c0 b0
        rw [← hx1] at c1 b1
        rw [← hx2] at c2 b2
        rw [← hx3] at c3 b3
        rw [← hxv] at hu
        have HU := Lib.hid hu
        have HO := Lib.hid OW
        have hX : decAt zs o = ⟨IntKind.i64.wrap x0, IntKind.i64.wrap x1, IntKind.i64.wrap x2, IntKind.i64.wrap x3, IntKind.i32.wrap xv⟩ := by
          rw [IntKind.wrap_i64, IntKind.wrap_i64, IntKind.wrap_i64, IntKind.wrap_i64, i32_wrap, show (x0 + 9223372036854775808) % 18446744073709551616 - 9223372036854775808 = x0 by omega, show (x1 + 9223372036854775808) % 18446744073709551616 - 9223372036854775808 = x1 by omega, show (x2 + 9223372036854775808) % 18446744073709551616 - 9223372036854775808 = x2 by omega, show (x3 + 9223372036854775808) % 18446744073709551616 - 9223372036854775808 = x3 by omega, hx0, hx1, hx2, hx3, hxv]; rfl
        have HX := Lib.hid hX
        have hol : ((decL zs k).map fun x => x.cells.toList).length = k := by rw [List.length_map, decL_len]
        obtain ⟨va, vc, hva⟩ := OW.form
        rw [hol] at hva
        subst hva
        have HOL := Lib.hid hol
        clear hu OW hX hx0 hx1 hx2 hx3 hxv g0 g1 g2 g3 hcells hU bo hol hc1
        unfold maxLen at hc2
        go_upto_region 8 with (first | (go_at_call 50; refine HU.out.mono ?_; rintro e w' ⟨rfl, rfl⟩) | ((with_reducible refine wpList_gate ?_); first | ((refine gate_load (by rfl) ?_); first | (refine wpList_kn_load1 KN (by rfl) 5 _ rfl _ _ rfl _ _ (by repeat (first | exact Has.here | refine Has.there ?_)) _ (by (repeat (first | ((with_reducible refine get_hit ?_); exact Nat.le_of_ble_eq_true (by kernel_rfl)) | ((with_reducible refine (get_miss ?_).trans ?_); (focus kernel_rfl)) | ((with_reducible refine (get_pmiss ?_).trans ?_); (focus kernel_rfl)))); all_goals (conv => lhs; whnf; arg 1; whnf)) _ Tryd.underlying5 rfl ?_))))
        obtain ⟨y, hy⟩ : ∃ y : Ins, y = ⟨IntKind.i64.wrap x0, IntKind.i64.wrap x1, IntKind.i64.wrap x2, IntKind.i64.wrap x3, IntKind.i32.wrap xv⟩ := ⟨_, rfl⟩
        obtain ⟨o1, ho1⟩ : ∃ o1, o1 = o + 1 := ⟨_, rfl⟩
        obtain ⟨o2, ho2⟩ : ∃ o2, o2 = o + 2 := ⟨_, rfl⟩
        obtain ⟨o3, ho3⟩ : ∃ o3, o3 = o + 3 := ⟨_, rfl⟩
        rw [← ho1] at c1
        rw [← ho2] at c2
        rw [← ho3] at c3
        have w1 : IntKind.i64.wrap ((o : Int) + 1) = (o1 : Int) := by rw [IntKind.wrap_i64]; omega
        have w2 : IntKind.i64.wrap ((o : Int) + 2) = (o2 : Int) := by rw [IntKind.wrap_i64]; omega
        have w3 : IntKind.i64.wrap ((o : Int) + 3) = (o3 : Int) := by rw [IntKind.wrap_i64]; omega
        have l0 : (o : Int) < (n : Int) := by omega
        have l1 : (o1 : Int) < (n : Int) := by omega
        have l2 : (o2 : Int) < (n : Int) := by omega
        have l3 : (o3 : Int) < (n : Int) := by omega
        clear ho1 ho2 ho3 hlt7
        replace KN := KN.drew
        have kr : ∀ (wz : World) (lz : Ents), Kn [] w wz lz → wz.cell? ⟨gb, off + o, none⟩ = some (.int .u8 x0) ∧ wz.cell? ⟨gb, off + o1, none⟩ = some (.int .u8 x1) ∧ wz.cell? ⟨gb, off + o2, none⟩ = some (.int .u8 x2) ∧ wz.cell? ⟨gb, off + o3, none⟩ = some (.int .u8 x3) := fun _ _ K => ⟨(K.old hgb (by simp)).trans c0, (K.old hgb (by simp)).trans c1, (K.old hgb (by simp)).trans c2, (K.old hgb (by simp)).trans c3⟩
        have KR := Lib.hid kr
        clear kr c0 c1 c2 c3
        refine wp_region_held_drew (S := (fun w' => w'.cell? ⟨gb, off + o, none⟩ = some (.int .u8 x0) ∧ w'.cell? ⟨gb, off + o1, none⟩ = some (.int .u8 x1) ∧ w'.cell? ⟨gb, off + o2, none⟩ = some (.int .u8 x2) ∧ w'.cell? ⟨gb, off + o3, none⟩ = some (.int .u8 x3))) (by kernel_rfl) ?qdhS (fun hHeld => ?qdrest)
        case qdhS => exact KR.out _ _ KN
        refine wpAnyH_take (i := 0) (oi := ⟨some 26, _, _, _, _, _⟩) (v := ?qdv0) rfl (by kernel_rfl) (by kernel_rfl) (by kernel_rfl) (fun _ _ _ h => h) (Or.inl ⟨by rfl, ?qdhy0⟩) hHeld ?qdr0
        case qdhy0 => (intro w hSw; (try dsimp only at hSw); go_simp; (try with_reducible rfl))
        (try simp only [Act.put, List.setIfInBounds_toArray, List.set_cons_zero, List.set_cons_succ])
        refine wpAnyH_take (i := 1) (oi := ⟨some 27, _, _, _, _, _⟩) (v := ?qdv1) rfl (by kernel_rfl) (by kernel_rfl) (by kernel_rfl) (fun _ _ _ h => h) (Or.inl ⟨by rfl, ?qdhy1⟩) hHeld ?qdr1
        case qdhy1 => (intro w hSw; (try dsimp only at hSw); go_simp; (try with_reducible rfl))
        (try simp only [Act.put, List.setIfInBounds_toArray, List.set_cons_zero, List.set_cons_succ])
        refine wpAnyH_take (i := 2) (oi := ⟨some 28, _, _, _, _, _⟩) (v := ?qdv2) rfl (by kernel_rfl) (by kernel_rfl) (by kernel_rfl) (fun _ _ _ h => h) (Or.inl ⟨by rfl, ?qdhy2⟩) hHeld ?qdr2
        case qdhy2 => (intro w hSw; (try dsimp only at hSw); go_simp; (try with_reducible rfl))
        (try simp only [Act.put, List.setIfInBounds_toArray, List.set_cons_zero, List.set_cons_succ])
        refine wpAnyH_take (i := 3) (oi := ⟨some 29, _, _, _, _, _⟩) (v := (.pointer (some ⟨gb, off + o, none⟩))) rfl (by kernel_rfl) (by kernel_rfl) (by kernel_rfl) (fun _ _ _ h => h) (Or.inl ⟨by rfl, ?qdhy3⟩) hHeld ?qdr3
        case qdhy3 => (intro w hSw; (try dsimp only at hSw); go_simp; (try rfl))
        (try simp only [Act.put, List.setIfInBounds_toArray, List.set_cons_zero, List.set_cons_succ])
        refine wpAnyH_take (i := 4) (oi := ⟨some 30, _, _, _, _, _⟩) (v := (.int .u8 x0)) rfl (by kernel_rfl) (by kernel_rfl) (by kernel_rfl) (fun _ _ _ h => h) (kn_yields_cell (by rfl) 5 _ rfl gb (off + o) rfl _ (fun _ h => h.1) _ Tryd.underlying5 rfl) hHeld ?qdr4
        (try simp only [Act.put, List.setIfInBounds_toArray, List.set_cons_zero, List.set_cons_succ])
        refine wpAnyH_take (i := 5) (oi := ⟨some 31, _, _, _, _, _⟩) (v := (.int .i64 (IntKind.i64.wrap x0))) rfl (by kernel_rfl) (by kernel_rfl) (by kernel_rfl) (fun _ _ _ h => h) (Or.inl ⟨by rfl, ?qdhy5⟩) hHeld ?qdr5
        case qdhy5 => (intro w hSw; (try dsimp only at hSw); go_simp; (try rfl))
        (try simp only [Act.put, List.setIfInBounds_toArray, List.set_cons_zero, List.set_cons_succ])
        refine wpAnyH_take (i := 6) (oi := ⟨some 32, _, _, _, _, _⟩) (v := ?qdv6) rfl (by kernel_rfl) (by kernel_rfl) (by kernel_rfl) (fun _ _ _ h => h) (Or.inl ⟨by rfl, ?qdhy6⟩) hHeld ?qdr6
        case qdhy6 => (intro w hSw; (try dsimp only at hSw); go_simp; (try with_reducible rfl))
        (try simp only [Act.put, List.setIfInBounds_toArray, List.set_cons_zero, List.set_cons_succ])
        refine wpAnyH_take (i := 7) (oi := ⟨some 33, _, _, _, _, _⟩) (v := ?qdv7) rfl (by kernel_rfl) (by kernel_rfl) (by kernel_rfl) (fun _ _ _ h => h) (Or.inl ⟨by rfl, ?qdhy7⟩) hHeld ?qdr7
        case qdhy7 => (intro w hSw; (try dsimp only at hSw); go_simp; (try with_reducible rfl))
        (try simp only [Act.put, List.setIfInBounds_toArray, List.set_cons_zero, List.set_cons_succ])
        refine wpAnyH_take (i := 8) (oi := ⟨some 34, _, _, _, _, _⟩) (v := (.int .i64 (o1 : Int))) rfl (by kernel_rfl) (by kernel_rfl) (by kernel_rfl) (fun _ _ _ h => h) (Or.inl ⟨by rfl, ?qdhy8⟩) hHeld ?qdr8
        case qdhy8 => (intro w hSw; (try dsimp only at hSw); go_simp; (try rfl))
        (try simp only [Act.put, List.setIfInBounds_toArray, List.set_cons_zero, List.set_cons_succ])
        refine wpAnyH_take (i := 9) (oi := ⟨some 35, _, _, _, _, _⟩) (v := (.pointer (some ⟨gb, off + o1, none⟩))) rfl (by kernel_rfl) (by kernel_rfl) (by kernel_rfl) (fun _ _ _ h => h) (Or.inl ⟨by rfl, ?qdhy9⟩) hHeld ?qdr9
        case qdhy9 => (intro w hSw; (try dsimp only at hSw); go_simp; (try rfl))
        (try simp only [Act.put, List.setIfInBounds_toArray, List.set_cons_zero, List.set_cons_succ])
        refine wpAnyH_take (i := 10) (oi := ⟨some 36, _, _, _, _, _⟩) (v := (.int .u8 x1)) rfl (by kernel_rfl) (by kernel_rfl) (by kernel_rfl) (fun _ _ _ h => h) (kn_yields_cell (by rfl) 5 _ rfl gb (off + o1) rfl _ (fun _ h => h.2.1) _ Tryd.underlying5 rfl) hHeld ?qdr10
        (try simp only [Act.put, List.setIfInBounds_toArray, List.set_cons_zero, List.set_cons_succ])
        refine wpAnyH_take (i := 11) (oi := ⟨some 37, _, _, _, _, _⟩) (v := (.int .i64 (IntKind.i64.wrap x1))) rfl (by kernel_rfl) (by kernel_rfl) (by kernel_rfl) (fun _ _ _ h => h) (Or.inl ⟨by rfl, ?qdhy11⟩) hHeld ?qdr11
        case qdhy11 => (intro w hSw; (try dsimp only at hSw); go_simp; (try rfl))
        (try simp only [Act.put, List.setIfInBounds_toArray, List.set_cons_zero, List.set_cons_succ])
        refine wpAnyH_take (i := 12) (oi := ⟨some 38, _, _, _, _, _⟩) (v := ?qdv12) rfl (by kernel_rfl) (by kernel_rfl) (by kernel_rfl) (fun _ _ _ h => h) (Or.inl ⟨by rfl, ?qdhy12⟩) hHeld ?qdr12
        case qdhy12 => (intro w hSw; (try dsimp only at hSw); go_simp; (try with_reducible rfl))
        (try simp only [Act.put, List.setIfInBounds_toArray, List.set_cons_zero, List.set_cons_succ])
        refine wpAnyH_take (i := 13) (oi := ⟨some 39, _, _, _, _, _⟩) (v := ?qdv13) rfl (by kernel_rfl) (by kernel_rfl) (by kernel_rfl) (fun _ _ _ h => h) (Or.inl ⟨by rfl, ?qdhy13⟩) hHeld ?qdr13
        case qdhy13 => (intro w hSw; (try dsimp only at hSw); go_simp; (try with_reducible rfl))
        (try simp only [Act.put, List.setIfInBounds_toArray, List.set_cons_zero, List.set_cons_succ])
        refine wpAnyH_take (i := 14) (oi := ⟨some 40, _, _, _, _, _⟩) (v := (.int .i64 (o2 : Int))) rfl (by kernel_rfl) (by kernel_rfl) (by kernel_rfl) (fun _ _ _ h => h) (Or.inl ⟨by rfl, ?qdhy14⟩) hHeld ?qdr14
        case qdhy14 => (intro w hSw; (try dsimp only at hSw); go_simp; (try rfl))
        (try simp only [Act.put, List.setIfInBounds_toArray, List.set_cons_zero, List.set_cons_succ])
        refine wpAnyH_take (i := 15) (oi := ⟨some 41, _, _, _, _, _⟩) (v := (.pointer (some ⟨gb, off + o2, none⟩))) rfl (by kernel_rfl) (by kernel_rfl) (by kernel_rfl) (fun _ _ _ h => h) (Or.inl ⟨by rfl, ?qdhy15⟩) hHeld ?qdr15
        case qdhy15 => (intro w hSw; (try dsimp only at hSw); go_simp; (try rfl))
        (try simp only [Act.put, List.setIfInBounds_toArray, List.set_cons_zero, List.set_cons_succ])
        refine wpAnyH_take (i := 16) (oi := ⟨some 42, _, _, _, _, _⟩) (v := (.int .u8 x2)) rfl (by kernel_rfl) (by kernel_rfl) (by kernel_rfl) (fun _ _ _ h => h) (kn_yields_cell (by rfl) 5 _ rfl gb (off + o2) rfl _ (fun _ h => h.2.2.1) _ Tryd.underlying5 rfl) hHeld ?qdr16
        (try simp only [Act.put, List.setIfInBounds_toArray, List.set_cons_zero, List.set_cons_succ])
        refine wpAnyH_take (i := 17) (oi := ⟨some 43, _, _, _, _, _⟩) (v := (.int .i64 (IntKind.i64.wrap x2))) rfl (by kernel_rfl) (by kernel_rfl) (by kernel_rfl) (fun _ _ _ h => h) (Or.inl ⟨by rfl, ?qdhy17⟩) hHeld ?qdr17
        case qdhy17 => (intro w hSw; (try dsimp only at hSw); go_simp; (try rfl))
        (try simp only [Act.put, List.setIfInBounds_toArray, List.set_cons_zero, List.set_cons_succ])
        refine wpAnyH_take (i := 18) (oi := ⟨some 44, _, _, _, _, _⟩) (v := ?qdv18) rfl (by kernel_rfl) (by kernel_rfl) (by kernel_rfl) (fun _ _ _ h => h) (Or.inl ⟨by rfl, ?qdhy18⟩) hHeld ?qdr18
        case qdhy18 => (intro w hSw; (try dsimp only at hSw); go_simp; (try with_reducible rfl))
        (try simp only [Act.put, List.setIfInBounds_toArray, List.set_cons_zero, List.set_cons_succ])
        refine wpAnyH_take (i := 19) (oi := ⟨some 45, _, _, _, _, _⟩) (v := ?qdv19) rfl (by kernel_rfl) (by kernel_rfl) (by kernel_rfl) (fun _ _ _ h => h) (Or.inl ⟨by rfl, ?qdhy19⟩) hHeld ?qdr19
        case qdhy19 => (intro w hSw; (try dsimp only at hSw); go_simp; (try with_reducible rfl))
        (try simp only [Act.put, List.setIfInBounds_toArray, List.set_cons_zero, List.set_cons_succ])
        refine wpAnyH_take (i := 20) (oi := ⟨some 46, _, _, _, _, _⟩) (v := (.int .i64 (o3 : Int))) rfl (by kernel_rfl) (by kernel_rfl) (by kernel_rfl) (fun _ _ _ h => h) (Or.inl ⟨by rfl, ?qdhy20⟩) hHeld ?qdr20
        case qdhy20 => (intro w hSw; (try dsimp only at hSw); go_simp; (try rfl))
        (try simp only [Act.put, List.setIfInBounds_toArray, List.set_cons_zero, List.set_cons_succ])
        refine wpAnyH_take (i := 21) (oi := ⟨some 47, _, _, _, _, _⟩) (v := (.pointer (some ⟨gb, off + o3, none⟩))) rfl (by kernel_rfl) (by kernel_rfl) (by kernel_rfl) (fun _ _ _ h => h) (Or.inl ⟨by rfl, ?qdhy21⟩) hHeld ?qdr21
        case qdhy21 => (intro w hSw; (try dsimp only at hSw); go_simp; (try rfl))
        (try simp only [Act.put, List.setIfInBounds_toArray, List.set_cons_zero, List.set_cons_succ])
        refine wpAnyH_take (i := 22) (oi := ⟨some 48, _, _, _, _, _⟩) (v := (.int .u8 x3)) rfl (by kernel_rfl) (by kernel_rfl) (by kernel_rfl) (fun _ _ _ h => h) (kn_yields_cell (by rfl) 5 _ rfl gb (off + o3) rfl _ (fun _ h => h.2.2.2) _ Tryd.underlying5 rfl) hHeld ?qdr22
        (try simp only [Act.put, List.setIfInBounds_toArray, List.set_cons_zero, List.set_cons_succ])
        refine wpAnyH_take (i := 23) (oi := ⟨some 49, _, _, _, _, _⟩) (v := (.int .i64 (IntKind.i64.wrap x3))) rfl (by kernel_rfl) (by kernel_rfl) (by kernel_rfl) (fun _ _ _ h => h) (Or.inl ⟨by rfl, ?qdhy23⟩) hHeld ?qdr23
        case qdhy23 => (intro w hSw; (try dsimp only at hSw); go_simp; (try rfl))
        (try simp only [Act.put, List.setIfInBounds_toArray, List.set_cons_zero, List.set_cons_succ])
        refine wpAnyH_take (i := 24) (oi := ⟨some 50, _, _, _, _, _⟩) (v := ?qdv24) rfl (by kernel_rfl) (by kernel_rfl) (by kernel_rfl) (fun _ _ _ h => h) (Or.inl ⟨by rfl, ?qdhy24⟩) hHeld ?qdr24
        case qdhy24 => (intro w hSw; (try dsimp only at hSw); go_simp; (try with_reducible rfl))
        (try simp only [Act.put, List.setIfInBounds_toArray, List.set_cons_zero, List.set_cons_succ])
        refine wpAnyH_take (i := 25) (oi := ⟨some 51, _, _, _, _, _⟩) (v := (.int .u32 xv)) rfl (by kernel_rfl) (by kernel_rfl) (by kernel_rfl) (fun _ _ _ h => h) (Or.inl ⟨by rfl, ?qdhy25⟩) hHeld ?qdr25
        case qdhy25 => (intro w hSw; (try dsimp only at hSw); go_simp; (try rfl))
        (try simp only [Act.put, List.setIfInBounds_toArray, List.set_cons_zero, List.set_cons_succ])
        refine wpAnyH_take (i := 26) (oi := ⟨some 52, _, _, _, _, _⟩) (v := (.int .i32 (IntKind.i32.wrap xv))) rfl (by kernel_rfl) (by kernel_rfl) (by kernel_rfl) (fun _ _ _ h => h) (Or.inl ⟨by rfl, ?qdhy26⟩) hHeld ?qdr26
        case qdhy26 => (intro w hSw; (try dsimp only at hSw); go_simp; (try rfl))
        (try simp only [Act.put, List.setIfInBounds_toArray, List.set_cons_zero, List.set_cons_succ])
        refine wpAnyH_take (i := 27) (oi := ⟨some 53, _, _, _, _, _⟩) (v := (.agg (Ins.mk (IntKind.i64.wrap x0) (IntKind.i64.wrap x1) (IntKind.i64.wrap x2) (IntKind.i64.wrap x3) (IntKind.i32.wrap xv)).cells)) rfl (by kernel_rfl) (by kernel_rfl) (by kernel_rfl) (fun _ _ _ h => h) (Or.inl ⟨by rfl, ?qdhy27⟩) hHeld ?qdr27
        case qdhy27 => (intro w hSw; (try dsimp only at hSw); go_simp; (try rfl))
        (try simp only [Act.put, List.setIfInBounds_toArray, List.set_cons_zero, List.set_cons_succ])
        refine wpAnyH_ready (rs := [28]) (by kernel_rfl) (by simp) ?qdc28
        refine AllReadyH.cons (o := ⟨some 54, _, _, _, _, _⟩) rfl (fun K hK => ?qdst28) AllReadyH.nil
        (rw [if_pos (by rfl)]; refine wp_kn_lit KN 23 35 1 _ rfl 54 rfl Tryd.underlying23 (Ins.mk (IntKind.i64.wrap x0) (IntKind.i64.wrap x1) (IntKind.i64.wrap x2) (IntKind.i64.wrap x3) (IntKind.i32.wrap xv)).cells (by kernel_rfl) ?_; clear KN; intro g54 wx hg54 KN)
        refine hK.out _ _ ?qdk28 (fun hHeld2 => ?qdm28)
        case qdk28 => exact KR.out _ _ KN
        clear hK K hHeld
        have hHeld := hHeld2; clear hHeld2
        (try simp only [Act.put, List.setIfInBounds_toArray, List.set_cons_zero, List.set_cons_succ])
        refine wpAnyH_ready (rs := [29]) (by kernel_rfl) (by simp) ?qdc29
        refine AllReadyH.cons (o := ⟨some 55, _, _, _, _, _⟩) rfl (fun K hK => ?qdst29) AllReadyH.nil
        (rw [if_pos (by rfl)]; refine wp_kn_append1 KN HO.out _ _ 23 rfl 40 Tryd.underlying23 (by kernel_rfl) (by decide) rfl 1 rfl rfl (by kernel_rfl) (by rw [HOL.out]; unfold maxLen; have := HOK.out; omega) (by rw [HOL.out]; have := HOK.out; omega) (f := fun o => o) .id rfl ?_; clear KN; intro v' wx ol' OW KN)
        refine hK.out _ _ ?qdk29 (fun hHeld2 => ?qdm29)
        case qdk29 => exact KR.out _ _ KN
        clear hK K hHeld
        have hHeld := hHeld2; clear hHeld2
        (try simp only [Act.put, List.setIfInBounds_toArray, List.set_cons_zero, List.set_cons_succ])
        refine wpAnyH_take (i := 30) (oi := ⟨some 4, _, _, _, _, _⟩) (v := ?qdv30) rfl (by kernel_rfl) (by kernel_rfl) (by kernel_rfl) (fun _ _ _ h => h) (Or.inl ⟨by rfl, ?qdhy30⟩) hHeld ?qdr30
        case qdhy30 => (intro w hSw; (try dsimp only at hSw); go_simp; (try with_reducible rfl))
        (try simp only [Act.put, List.setIfInBounds_toArray, List.set_cons_zero, List.set_cons_succ])
        refine wpAnyH_done (by kernel_rfl) ?qddone _
        clear w1 w2 w3 l1 l2 l3
        go_wp2_with fail
        go_roundw
        case rel =>
          refine ⟨k + 1, ol', by rw [show ((8 * (k + 1) : Nat) : Int) = (o : Int) + 8 by have := HOK.out; omega], by have := HOK.out; have := HNM.out; omega, ?_, KN⟩
          rw [decL_succ, List.map_append, ← HOK.out, HX.out]
          exact OW
        case measure => simp [intOf]; omega
      · have hkm : k = m := by have := HOK.out; have := HNM.out; omega
        have hd : progErr (decL zs m) = 0 ∨ ¬ progErr (decL zs m) = 0 := by omega
        obtain ⟨er, her⟩ : ∃ er, er = progErr (decL zs m) := ⟨_, rfl⟩
        have hol : ((decL zs k).map fun x => x.cells.toList).length = k := by rw [List.length_map, decL_len]
        subst hkm
        have HOW := Lib.hid OW
        obtain ⟨va, vc, hva⟩ := OW.form
        rw [hol] at hva
        subst hva
        rw [← her] at hd
        have HE := Lib.hid her
        have hz : decR zs = if er = 0 then (decL zs k, 0) else ([], er) := by
          unfold decR
          rw [if_neg (by rw [← HN.out]; have := HNM.out; omega), show zs.length / 8 = k by rw [← HN.out]; have := HNM.out; omega, ← her]
        have HZ0 : Hid (er = 0 → decR zs = (decL zs k, 0)) := Lib.hid (fun h => by rw [hz, if_pos h])
        have HZ1 : Hid (¬ er = 0 → decR zs = ([], er)) := Lib.hid (fun h => by rw [hz, if_neg h])
        clear hz
        clear OW her hol
        rcases hd with hd | hd
        · subst hd
          have HZ2 := Lib.hid (HZ0.out rfl)
          clear HZ0 HZ1
          go_wp2_with (first | (go_at_call 20; refine (RValidate_any _ (decL zs k) _ (by have := Instrs.ofT HOW.out KN .id (decL_fits H.out.2 k); exact this)).mono ?_; rintro e wx ⟨rfl, hb⟩; rw [← HE.out]; replace KN := KN.below hb; clear hb) | ((with_reducible refine wpList_gate ?_); first | ((refine gate_load (by rfl) ?_); first | (refine wpList_kn_load1 KN (by rfl) 5 _ rfl _ _ rfl _ _ (by repeat (first | exact Has.here | refine Has.there ?_)) _ (by (repeat (first | ((with_reducible refine get_hit ?_); exact Nat.le_of_ble_eq_true (by kernel_rfl)) | ((with_reducible refine (get_miss ?_).trans ?_); (focus kernel_rfl)) | ((with_reducible refine (get_pmiss ?_).trans ?_); (focus kernel_rfl)))); all_goals (conv => lhs; whnf; arg 1; whnf)) _ Tryd.underlying5 rfl ?_))))
          refine bodyPost_ret (results_tmp2 rfl _ _ _) rfl ?_
          refine ⟨_, ol, by rw [HZ2.out]; rfl, ?_, KN⟩
          rw [HZ2.out]
          exact HOW.out
        · have hd0 : (er != 0) = true := by rw [bne_iff_ne]; exact hd
          have HZ2 := Lib.hid (HZ1.out hd)
          clear HZ0 HZ1 hd
          go_wp2_with (first | (go_at_call 20; refine (RValidate_any _ (decL zs k) _ (by have := Instrs.ofT HOW.out KN .id (decL_fits H.out.2 k); exact this)).mono ?_; rintro e wx ⟨rfl, hb⟩; rw [← HE.out]; replace KN := KN.below hb; clear hb) | ((with_reducible refine wpList_gate ?_); first | ((refine gate_load (by rfl) ?_); first | (refine wpList_kn_load1 KN (by rfl) 5 _ rfl _ _ rfl _ _ (by repeat (first | exact Has.here | refine Has.there ?_)) _ (by (repeat (first | ((with_reducible refine get_hit ?_); exact Nat.le_of_ble_eq_true (by kernel_rfl)) | ((with_reducible refine (get_miss ?_).trans ?_); (focus kernel_rfl)) | ((with_reducible refine (get_pmiss ?_).trans ?_); (focus kernel_rfl)))); all_goals (conv => lhs; whnf; arg 1; whnf)) _ Tryd.underlying5 rfl ?_))))
          refine bodyPost_ret (results_tmp2 rfl _ _ _) rfl ?_
          refine ⟨_, [], by rw [HZ2.out]; rfl, ?_, KN.frame0⟩
          rw [HZ2.out]
          exact .nil
  · obtain ⟨r, hr⟩ : ∃ r, r = (n : Int).tmod 8 := ⟨_, rfl⟩
    have hr0 : (r != 0) = true := by rw [bne_iff_ne, hr, Int.tmod_eq_emod_of_nonneg (by omega)]; omega
    have HZ : Hid (decR zs = ([], 52)) := Lib.hid (by unfold decR; rw [if_pos (by rw [← HN.out]; exact h8)])
    have ht := hr.symm
    clear h8 hr
    go_enter Tryd.func19, Tryd.ntmps19
    go_wp2_with fail
    refine bodyPost_ret (results_tmp2 rfl _ _ _) rfl ?_
    refine ⟨_, [], by rw [HZ.out]; rfl, ?_, KN⟩
    rw [HZ.out]
    exact .nil
end Go.Proofs.YtemigcdieghkfaaDoor
