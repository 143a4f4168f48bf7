/- The law's same, of equal scripts; its sanity check. -/
import Derived.Test.YtgeeklgojjcdmaaDoorPkConFmt
import Derived.Test.YtgeeklgojjcdmaaDoorPkConParse
import Derived.Test.YtgeeklgojjcdmaaDoorPkKnAll
set_option linter.unusedVariables false
set_option linter.unusedSimpArgs false
set_option linter.unusedSectionVars false
namespace Go.Proofs.YtgeeklgojjcdmaaDoor
open Go.RowKit Go.BigFrame

theorem raw_of_ev (l : List Ev) : evRows l = rawRows (l.map Ev.raw) := by
  unfold evRows rawRows
  rw [List.map_map]; rfl
theorem raw_len (l : List RawEv) : ∀ c ∈ rawRows l, c.length = 3 := by intro c hc; obtain ⟨x, _, rfl⟩ := List.mem_map.1 hc; rfl
set_option maxRecDepth 100000 in
set_option maxHeartbeats 8000000 in
theorem same40_eq (va vb : Value) (l : List RawEv) (w : World) (ha : Row w va 3 (rawRows l)) (hb : Row w vb 3 (rawRows l)) : Calls Tryd.prog 8 #[va, vb] w fun e w' => e = .returned (.bool true) ∧ Below w.heap.size w w' := by
  obtain ⟨a, c, rfl, _⟩ := raws_form ha
  obtain ⟨b, d, rfl, _⟩ := raws_form hb
  obtain ⟨n, hn⟩ : ∃ n, n = l.length := ⟨_, rfl⟩
  have hm := ha.1
  simp only [List.length_map] at hm
  unfold maxLen at hm
  have HA := Lib.hid ha
  have HB := Lib.hid hb
  have HN := Lib.hid hn
  rw [← hn] at hm ⊢
  have KN := Kn.start w
  clear ha hb hn
  go_enter Tryd.func8, Tryd.ntmps8
  go_wp2_with fail
  go_loopw [5] (fun i wr => ∃ k : Nat, i = .int .i64 (k : Int) ∧ k ≤ n ∧ Kn [] w wr []) (fun i _ => n - (intOf i).toNat)
  case atStart => exact ⟨0, rfl, Nat.zero_le _, KN⟩
  case round =>
    clear KN
    obtain ⟨k, rfl, hk, KN⟩ := hrel
    by_cases hlt : k < n
    · obtain ⟨x, hx⟩ : ∃ x, l[k]? = some x := ⟨_, List.getElem?_eq_getElem (by rw [← HN.out]; exact hlt)⟩
      obtain ⟨_, _, hv, hc⟩ := raws_form HA.out
      obtain ⟨_, _, hv2, hc2⟩ := raws_form HB.out
      simp only [Value.slice.injEq] at hv hv2
      obtain ⟨g, o, hg, hgb, hl1, hl2, x0, x1, x2⟩ := hc k x hx
      obtain ⟨g2, o2, hg2, hgb2, hl3, hl4, y0, y1, y2⟩ := hc2 k x hx
      obtain ⟨rfl, _, rfl⟩ := hv
      obtain ⟨rfl, _, rfl⟩ := hv2
      subst hg
      subst hg2
      have r1 := row_range x0 x1 x2
      have r2 := row_range y0 y1 y2
      have kr : ∀ (wz : World), Kn [] w wz [] → wz.rangeAt g (o + k * 3) x.cells.toList ∧ wz.rangeAt g2 (o2 + k * 3) x.cells.toList := fun wz K => ⟨fun j v hj => (K.old hgb (by simp)).trans (r1 j v hj), fun j v hj => (K.old hgb2 (by simp)).trans (r2 j v hj)⟩
      have KR := Lib.hid kr
      have l0 : (k : Int) < (n : Int) := by omega
      clear hx hc hc2 x0 x1 x2 y0 y1 y2 r1 r2 kr hl1 hl3
      unfold maxLen at hl2 hl4
      go_upto_region 6 with fail
      (try go_frame)
      replace KN := KN.drew
      refine wp_region_held_drew (S := (fun w' => w'.rangeAt g (o + k * 3) x.cells.toList ∧ w'.rangeAt g2 (o2 + k * 3) x.cells.toList)) (by kernel_rfl) ?qshS (fun hHeld => ?qsrest)
      case qshS => exact KR.out _ KN
      refine wpAnyH_take (i := 0) (oi := ⟨some 17, _, _, _, _, _⟩) (v := ?qsv0) rfl (by kernel_rfl) (by kernel_rfl) (by kernel_rfl) (fun _ _ _ h => h) (Or.inl ⟨by rfl, ?qshy0⟩) hHeld ?qsr0
      case qshy0 => (intro w hSw; (try dsimp only at hSw); go_simp; (try with_reducible rfl))
      (try simp only [Act.put, List.setIfInBounds_toArray, List.set_cons_zero, List.set_cons_succ])
      refine wpAnyH_take (i := 1) (oi := ⟨some 18, _, _, _, _, _⟩) (v := ?qsv1) rfl (by kernel_rfl) (by kernel_rfl) (by kernel_rfl) (fun _ _ _ h => h) (Or.inl ⟨by rfl, ?qshy1⟩) hHeld ?qsr1
      case qshy1 => (intro w hSw; (try dsimp only at hSw); go_simp; (try with_reducible rfl))
      (try simp only [Act.put, List.setIfInBounds_toArray, List.set_cons_zero, List.set_cons_succ])
      refine wpAnyH_take (i := 2) (oi := ⟨some 19, _, _, _, _, _⟩) (v := (.pointer (some ⟨g, o + k * 3, none⟩))) rfl (by kernel_rfl) (by kernel_rfl) (by kernel_rfl) (fun _ _ _ h => h) (Or.inl ⟨by rfl, ?qshy2⟩) hHeld ?qsr2
      case qshy2 => (intro w hSw; (try dsimp only at hSw); go_simp; (try rfl))
      (try simp only [Act.put, List.setIfInBounds_toArray, List.set_cons_zero, List.set_cons_succ])
      refine wpAnyH_take (i := 3) (oi := ⟨some 20, _, _, _, _, _⟩) (v := (.agg x.cells)) rfl (by kernel_rfl) (by kernel_rfl) (by kernel_rfl) (fun _ _ _ h => h) (yields_load (by rfl) 35 _ rfl g (o + k * 3) rfl x.cells _ (fun _ h => h.1) Tryd.underlying35 rfl (by kernel_rfl)) hHeld ?qsr3
      (try simp only [Act.put, List.setIfInBounds_toArray, List.set_cons_zero, List.set_cons_succ])
      refine wpAnyH_take (i := 4) (oi := ⟨some 21, _, _, _, _, _⟩) (v := ?qsv4) rfl (by kernel_rfl) (by kernel_rfl) (by kernel_rfl) (fun _ _ _ h => h) (Or.inl ⟨by rfl, ?qshy4⟩) hHeld ?qsr4
      case qshy4 => (intro w hSw; (try dsimp only at hSw); go_simp; (try with_reducible rfl))
      (try simp only [Act.put, List.setIfInBounds_toArray, List.set_cons_zero, List.set_cons_succ])
      refine wpAnyH_take (i := 5) (oi := ⟨some 22, _, _, _, _, _⟩) (v := ?qsv5) rfl (by kernel_rfl) (by kernel_rfl) (by kernel_rfl) (fun _ _ _ h => h) (Or.inl ⟨by rfl, ?qshy5⟩) hHeld ?qsr5
      case qshy5 => (intro w hSw; (try dsimp only at hSw); go_simp; (try with_reducible rfl))
      (try simp only [Act.put, List.setIfInBounds_toArray, List.set_cons_zero, List.set_cons_succ])
      refine wpAnyH_take (i := 6) (oi := ⟨some 23, _, _, _, _, _⟩) (v := (.pointer (some ⟨g2, o2 + k * 3, none⟩))) rfl (by kernel_rfl) (by kernel_rfl) (by kernel_rfl) (fun _ _ _ h => h) (Or.inl ⟨by rfl, ?qshy6⟩) hHeld ?qsr6
      case qshy6 => (intro w hSw; (try dsimp only at hSw); go_simp; (try rfl))
      (try simp only [Act.put, List.setIfInBounds_toArray, List.set_cons_zero, List.set_cons_succ])
      refine wpAnyH_take (i := 7) (oi := ⟨some 24, _, _, _, _, _⟩) (v := (.agg x.cells)) rfl (by kernel_rfl) (by kernel_rfl) (by kernel_rfl) (fun _ _ _ h => h) (yields_load (by rfl) 35 _ rfl g2 (o2 + k * 3) rfl x.cells _ (fun _ h => h.2) Tryd.underlying35 rfl (by kernel_rfl)) hHeld ?qsr7
      (try simp only [Act.put, List.setIfInBounds_toArray, List.set_cons_zero, List.set_cons_succ])
      refine wpAnyH_take (i := 8) (oi := ⟨some 25, _, _, _, _, _⟩) (v := (.bool false)) rfl (by kernel_rfl) (by kernel_rfl) (by kernel_rfl) (fun _ _ _ h => h) (kn_yields_neq (by rfl) 35 _ _ _ rfl x.cells rfl rfl (by kernel_rfl) (by kernel_rfl)) hHeld ?qsr8
      (try simp only [Act.put, List.setIfInBounds_toArray, List.set_cons_zero, List.set_cons_succ])
      refine wpAnyH_done (by kernel_rfl) ?qsdone _
      go_wp2_with fail
      go_roundw
      case rel => exact ⟨k + 1, by go_num, by omega, KN⟩
      case measure => simp [intOf]; omega
    · go_wp2_with fail
      go_ret
      exact ⟨rfl, KN.toBelow⟩
def exS : List UInt8 := [51, 32, 42, 32, 116, 105, 99, 107, 32, 48, 59, 32, 116, 114, 97, 110, 115, 109, 105, 116, 32, 48, 32, 49, 59]
def exF : List UInt8 := [51, 32, 42, 32, 116, 105, 99, 107, 32, 48, 59, 10, 116, 114, 97, 110, 115, 109, 105, 116, 32, 48, 32, 49, 59, 10]
def exE : List Ev := [⟨1, 0, 0⟩, ⟨1, 0, 0⟩, ⟨1, 0, 0⟩, ⟨2, 0, 1⟩]
set_option maxRecDepth 100000 in
theorem exS_script : script exS = (exE, (0, 0), 0) := by kernel_rfl
theorem exE_fmt : fmtR (exE.map Ev.raw) = exF := by kernel_rfl
theorem ParseScript_ex (w : World) : Calls Tryd.prog 6 #[.string (str exS)] w fun e w' => ∃ g cap, e = .returned (.tuple #[.slice (some ⟨g, 0, none⟩) 4 cap, .agg #[.int .i64 0, .int .i64 0], .int .i64 0]) ∧ 4 ≤ cap ∧ cap ≤ maxLen ∧ Kn [] w w' [(g, CapAt 35 3 cap (evRows exE))] := by
  refine (ParseScript_any (str exS) w (by decide)).mono ?_
  unfold ScriptOut
  rw [data_str, exS_script]
  rintro e w' ⟨v, ol, rfl, HV, KN⟩
  obtain ⟨g, cap, hv, hc1, hc2, hol⟩ := HV.pos (by decide)
  subst hv
  subst hol
  exact ⟨g, cap, rfl, hc1, hc2, KN⟩
set_option maxRecDepth 100000 in
set_option maxHeartbeats 8000000 in
theorem awake40_any (w : World) (hp : Pow w) : Calls Tryd.prog 5 #[] w fun e w' => e = .returned (.bool true) ∧ Below w.heap.size w w' := by
  have KN := Kn.start w
  have HPW := Lib.hid hp
  clear hp
  obtain ⟨u, hu⟩ : ∃ u, u = str (fmtR (exE.map Ev.raw)) := ⟨_, rfl⟩
  have HU := Lib.hid hu
  have hul : (u.toList == exF) = true := by rw [hu, exE_fmt, Lib.toList_data, data_str]; exact beq_self_eq_true _
  have HUL := Lib.hid hul
  clear hul
  clear hu
  go_enter Tryd.func5, Tryd.ntmps5
  go_upto_region 2 with (first | (go_at_call 6; refine (ParseScript_ex _).mono ?_; rintro e wx ⟨g, cap, rfl, hc1, hc2, K2⟩; replace KN := KN.call0 K2; clear K2; simp only [List.append_nil] at KN) | ((with_reducible refine wpList_gate ?_); first | ((with_reducible refine gate_load ?_ ?_); rfl; first | (refine ks_loadW KN 35 Tryd.underlying35 ?_)) | ((with_reducible refine gate_store ?_ ?_); rfl; first | (refine ks_storeW KN 25 ?_; clear KN; intro wx KN) | (refine ks_storeA KN 25 ?_; clear KN; intro wx KN)) | ((with_reducible refine gate_new ?_ ?_); rfl; first | (refine ks_alloc KN 25 (q := 2) #[.int .i64 0, .int .i64 0] ?_; clear KN; intro g2 wx hg2 KN))))
  have hrow := (OwnT.blk (e := 35) (sz := 3) (g := g) (cap := cap) (L := evRows exE) hc1 hc2 (by rw [raw_of_ev]; exact raw_len _)).row (f := fun o => o) (show Kn [] w wx [(g, CapAt 35 3 cap (evRows exE))] from KN.pick) .id
  have c6 : wx.cell? ⟨g, 6, none⟩ = some (.int .i64 1) := KN.elem (g := g) (e := 35) (sz := 3) (cap := cap) (L := evRows exE) (i := 2) (j := 0) (by repeat (first | exact Has.here | refine Has.there ?_)) (by rw [raw_of_ev]; exact raw_len _) rfl rfl
  have c7 : wx.cell? ⟨g, 7, none⟩ = some (.int .i64 0) := KN.elem (g := g) (e := 35) (sz := 3) (cap := cap) (L := evRows exE) (i := 2) (j := 1) (by repeat (first | exact Has.here | refine Has.there ?_)) (by rw [raw_of_ev]; exact raw_len _) rfl rfl
  have c8 : wx.cell? ⟨g, 8, none⟩ = some (.int .i64 0) := KN.elem (g := g) (e := 35) (sz := 3) (cap := cap) (L := evRows exE) (i := 2) (j := 2) (by repeat (first | exact Has.here | refine Has.there ?_)) (by rw [raw_of_ev]; exact raw_len _) rfl rfl
  have c9 : wx.cell? ⟨g, 9, none⟩ = some (.int .i64 2) := KN.elem (g := g) (e := 35) (sz := 3) (cap := cap) (L := evRows exE) (i := 3) (j := 0) (by repeat (first | exact Has.here | refine Has.there ?_)) (by rw [raw_of_ev]; exact raw_len _) rfl rfl
  have c10 : wx.cell? ⟨g, 10, none⟩ = some (.int .i64 0) := KN.elem (g := g) (e := 35) (sz := 3) (cap := cap) (L := evRows exE) (i := 3) (j := 1) (by repeat (first | exact Has.here | refine Has.there ?_)) (by rw [raw_of_ev]; exact raw_len _) rfl rfl
  have c11 : wx.cell? ⟨g, 11, none⟩ = some (.int .i64 1) := KN.elem (g := g) (e := 35) (sz := 3) (cap := cap) (L := evRows exE) (i := 3) (j := 2) (by repeat (first | exact Has.here | refine Has.there ?_)) (by rw [raw_of_ev]; exact raw_len _) rfl rfl
  have HROW := Lib.hid hrow
  clear hrow
  go_wp2_with (first | (go_at_call 9; refine (FormatScript_any _ (exE.map Ev.raw) _ (by rw [← raw_of_ev]; exact HROW.out) (by decide) (HPW.out.below KN.toBelow)).mono ?_; rintro e wx ⟨rfl, hb⟩; rw [← HU.out]; replace KN := KN.below hb; clear hb) | ((with_reducible refine wpList_gate ?_); first | ((with_reducible refine gate_load ?_ ?_); rfl; first | (refine ks_loadW KN 35 Tryd.underlying35 ?_)) | ((with_reducible refine gate_store ?_ ?_); rfl; first | (refine ks_storeW KN 25 ?_; clear KN; intro wx KN) | (refine ks_storeA KN 25 ?_; clear KN; intro wx KN)) | ((with_reducible refine gate_new ?_ ?_); rfl; first | (refine wpList_built rfl 35 #[(0, .const (.int .i64 1))] rfl #[.int .i64 1, .int .i64 0, .int .i64 0] (by kernel_rfl) ?_) | (refine wpList_built rfl 35 #[(0, .const (.int .i64 2)), (2, .const (.int .i64 1))] rfl #[.int .i64 2, .int .i64 0, .int .i64 1] (by kernel_rfl) ?_) | (refine ks_alloc KN 25 (q := 2) #[.int .i64 0, .int .i64 0] ?_; clear KN; intro g2 wx hg2 KN)) | ((with_reducible refine gate_cmp ?_ ?_); rfl; first | (refine wpList_kn_eql (by rfl) 35 _ _ _ rfl #[.int .i64 1, .int .i64 0, .int .i64 0] (by with_reducible rfl) (by with_reducible rfl) (by kernel_rfl) (by kernel_rfl) ?_) | (refine wpList_kn_eql (by rfl) 35 _ _ _ rfl #[.int .i64 2, .int .i64 0, .int .i64 1] (by with_reducible rfl) (by with_reducible rfl) (by kernel_rfl) (by kernel_rfl) ?_))))
  go_ret
  exact ⟨by show Ending.returned (.bool (u.toList == exF)) = _; rw [HUL.out], KN.toBelow⟩
end Go.Proofs.YtgeeklgojjcdmaaDoor
