/- The law's sanity check. -/
import Derived.Test.YtpjejaoobbancaaPkSyn3
set_option linter.unusedVariables false
set_option linter.unusedSimpArgs false
set_option linter.unusedSectionVars false
namespace Go.Proofs.Ytpjejaoobbancaa
open Go.RowKit Go.BigFrame

theorem vfield_num (n : Int) (x y : Value) (w : World) : Sem.run Try.prog (Instr.field 30 (.agg #[.int .i64 n, x, y]) 0) w = .ok (.int .i64 n) w := by kernel_rfl
theorem msg_two {rows : List (List Value)} (h : MsgRows rows (keepL [1] (upto 3)) 1) : ∃ (r0 r1 : Int) (s0 : SL) (a : Option Addr) (c : Nat), rows = [(msgA 0 r0 s0).toList, (msgA 2 r1 ⟨a, 1, c⟩).toList] := by
  have hk : keepL [1] (upto 3) = [0, 2] := by decide
  rw [hk] at h
  obtain ⟨h1, h2⟩ := h
  obtain ⟨r0, s0, a0, _⟩ := h2 0 0 rfl
  obtain ⟨r1, s1, a1, b1⟩ := h2 1 2 rfl
  obtain ⟨a, n, c⟩ := s1
  have b1' : n = 1 := b1
  subst b1'
  refine ⟨r0, r1, s0, a, c, ?_⟩
  match rows, h1 with
  | [x, y], _ =>
    have e1 : x = (msgA 0 r0 s0).toList := by simpa using a0
    have e2 : y = (msgA 2 r1 ⟨a, 1, c⟩).toList := by simpa using a1
    rw [e1, e2]
set_option maxRecDepth 100000 in
set_option maxHeartbeats 8000000 in
theorem vawake_any (w : World) : Calls Try.prog 7 #[] w fun e w' => e = .returned (.bool true) ∧ Below w.heap.size w w' := by
  have KN := Kn.start w
  have HST := Lib.hid (fun w0 => start_any 3 (by decide) (by decide) w0)
  have HHD : Hid ((keepL [1] (upto 3)).head? = some 0) := Lib.hid (by decide)
  have HIN : Hid ((1 : Int) ∈ upto 3) := Lib.hid (by decide)
  have HLU : Hid ((upto 3).length ≤ 1000000) := Lib.hid (by decide)
  go_enter Try.func7, Try.ntmps7
  go_upto_region 4 with (first | (go_at_call 17; refine (HST.out _).mono ?_; rintro e wx ⟨vm, gs, om, rfl, O1, K2⟩; have HO1 := Lib.hid O1; replace KN := KN.call0 K2; clear K2 O1; simp only [List.append_nil] at KN) | (go_at_call 18; refine (regions_any _).mono ?_; rintro e wx ⟨gr, rfl, K2⟩; replace KN := KN.call0 K2; clear K2; simp only [List.cons_append, List.nil_append] at KN) | (go_at_call 16; refine (New_any (mem := upto 3) (own := [0, 2]) KN (HO1.out.row (f := fun o => (gr, _) :: (gs, _) :: o) KN (.cons _ (.cons _ .id))) (Row.of_blk (KN.at_ (g := gs) (by repeat (first | exact Has.here | refine Has.there ?_))) rfl (intRows_len _) rfl (by show 2 ≤ maxLen; decide) (by show 0 < 2; decide)) HLU.out (by decide) (KN.at_ (by repeat (first | exact Has.here | refine Has.there ?_)))).mono ?_; rintro e wx ⟨g, rg, m, o, om2, oo2, rfl, O2, O3, K2⟩; have HO2 := Lib.hid O2; have HO3 := Lib.hid O3; replace KN : Kn [] w wx ((g, At (syncA 1 rg m o .nil .nil .nil 0 0) 98) :: (om2 ++ oo2)) := (KN.call0 K2).sub (List.sublist_append_left _ _); clear K2 O2 O3) | ((with_reducible refine wpList_gate ?_); first | ((with_reducible refine gate_load ?_ ?_); rfl; first | (refine ks_load1 KN 3 Try.underlying3 ?_) | (refine ks_load1 KN 22 Try.underlying22 ?_))))
  (try go_frame)
  have HWX : Hid (Kn [] w wx ((g, At (syncA 1 rg m o .nil .nil .nil 0 0) 98) :: (om2 ++ oo2))) := Lib.hid KN
  go_upto_region 6 with (first | (go_at_call 19; refine (Detect_first KN HO2.out (List.sublist_append_left _ _) HLU.out (by decide) (by decide) (by decide) 1 (by decide) (by decide) HHD.out HIN.out).mono ?_; rintro e wx ⟨v, rows, ol, od, dead, wt, ex, rfl, h1, h2, h3, K2⟩; have HR1 := Lib.hid h1; have HR2 := Lib.hid h2; have HD := Lib.hid h3; clear KN; have KN := K2; clear K2 h1 h2 h3) | (go_at_call 20; refine (Leader_zero (SyncRd.of (dd := [1]) KN (by repeat (first | exact Has.here | refine Has.there ?_)) HO2.out HD.out (List.Sublist.cons _ (((List.sublist_append_left _ _).trans (List.sublist_append_left _ _)).trans (List.sublist_append_left _ _))) (List.Sublist.cons _ ((List.sublist_append_right _ _).trans (List.sublist_append_left _ _))) HLU.out (by decide)) (by decide) HHD.out).mono ?_; rintro e wx ⟨rfl, hb⟩; replace KN := KN.below hb; clear hb) | ((with_reducible refine wpList_gate ?_); first | ((with_reducible refine gate_load ?_ ?_); rfl; first | (refine ks_load1 KN 3 Try.underlying3 ?_) | (refine ks_load1 KN 22 Try.underlying22 ?_))))
  (try go_frame)
  obtain ⟨r0, r1, s0, a1, c1, hrows⟩ := msg_two HR2.out
  obtain ⟨gm, cap, hv, hcap1, hcap2, hol⟩ := HR1.out.pos (by rw [hrows]; show 1 ≤ 2; decide)
  rw [hrows] at hv hcap1 hol
  subst hol
  have hv2 : v = .slice (some ⟨gm, 0, none⟩) 2 cap := hv
  clear hv
  subst hv2
  unfold maxLen at hcap2
  have hcap3 : 2 ≤ cap := hcap1
  clear hcap1
  replace KN := KN.perm (l' := (gm, CapAt 69 74 cap [(msgA 0 r0 s0).toList, (msgA 2 r1 ⟨a1, 1, c1⟩).toList]) :: (g, At (syncA 1 rg m o dead wt ex 1 1) 98) :: ((om2 ++ oo2) ++ od)) (by
    exact (List.perm_append_comm (l₁ := (g, At (syncA 1 rg m o dead wt ex 1 1) 98) :: ((om2 ++ oo2) ++ od)) (l₂ := [_])))
  have hlen : ∀ c ∈ [(msgA 0 r0 s0).toList, (msgA 2 r1 ⟨a1, 1, c1⟩).toList], c.length = 74 := by
    intro c hc
    simp only [List.mem_cons, List.not_mem_nil, or_false] at hc
    rcases hc with rfl | rfl <;> rfl
  have c0 : wx.cell? ⟨gm, 0, none⟩ = some (.int .i64 12) := KN.elem (g := gm) (i := 0) (j := 0) (by repeat (first | exact Has.here | refine Has.there ?_)) hlen rfl rfl
  have c3 : wx.cell? ⟨gm, 3, none⟩ = some (.int .i64 0) := KN.elem (g := gm) (i := 0) (j := 3) (by repeat (first | exact Has.here | refine Has.there ?_)) hlen rfl rfl
  have c77 : wx.cell? ⟨gm, 77, none⟩ = some (.int .i64 2) := KN.elem (g := gm) (i := 1) (j := 3) (by repeat (first | exact Has.here | refine Has.there ?_)) hlen rfl rfl
  have c116 : wx.cell? ⟨gm, 116, none⟩ = some (.slice a1 1 c1) := KN.elem (g := gm) (i := 1) (j := 42) (by repeat (first | exact Has.here | refine Has.there ?_)) hlen rfl rfl
  have HDR : Hid (Row wx dead.v 1 (intRows [1])) := Lib.hid (HD.out.row (f := fun o => o) (KN.sub (List.Sublist.cons _ (List.Sublist.cons _ (List.sublist_append_right _ _)))) .id)
  have HMR : Hid (Row wx m.v 1 (intRows (upto 3))) := Lib.hid (HO2.out.row (f := fun o => o) (KN.sub (List.Sublist.cons _ (List.Sublist.cons _ ((List.sublist_append_left _ _).trans (List.sublist_append_left _ _))))) .id)
  have HOR : Hid (Row wx o.v 1 (intRows [0, 2])) := Lib.hid (HO3.out.row (f := fun o => o) (KN.sub (List.Sublist.cons _ (List.Sublist.cons _ ((List.sublist_append_right _ _).trans (List.sublist_append_left _ _))))) .id)
  have HC20 : Hid (wx.cell? ⟨g, 20, none⟩ = some dead.v) := Lib.hid (KN.cell (g := g) (o := 20) (by repeat (first | exact Has.here | refine Has.there ?_)) rfl)
  clear hrows hlen
  have hfd := vfield_num 1
  go_wp2_with (first | (go_at_call 21; refine (Dead_any HC20.out HDR.out (by decide)).mono ?_; rintro e wy ⟨a9, c9, rfl, hb⟩; have HB := Lib.hid hb; replace KN := KN.below hb; clear hb) | (go_at_call 22; refine (VView_any (g := g) KN (by repeat (first | exact Has.here | refine Has.there ?_)) (HMR.out.below HB.out) (HOR.out.below HB.out) HLU.out (by decide)).mono ?_; rintro e wz ⟨x9, y9, rfl, hb⟩; replace KN := KN.below hb; clear hb) | ((with_reducible refine wpList_gate ?_); first | ((with_reducible refine gate_load ?_ ?_); rfl; first | (refine ks_load1 KN 3 Try.underlying3 ?_) | (refine ks_load1 KN 22 Try.underlying22 ?_))))
  go_ret
  exact ⟨rfl, KN.toBelow⟩
end Go.Proofs.Ytpjejaoobbancaa
