/- Sync's methods, as the law's sanity check wants them. -/
import Derived.Test.YtpjejaoobbancaaPkSyn0
set_option linter.unusedVariables false
set_option linter.unusedSimpArgs false
set_option linter.unusedSectionVars false
namespace Go.Proofs.Ytpjejaoobbancaa
open Go.RowKit Go.BigFrame

def syncA (vn : Int) (rg m o dead wt ex : SL) (st num : Int) : Array Value :=
  #[.int .i64 0, rg.v, .int .i64 4, .int .i64 vn, m.v, o.v, .int .i64 0, .slice none 0 0, .slice none 0 0, .slice none 0 0, .slice none 0 0, .slice none 0 0, .slice none 0 0, .slice none 0 0, .slice none 0 0, .bool false, .bool false, .bool false, .int .i64 0, .int .i64 0,
    dead.v, wt.v, .slice none 0 0, .int .i64 st, .int .i64 num, .int .i64 0, ex.v, .slice none 0 0, .slice none 0 0]
theorem blkT_below {w w' : World} {g : Nat} {cs : Array Value} {T : TypeId} (h : BlkT w g cs T) (hb : Below w.heap.size w w') : BlkT w' g cs T := (hb.block g (Array.getElem?_eq_some_iff.1 h).1).trans h
def NewOut (num : Int) (mem own : List Int) (w : World) (e : Ending) (w' : World) : Prop := ∃ (g : Nat) (rg m o : SL) (om oo : Ents), e = .returned (.pointer (some ⟨g, 0, none⟩)) ∧ OwnT 3 1 m.v (intRows mem) om ∧ OwnT 3 1 o.v (intRows own) oo ∧
      Kn [] w w' ((g, At (syncA num rg m o .nil .nil .nil 0 0) 98) :: (om ++ oo))
set_option maxRecDepth 100000 in
set_option maxHeartbeats 4000000 in
theorem New_any {w w0 : World} {l : Ents} {num : Int} {vm vo : Value} {mem own : List Int} {gr : Nat} (KN0 : Kn [] w0 w l) (hm : Row w vm 1 (intRows mem)) (ho : Row w vo 1 (intRows own)) (h1 : mem.length ≤ 1000000) (h2 : own.length ≤ 1000000) (hr : BlkT w gr regA 91) :
    Calls Try.prog 16 #[.int .i64 0, .agg #[.int .i64 num, vm, vo], .slice (some ⟨gr, 0, none⟩) 2 2, .int .i64 4] w (NewOut num mem own w) := by
  have KN := Kn.start w
  have HM := Lib.hid hm
  have HO := Lib.hid ho
  have H1 := Lib.hid h1
  have H2 := Lib.hid h2
  have HR := Lib.hid hr
  obtain ⟨xa, xc, rfl, _⟩ := ints_form hm
  obtain ⟨ya, yc, rfl, _⟩ := ints_form ho
  clear hm ho h1 h2 hr KN0
  go_enter Try.func16, Try.ntmps16
  go_wp2_with (first | (go_at_call 40; refine (copyView_any (HM.out.below KN.toBelow) (HO.out.below KN.toBelow) H1.out H2.out).mono ?_; rintro e wx ⟨ma, mn, mc, oa, on, oc, om, oo, rfl, O1, O2, K2⟩; have HO1 := Lib.hid O1; have HO2 := Lib.hid O2; replace KN := (KN.call0 K2).perm List.perm_append_comm; simp only [List.cons_append, List.nil_append] at KN; clear K2 O1 O2) | (go_at_call 41; refine (CloneRegion_any (blkT_below HR.out KN.toBelow)).mono ?_; rintro e wx ⟨ra, rn, rc, rfl, hb⟩; replace KN := KN.below hb; clear hb) | ((with_reducible refine wpList_gate ?_); first | ((with_reducible refine gate_load ?_ ?_); rfl; first | (refine ks_loadW KN 30 Try.underlying30 ?_)) | ((with_reducible refine gate_new ?_ ?_); rfl; first | (refine wpList_built rfl 98 #[(0, .tmp 9), (3, .tmp 11), (1, .tmp 13), (2, .tmp 14)] rfl (syncA num ⟨ra, rn, rc⟩ ⟨ma, mn, mc⟩ ⟨oa, on, oc⟩ .nil .nil .nil 0 0) (by kernel_rfl) ?_) | (refine ks_boxA KN 30 (q := 5) ?_; clear KN; intro g5 wx hg5 KN) | (refine ks_boxA KN 98 (q := 16) ?_; clear KN; intro g16 wx hg16 KN))))
  go_ret
  exact ⟨g16, ⟨ra, rn, rc⟩, ⟨ma, mn, mc⟩, ⟨oa, on, oc⟩, om, oo, rfl, HO1.out, HO2.out, KN.drop (.there .here)⟩
/-- What the reading methods want of a Sync. -/
structure SyncRd (w : World) (g : Nat) (vn : Int) (m dead : SL) (mem dd : List Int) : Prop where
  ccore : w.cell? ⟨g, 0, none⟩ = some (.int .i64 0)
  vnum : w.cell? ⟨g, 3, none⟩ = some (.int .i64 vn)
  vmem : w.cell? ⟨g, 4, none⟩ = some m.v
  acc : w.cell? ⟨g, 15, none⟩ = some (.bool false)
  cdead : w.cell? ⟨g, 20, none⟩ = some dead.v
  rm : Row w m.v 1 (intRows mem)
  rd : Row w dead.v 1 (intRows dd)
  lm : mem.length ≤ 1000000
  ld : dd.length ≤ 1000000
theorem cell_lt' {w : World} {g o : Nat} {v : Value} (h : w.cell? ⟨g, o, none⟩ = some v) : g < w.heap.size := (cell_spot h).2
theorem SyncRd.below {w w' : World} {g : Nat} {vn : Int} {m dead : SL} {mem dd : List Int} (h : SyncRd w g vn m dead mem dd) (hb : Below w.heap.size w w') : SyncRd w' g vn m dead mem dd :=
  ⟨(hb.cell (cell_lt' h.ccore)).trans h.ccore, (hb.cell (cell_lt' h.vnum)).trans h.vnum, (hb.cell (cell_lt' h.vmem)).trans h.vmem, (hb.cell (cell_lt' h.acc)).trans h.acc, (hb.cell (cell_lt' h.cdead)).trans h.cdead, h.rm.below hb, h.rd.below hb, h.lm, h.ld⟩
theorem SyncRd.of {W w : World} {g : Nat} {vn : Int} {rg m o dead wt ex : SL} {st num : Int} {mem dd : List Int} {l om od : Ents} (KN : Kn [] W w l) (mg : Has l g (At (syncA vn rg m o dead wt ex st num) 98)) (hm : OwnT 3 1 m.v (intRows mem) om) (hd : OwnT 3 1 dead.v (intRows dd) od) (sm : om.Sublist l) (sd : od.Sublist l) (lm : mem.length ≤ 1000000) (ld : dd.length ≤ 1000000) : SyncRd w g vn m dead mem dd :=
  ⟨KN.cell mg (o := 0) rfl, KN.cell mg (o := 3) rfl, KN.cell mg (o := 4) rfl, KN.cell mg (o := 15) rfl, KN.cell mg (o := 20) rfl, hm.row (f := fun o => o) (KN.sub sm) .id, hd.row (f := fun o => o) (KN.sub sd) .id, lm, ld⟩
set_option maxRecDepth 100000 in
set_option maxHeartbeats 4000000 in
theorem electors_any {w : World} {g : Nat} {vn : Int} {m dead : SL} {mem dd : List Int} (h : SyncRd w g vn m dead mem dd) (hv : ¬ vn = 0) :
    Calls Try.prog 48 #[.pointer (some ⟨g, 0, none⟩)] w fun e w' => ∃ v', e = .returned v' ∧ Row w' v' 1 (intRows mem) ∧ Below w.heap.size w w' := by
  have KN := Kn.start w
  have H := Lib.hid h
  have hv0 : (vn == 0) = false := beq_eq_false_iff_ne.2 hv
  obtain ⟨ma, mn, mc⟩ := m
  clear h hv
  go_enter Try.func48, Try.ntmps48
  go_wp2_with (first | (go_at_call 34; refine (Clone_any (v := SL.v ⟨ma, mn, mc⟩) (H.out.rm.below KN.toBelow) H.out.lm).mono ?_; rintro e wx ⟨v1, ol1, rfl, O1, K2, _⟩; have HO1 := Lib.hid O1; replace KN := KN.call0 K2; clear K2 O1) | (refine wpList_kn_old1 KN (by rfl) 3 _ rfl g 3 rfl _ H.out.vnum (by simp) _ Try.underlying3 rfl ?_) | (refine wpList_kn_old1 KN (by rfl) 22 _ rfl g 4 rfl (.slice ma mn mc) H.out.vmem (by simp) _ Try.underlying22 rfl ?_) | (refine wpList_kn_old1 KN (by rfl) 4 _ rfl g 15 rfl _ H.out.acc (by simp) _ Try.underlying4 rfl ?_))
  go_ret
  exact ⟨v1, rfl, HO1.out.row (f := fun o => o) (by simpa using KN) .id, KN.toBelow⟩
/-- The first of the first list that is not in the second. -/
def Alive1 (l dd : List Int) (c : Int) (ok : Bool) : Prop := (ok = true ∧ (keepL dd l).head? = some c) ∨ (ok = false ∧ c = 0 ∧ keepL dd l = [])
def FaOut (l dd : List Int) (w : World) (e : Ending) (w' : World) : Prop := ∃ c ok, e = .returned (.tuple #[.int .i64 c, .bool ok]) ∧ Alive1 l dd c ok ∧ w = w'
def LdOut (l dd : List Int) (w : World) (e : Ending) (w' : World) : Prop := ∃ c ok, e = .returned (.tuple #[.int .i64 c, .bool ok]) ∧ Alive1 l dd c ok ∧ Below w.heap.size w w'
set_option maxRecDepth 100000 in
set_option maxHeartbeats 4000000 in
theorem firstAlive_any {w : World} {v dv : Value} {l dd : List Int} (h : Row w v 1 (intRows l)) (hd : Row w dv 1 (intRows dd)) :
    Calls Try.prog 47 #[v, dv] w (FaOut l dd w) := by
  obtain ⟨a, c, rfl, hm, hc⟩ := ints_form h
  obtain ⟨n, hn⟩ : ∃ n, n = l.length := ⟨_, rfl⟩
  have HN := Lib.hid hn
  have HC := Lib.hid hc
  have HD := Lib.hid hd
  obtain ⟨da, dc, rfl, _⟩ := ints_form hd
  rw [← hn] at hm ⊢
  unfold maxLen at hm
  clear h hc hn hd
  go_enter Try.func47, Try.ntmps47
  go_wp2
  go_loop [7, 10] (fun _ i => ∃ k : Nat, i = .int .i64 (k : Int) ∧ k ≤ n ∧ keepL dd (l.take k) = []) (fun _ i => n - (intOf i).toNat)
  case atStart => exact ⟨0, rfl, Nat.zero_le _, rfl⟩
  case round =>
    obtain ⟨k, rfl, hk, hnil⟩ := hrel
    have HNIL := Lib.hid hnil
    clear hnil
    by_cases hlt : k < n
    · obtain ⟨x, hx⟩ : ∃ x, l[k]? = some x := ⟨_, List.getElem?_eq_getElem (by rw [← HN.out]; exact hlt)⟩
      obtain ⟨g, off, rfl, hg, hc1, hc2, hcell⟩ := HC.out k x hx
      have HX := Lib.hid hx
      have hc1' : n ≤ c := by rw [HN.out]; exact hc1
      unfold maxLen at hc2
      by_cases hxo : x ∈ dd
      · have HB : Hid (decide (x ∈ dd) = true) := Lib.hid (decide_eq_true hxo)
        have HK : Hid (keepL dd (l.take (k + 1)) = []) := Lib.hid (by rw [keepL_in hx hxo]; exact HNIL.out)
        clear hx hxo hc1
        go_wp2_with (go_at_call 30; refine (Contains_any HD.out x).mono ?_; rw [HB.out]; rintro e wx ⟨rfl, rfl⟩)
        go_round
        case rel => exact ⟨k + 1, by go_num, by omega, HK.out⟩
        case measure => simp [intOf]; omega
      · have HB : Hid (decide (x ∈ dd) = false) := Lib.hid (decide_eq_false hxo)
        have HK : Hid (Alive1 l dd x true) := Lib.hid (.inl ⟨rfl, by
          have h1 := keepL_out hx hxo
          rw [HNIL.out, List.nil_append] at h1
          have h2 : keepL dd l = keepL dd (l.take (k + 1)) ++ keepL dd (l.drop (k + 1)) := by
            unfold keepL
            rw [← List.filter_append, List.take_append_drop]
          rw [h2, h1]; rfl⟩)
        clear hx hxo hc1
        go_wp2_with (go_at_call 30; refine (Contains_any HD.out x).mono ?_; rw [HB.out]; rintro e wx ⟨rfl, rfl⟩)
        refine bodyPost_ret (results_tmp2 rfl _ _ _) rfl ?_
        exact ⟨x, true, rfl, HK.out, rfl⟩
    · have HK : Hid (Alive1 l dd 0 false) := Lib.hid (.inr ⟨rfl, rfl, by
        have := HNIL.out
        rwa [List.take_of_length_le (by rw [← HN.out]; omega)] at this⟩)
      go_wp2
      refine bodyPost_ret (results_tmp2 rfl _ _ _) rfl ?_
      exact ⟨0, false, rfl, HK.out, rfl⟩
set_option maxRecDepth 100000 in
set_option maxHeartbeats 4000000 in
theorem Leader_any {w : World} {g : Nat} {vn : Int} {m dead : SL} {mem dd : List Int} (h : SyncRd w g vn m dead mem dd) (hv : ¬ vn = 0) :
    Calls Try.prog 20 #[.pointer (some ⟨g, 0, none⟩)] w (LdOut mem dd w) := by
  have KN := Kn.start w
  have H := Lib.hid h
  obtain ⟨da, dn, dc⟩ := dead
  clear h
  go_enter Try.func20, Try.ntmps20
  go_upto_region 1 with fail
  (try go_frame)
  replace KN := KN.drew
  refine wp_region_held_drew (S := (fun w' => w'.cell? ⟨g, 20, none⟩ = some (.slice da dn dc))) (by kernel_rfl) ?ldhS (fun hHeld => ?ldrest)
  case ldhS => exact (KN.old (cell_lt' H.out.cdead) (by simp)).trans H.out.cdead
  refine wpAnyH_take (i := 0) (oi := ⟨some 4, _, _, _, _, _⟩) (v := ?ldv0) rfl (by kernel_rfl) (by kernel_rfl) (by kernel_rfl) (fun _ _ _ h => h) (Or.inl ⟨by rfl, ?ldhy0⟩) hHeld ?ldr0
  case ldhy0 => (intro w hSw; (try dsimp only at hSw); go_simp; (try with_reducible rfl))
  (try simp only [Act.put, List.setIfInBounds_toArray, List.set_cons_zero, List.set_cons_succ])
  refine wpAnyH_take (i := 2) (oi := ⟨some 6, _, _, _, _, _⟩) (v := ?ldv2) rfl (by kernel_rfl) (by kernel_rfl) (by kernel_rfl) (fun _ _ _ h => h) (Or.inl ⟨by rfl, ?ldhy2⟩) hHeld ?ldr2
  case ldhy2 => (intro w hSw; (try dsimp only at hSw); go_simp; (try with_reducible rfl))
  (try simp only [Act.put, List.setIfInBounds_toArray, List.set_cons_zero, List.set_cons_succ])
  refine wpAnyH_take (i := 3) (oi := ⟨some 7, _, _, _, _, _⟩) (v := ?ldv3) rfl (by kernel_rfl) (by kernel_rfl) (by kernel_rfl) (fun _ _ _ h => h) (Or.inl ⟨by rfl, ?ldhy3⟩) hHeld ?ldr3
  case ldhy3 => (intro w hSw; (try dsimp only at hSw); go_simp; (try with_reducible rfl))
  (try simp only [Act.put, List.setIfInBounds_toArray, List.set_cons_zero, List.set_cons_succ])
  refine wpAnyH_take (i := 4) (oi := ⟨some 8, _, _, _, _, _⟩) (v := ?ldv4) rfl (by kernel_rfl) (by kernel_rfl) (by kernel_rfl) (fun _ _ _ h => h) (Or.inl ⟨by rfl, ?ldhy4⟩) hHeld ?ldr4
  case ldhy4 => (intro w hSw; (try dsimp only at hSw); go_simp; (try with_reducible rfl))
  (try simp only [Act.put, List.setIfInBounds_toArray, List.set_cons_zero, List.set_cons_succ])
  refine wpAnyH_take (i := 5) (oi := ⟨some 9, _, _, _, _, _⟩) (v := (.slice da dn dc)) rfl (by kernel_rfl) (by kernel_rfl) (by kernel_rfl) (fun _ _ _ h => h) (kn_yields_cell (by rfl) 22 _ rfl g 20 rfl _ (fun _ h => h) _ Try.underlying22 rfl) hHeld ?ldr5
  (try simp only [Act.put, List.setIfInBounds_toArray, List.set_cons_zero, List.set_cons_succ])
  refine wpAnyH_ready (rs := [1]) (by kernel_rfl) (by simp) ?ldc1
  refine AllReadyH.cons (o := ⟨some 5, _, _, _, _, _⟩) rfl (fun K hK => ?ldst1) AllReadyH.nil
  go_simp
  (refine (electors_any (H.out.below KN.toBelow) hv).mono ?_; rintro e wx ⟨v1, rfl, hr1, hb⟩; have HR1 := Lib.hid hr1; replace KN := KN.below hb; clear hb hr1)
  refine hK.out _ _ ?ldk1 (fun hHeld2 => ?ldm1)
  case ldk1 => exact (KN.old (cell_lt' H.out.cdead) (by simp)).trans H.out.cdead
  clear hK K hHeld
  have hHeld := hHeld2; clear hHeld2
  (try simp only [Act.put, List.setIfInBounds_toArray, List.set_cons_zero, List.set_cons_succ])
  refine wpAnyH_ready (rs := [6]) (by kernel_rfl) (by simp) ?ldc6
  refine AllReadyH.cons (o := ⟨some 10, _, _, _, _, _⟩) rfl (fun K hK => ?ldst6) AllReadyH.nil
  go_simp
  (refine (firstAlive_any (dv := .slice da dn dc) HR1.out (H.out.rd.below KN.toBelow)).mono ?_; rintro e wx ⟨c, ok, rfl, ha, rfl⟩; have HA := Lib.hid ha; clear ha)
  refine hK.out _ _ ?ldk6 (fun hHeld2 => ?ldm6)
  case ldk6 => exact (KN.old (cell_lt' H.out.cdead) (by simp)).trans H.out.cdead
  clear hK K hHeld
  have hHeld := hHeld2; clear hHeld2
  (try simp only [Act.put, List.setIfInBounds_toArray, List.set_cons_zero, List.set_cons_succ])
  refine wpAnyH_take (i := 7) (oi := ⟨some 11, _, _, _, _, _⟩) (v := ?ldv7) rfl (by kernel_rfl) (by kernel_rfl) (by kernel_rfl) (fun _ _ _ h => h) (Or.inl ⟨by rfl, ?ldhy7⟩) hHeld ?ldr7
  case ldhy7 => (intro w hSw; (try dsimp only at hSw); go_simp; (try with_reducible rfl))
  (try simp only [Act.put, List.setIfInBounds_toArray, List.set_cons_zero, List.set_cons_succ])
  refine wpAnyH_take (i := 8) (oi := ⟨some 12, _, _, _, _, _⟩) (v := ?ldv8) rfl (by kernel_rfl) (by kernel_rfl) (by kernel_rfl) (fun _ _ _ h => h) (Or.inl ⟨by rfl, ?ldhy8⟩) hHeld ?ldr8
  case ldhy8 => (intro w hSw; (try dsimp only at hSw); go_simp; (try with_reducible rfl))
  (try simp only [Act.put, List.setIfInBounds_toArray, List.set_cons_zero, List.set_cons_succ])
  refine wpAnyH_take (i := 9) (oi := ⟨some 2, _, _, _, _, _⟩) (v := ?ldv9) rfl (by kernel_rfl) (by kernel_rfl) (by kernel_rfl) (fun _ _ _ h => h) (Or.inl ⟨by rfl, ?ldhy9⟩) hHeld ?ldr9
  case ldhy9 => (intro w hSw; (try dsimp only at hSw); go_simp; (try with_reducible rfl))
  (try simp only [Act.put, List.setIfInBounds_toArray, List.set_cons_zero, List.set_cons_succ])
  refine wpAnyH_take (i := 10) (oi := ⟨some 3, _, _, _, _, _⟩) (v := ?ldv10) rfl (by kernel_rfl) (by kernel_rfl) (by kernel_rfl) (fun _ _ _ h => h) (Or.inl ⟨by rfl, ?ldhy10⟩) hHeld ?ldr10
  case ldhy10 => (intro w hSw; (try dsimp only at hSw); go_simp; (try with_reducible rfl))
  (try simp only [Act.put, List.setIfInBounds_toArray, List.set_cons_zero, List.set_cons_succ])
  refine wpAnyH_done (by kernel_rfl) ?lddone _
  go_wp2_with fail
  refine bodyPost_ret (results_tmp2 rfl _ _ _) rfl ?_
  exact ⟨c, ok, rfl, HA.out, KN.toBelow⟩
end Go.Proofs.Ytpjejaoobbancaa
