/- The law's sanity check. -/
import Derived.Test.YtpjejaoobbancaaPkSyn2
set_option linter.unusedVariables false
set_option linter.unusedSimpArgs false
set_option linter.unusedSectionVars false
namespace Go.Proofs.Ytpjejaoobbancaa
open Go.RowKit Go.BigFrame

theorem isCore_any (n : Int) (w : World) (h0 : 0 ≤ n) (h1 : n < 32) : Calls Try.prog 27 #[.int .i64 n] w fun e w' => e = .returned (.bool true) ∧ w = w' := by
  have d0 : decide (0 ≤ n) = true := decide_eq_true h0
  have d1 : decide (n < 32) = true := decide_eq_true h1
  go_enter Try.func27, Try.ntmps27
  go_wp2
  go_ret
  exact ⟨rfl, rfl⟩
theorem Leader_zero {w : World} {g : Nat} {vn : Int} {m dead : SL} {mem dd : List Int} (h : SyncRd w g vn m dead mem dd) (hv : ¬ vn = 0) (hl : (keepL dd mem).head? = some 0) :
    Calls Try.prog 20 #[.pointer (some ⟨g, 0, none⟩)] w fun e w' => e = .returned (.tuple #[.int .i64 0, .bool true]) ∧ Below w.heap.size w w' := by
  refine (Leader_any h hv).mono ?_
  rintro e w' ⟨c, ok, rfl, ha, hb⟩
  rcases ha with ⟨rfl, ha⟩ | ⟨_, _, ha⟩
  · obtain rfl : (0 : Int) = c := Option.some.inj (hl.symm.trans ha)
    exact ⟨rfl, hb⟩
  · rw [ha] at hl; cases hl
def LearnOut (g : Nat) (vn : Int) (rg m o ex : SL) (st num : Int) (dd : List Int) (c : Int) (om : Ents) (W : World) (e : Ending) (w' : World) : Prop :=
  ∃ (dead wt : SL) (od : Ents), e = .returned (.tuple #[]) ∧ OwnT 3 1 dead.v (intRows (dd ++ [c])) od ∧ Kn [] W w' ((g, At (syncA vn rg m o dead wt ex st num) 98) :: (om ++ od))
def LnR (g gx : Nat) (vn : Int) (rg m o ex : SL) (st num : Int) (dd : List Int) (c : Int) (om : Ents) (W : World) (i : Value) (wr : World) : Prop :=
  ∃ (k : Nat) (dl : SL) (od : Ents) (L : List Int), i = .int .i64 (k : Int) ∧ ((k = 0 ∧ L = dd) ∨ (k = 1 ∧ L = dd ++ [c])) ∧ OwnT 3 1 dl.v (intRows L) od ∧ Kn [] W wr ((gx, At #[.int .i64 c] 3) :: (g, At (syncA vn rg m o dl .nil ex st num) 98) :: (om ++ od))
set_option maxRecDepth 100000 in
set_option maxHeartbeats 8000000 in
theorem learn_one {W w : World} {g gx : Nat} {vn : Int} {rg m o dead ex : SL} {st num : Int} {dd : List Int} {c : Int} {om od : Ents} (KN : Kn [] W w ((gx, At #[.int .i64 c] 3) :: (g, At (syncA vn rg m o dead .nil ex st num) 98) :: (om ++ od))) (hd : OwnT 3 1 dead.v (intRows dd) od)
    (ld : dd.length ≤ 1000) (hc : ¬ c = 0) (hall : ∀ y ∈ dd, y < c) :
    Calls Try.prog 43 #[.pointer (some ⟨g, 0, none⟩), .slice (some ⟨gx, 0, none⟩) 1 1] w (LearnOut g vn rg m o ex st num dd c om W) := by
  have HD := Lib.hid hd
  have LD := Lib.hid ld
  have HALL := Lib.hid hall
  have hc0 : (c != 0) = true := by rw [bne_iff_ne]; exact hc
  clear hd ld hall hc
  go_enter Try.func43, Try.ntmps43
  go_wp2_with fail
  go_loopw [5, 8] (fun _ i wr => LnR g gx vn rg m o ex st num dd c om W i wr) (fun _ i _ => 1 - (intOf i).toNat)
  case atStart => exact ⟨0, dead, od, dd, rfl, .inl ⟨rfl, rfl⟩, HD.out, KN⟩
  case round =>
    clear KN
    obtain ⟨k, dl, od2, L, rfl, hk, OW, KN⟩ := hrel
    have HO := Lib.hid OW
    obtain ⟨da, dn, dc⟩ := dl
    clear OW
    rcases hk with ⟨rfl, hL⟩ | ⟨rfl, hL⟩
    · have HLL := Lib.hid hL
      have HAL : Hid (∀ y ∈ L, y < c) := Lib.hid (by rw [hL]; exact HALL.out)
      have LL : Hid (L.length ≤ 1000000) := Lib.hid (by rw [hL]; exact Nat.le_trans LD.out (by decide))
      clear hL
      go_wp2_with (first | (go_at_call 26; refine (include_end (v := .slice da dn dc) (f := fun o => (gx, _) :: (g, _) :: (om ++ o)) KN (.cons _ (.cons _ (.app .id _))) HO.out LL.out c HAL.out).mono ?_; rintro e wx ⟨v2, od3, gx2, rfl, O2, K2⟩; obtain ⟨xa, xn, xc, rfl⟩ := O2.form3; have HO2 := Lib.hid O2; clear KN; have KN := K2.drop .here; clear K2 O2) | ((with_reducible refine wpList_gate ?_); first | ((with_reducible refine gate_load ?_ ?_); rfl; first | (refine ks_load1 KN 3 Try.underlying3 ?_) | (refine ks_load1 KN 22 Try.underlying22 ?_)) | ((with_reducible refine gate_store ?_ ?_); rfl; first | (refine ks_store1 KN 22 ?_; clear KN; intro wx KN))))
      replace KN := KN.as_ g (syncA vn rg m o ⟨xa, xn, xc⟩ .nil ex st num) (by repeat (first | exact Repl.here | apply Repl.there)) (by kernel_rfl)
      go_roundw
      case rel => exact ⟨1, ⟨xa, xn, xc⟩, od3, L ++ [c], rfl, .inr ⟨rfl, by rw [HLL.out]⟩, HO2.out, KN⟩
      case measure => simp [intOf]
    · have HLL := Lib.hid hL
      clear hL
      go_upto_region 6 with fail
      (try go_frame)
      replace KN := KN.drew
      refine wp_region_held_drew (S := (fun w' => w'.cell? ⟨g, 20, none⟩ = some (.slice da dn dc))) (by kernel_rfl) ?lehS (fun hHeld => ?lerest)
      case lehS => exact KN.cell (g := g) (o := 20) (by repeat (first | exact Has.here | refine Has.there ?_)) rfl
      refine wpAnyH_take (i := 0) (oi := ⟨some 28, _, _, _, _, _⟩) (v := ?lev0) rfl (by kernel_rfl) (by kernel_rfl) (by kernel_rfl) (fun _ _ _ h => h) (Or.inl ⟨by rfl, ?lehy0⟩) hHeld ?ler0
      case lehy0 => (intro w hSw; (try dsimp only at hSw); go_simp; (try with_reducible rfl))
      (try simp only [Act.put, List.setIfInBounds_toArray, List.set_cons_zero, List.set_cons_succ])
      refine wpAnyH_take (i := 1) (oi := ⟨some 29, _, _, _, _, _⟩) (v := ?lev1) rfl (by kernel_rfl) (by kernel_rfl) (by kernel_rfl) (fun _ _ _ h => h) (Or.inl ⟨by rfl, ?lehy1⟩) hHeld ?ler1
      case lehy1 => (intro w hSw; (try dsimp only at hSw); go_simp; (try with_reducible rfl))
      (try simp only [Act.put, List.setIfInBounds_toArray, List.set_cons_zero, List.set_cons_succ])
      refine wpAnyH_take (i := 2) (oi := ⟨some 30, _, _, _, _, _⟩) (v := ?lev2) rfl (by kernel_rfl) (by kernel_rfl) (by kernel_rfl) (fun _ _ _ h => h) (Or.inl ⟨by rfl, ?lehy2⟩) hHeld ?ler2
      case lehy2 => (intro w hSw; (try dsimp only at hSw); go_simp; (try with_reducible rfl))
      (try simp only [Act.put, List.setIfInBounds_toArray, List.set_cons_zero, List.set_cons_succ])
      refine wpAnyH_take (i := 3) (oi := ⟨some 31, _, _, _, _, _⟩) (v := ?lev3) rfl (by kernel_rfl) (by kernel_rfl) (by kernel_rfl) (fun _ _ _ h => h) (Or.inl ⟨by rfl, ?lehy3⟩) hHeld ?ler3
      case lehy3 => (intro w hSw; (try dsimp only at hSw); go_simp; (try with_reducible rfl))
      (try simp only [Act.put, List.setIfInBounds_toArray, List.set_cons_zero, List.set_cons_succ])
      refine wpAnyH_take (i := 5) (oi := ⟨some 33, _, _, _, _, _⟩) (v := ?lev5) rfl (by kernel_rfl) (by kernel_rfl) (by kernel_rfl) (fun _ _ _ h => h) (Or.inl ⟨by rfl, ?lehy5⟩) hHeld ?ler5
      case lehy5 => (intro w hSw; (try dsimp only at hSw); go_simp; (try with_reducible rfl))
      (try simp only [Act.put, List.setIfInBounds_toArray, List.set_cons_zero, List.set_cons_succ])
      refine wpAnyH_take (i := 6) (oi := ⟨some 34, _, _, _, _, _⟩) (v := ?lev6) rfl (by kernel_rfl) (by kernel_rfl) (by kernel_rfl) (fun _ _ _ h => h) (Or.inl ⟨by rfl, ?lehy6⟩) hHeld ?ler6
      case lehy6 => (intro w hSw; (try dsimp only at hSw); go_simp; (try with_reducible rfl))
      (try simp only [Act.put, List.setIfInBounds_toArray, List.set_cons_zero, List.set_cons_succ])
      refine wpAnyH_take (i := 7) (oi := ⟨some 35, _, _, _, _, _⟩) (v := ?lev7) rfl (by kernel_rfl) (by kernel_rfl) (by kernel_rfl) (fun _ _ _ h => h) (Or.inl ⟨by rfl, ?lehy7⟩) hHeld ?ler7
      case lehy7 => (intro w hSw; (try dsimp only at hSw); go_simp; (try with_reducible rfl))
      (try simp only [Act.put, List.setIfInBounds_toArray, List.set_cons_zero, List.set_cons_succ])
      refine wpAnyH_take (i := 8) (oi := ⟨some 36, _, _, _, _, _⟩) (v := (.slice da dn dc)) rfl (by kernel_rfl) (by kernel_rfl) (by kernel_rfl) (fun _ _ _ h => h) (kn_yields_cell (by rfl) 22 _ rfl g 20 rfl _ (fun _ h => h) _ Try.underlying22 rfl) hHeld ?ler8
      (try simp only [Act.put, List.setIfInBounds_toArray, List.set_cons_zero, List.set_cons_succ])
      refine wpAnyH_ready (rs := [4]) (by kernel_rfl) (by simp) ?lec4
      refine AllReadyH.cons (o := ⟨some 32, _, _, _, _, _⟩) rfl (fun K hK => ?lest4) AllReadyH.nil
      (rw [if_pos (by rfl)]; refine wp_kn_load1 KN 22 _ rfl g 21 rfl _ 98 (by repeat (first | exact Has.here | refine Has.there ?_)) (.slice none 0 0) rfl _ Try.underlying22 rfl ?_)
      refine hK.out _ _ ?lek4 (fun hHeld2 => ?lem4)
      case lek4 => exact KN.cell (g := g) (o := 20) (by repeat (first | exact Has.here | refine Has.there ?_)) rfl
      clear hK K hHeld
      have hHeld := hHeld2; clear hHeld2
      (try simp only [Act.put, List.setIfInBounds_toArray, List.set_cons_zero, List.set_cons_succ])
      refine wpAnyH_ready (rs := [9]) (by kernel_rfl) (by simp) ?lec9
      refine AllReadyH.cons (o := ⟨some 37, _, _, _, _, _⟩) rfl (fun K hK => ?lest9) AllReadyH.nil
      go_simp
      (refine (exclude_any (v := .slice none 0 0) (zs := []) (outv := .slice da dn dc) ⟨by simp, .inl ⟨rfl, _, _, rfl⟩⟩ (by simp) (HO.out.row (f := fun o => (gx, _) :: (g, _) :: (om ++ o)) KN (.cons _ (.cons _ (.app .id _))))).mono ?_; rintro e wx ⟨v2, oe, rfl, O2, K2⟩; obtain ⟨xa, xn, xc, rfl⟩ := O2.form3; replace KN := KN.below K2.toBelow; clear K2 O2)
      refine hK.out _ _ ?lek9 (fun hHeld2 => ?lem9)
      case lek9 => exact KN.cell (g := g) (o := 20) (by repeat (first | exact Has.here | refine Has.there ?_)) rfl
      clear hK K hHeld
      have hHeld := hHeld2; clear hHeld2
      (try simp only [Act.put, List.setIfInBounds_toArray, List.set_cons_zero, List.set_cons_succ])
      refine wpAnyH_take (i := 10) (oi := ⟨some 38, _, _, _, _, _⟩) (v := ?lev10) rfl (by kernel_rfl) (by kernel_rfl) (by kernel_rfl) (fun _ _ _ h => h) (Or.inl ⟨by rfl, ?lehy10⟩) hHeld ?ler10
      case lehy10 => (intro w hSw; (try dsimp only at hSw); go_simp; (try with_reducible rfl))
      (try simp only [Act.put, List.setIfInBounds_toArray, List.set_cons_zero, List.set_cons_succ])
      refine wpAnyH_take (i := 11) (oi := ⟨some 39, _, _, _, _, _⟩) (v := ?lev11) rfl (by kernel_rfl) (by kernel_rfl) (by kernel_rfl) (fun _ _ _ h => h) (Or.inl ⟨by rfl, ?lehy11⟩) hHeld ?ler11
      case lehy11 => (intro w hSw; (try dsimp only at hSw); go_simp; (try with_reducible rfl))
      (try simp only [Act.put, List.setIfInBounds_toArray, List.set_cons_zero, List.set_cons_succ])
      refine wpAnyH_ready (rs := [12]) (by kernel_rfl) (by simp) ?lec12
      refine AllReadyH.cons (o := ⟨none, _, _, _, _, _⟩) rfl (fun K hK => ?lest12) AllReadyH.nil
      (rw [if_pos (by rfl)]; refine wp_kn_store1 KN 22 _ _ rfl g 21 rfl (.slice xa xn xc) rfl rfl _ 98 (by repeat (first | exact Repl.here | apply Repl.there)) (by (try simp only [Array.size_setIfInBounds, putL_size]); first | exact Nat.le_of_ble_eq_true rfl | (simp; omega)) (by kernel_rfl) (by rfl) ?_; clear KN; intro wx KN)
      refine hK.out _ _ ?lek12 (fun hHeld2 => ?lem12)
      case lek12 => exact KN.cell (g := g) (o := 20) (by repeat (first | exact Has.here | refine Has.there ?_)) rfl
      clear hK K hHeld
      have hHeld := hHeld2; clear hHeld2
      (try simp only [Act.put, List.setIfInBounds_toArray, List.set_cons_zero, List.set_cons_succ])
      refine wpAnyH_done (by kernel_rfl) ?ledone _
      replace KN := KN.as_ g (syncA vn rg m o ⟨da, dn, dc⟩ ⟨xa, xn, xc⟩ ex st num) (by repeat (first | exact Repl.here | apply Repl.there)) (by kernel_rfl)
      go_wp2_with fail
      first | go_end0 | refine bodyPost_ret (results_none rfl _ _ _) rfl ?_
      exact ⟨⟨da, dn, dc⟩, ⟨xa, xn, xc⟩, od2, rfl, by rw [← HLL.out]; exact HO.out, KN.drop .here⟩
set_option maxRecDepth 100000 in
set_option maxHeartbeats 8000000 in
theorem check_lead {W w : World} {g : Nat} {vn : Int} {rg m o dead wt ex : SL} {num : Int} {mem dd : List Int} {om omx od : Ents} (KN : Kn [] W w ((g, At (syncA vn rg m o dead wt ex 0 num) 98) :: (omx ++ od))) (hm : OwnT 3 1 m.v (intRows mem) om) (hs : om.Sublist omx) (hd : OwnT 3 1 dead.v (intRows dd) od)
    (lm : mem.length ≤ 1000000) (ld : dd.length ≤ 1000000) (hv : ¬ vn = 0) (hn0 : 0 ≤ num) (hn1 : num ≤ 1000000) (hl : (keepL dd mem).head? = some 0) (hx : ∃ z ∈ mem, z ∈ dd) :
    Calls Try.prog 45 #[.pointer (some ⟨g, 0, none⟩)] w (BeginOut g vn rg m o dead wt num mem dd omx od W) := by
  have HM := Lib.hid hm
  have HD := Lib.hid hd
  have LM := Lib.hid lm
  have LD := Lib.hid ld
  have HV := Lib.hid hv
  have HH := Lib.hid hl
  have HX := Lib.hid hx
  have SM : Hid (∀ z : Nat × (Obj → Prop), om.Sublist (z :: (omx ++ od))) := Lib.hid (fun z => List.Sublist.cons _ (hs.trans (List.sublist_append_left _ _)))
  have SD : Hid (∀ z : Nat × (Obj → Prop), od.Sublist (z :: (omx ++ od))) := Lib.hid (fun z => List.Sublist.cons _ (List.sublist_append_right _ _))
  clear hm hd lm ld hv hl hx
  go_enter Try.func45, Try.ntmps45
  go_wp2_with (first | (go_at_call 20; refine (Leader_zero (SyncRd.of KN (by repeat (first | exact Has.here | refine Has.there ?_)) HM.out HD.out (SM.out _) (SD.out _) LM.out LD.out) HV.out HH.out).mono ?_; rintro e wx ⟨rfl, hb⟩; replace KN := KN.below hb; clear hb) | (go_at_call 60; refine (due_yes (SyncRd.of KN (by repeat (first | exact Has.here | refine Has.there ?_)) HM.out HD.out (SM.out _) (SD.out _) LM.out LD.out) HV.out HX.out).mono ?_; rintro e wx ⟨rfl, hb⟩; replace KN := KN.below hb; clear hb) | (go_at_call 44; refine (begin_any KN HM.out hs HD.out LM.out LD.out HV.out hn0 hn1).mono ?_; rintro e wx ⟨v, rows, ol, ex2, rfl, h1, h2, K2⟩; have HO1 := Lib.hid h1; have HO2 := Lib.hid h2; clear KN; have KN := K2; clear K2 h1 h2) | ((with_reducible refine wpList_gate ?_); first | ((with_reducible refine gate_load ?_ ?_); rfl; first | (refine ks_load1 KN 3 Try.underlying3 ?_) | (refine ks_load1 KN 96 Try.underlying96 ?_))))
  go_ret
  exact ⟨v, rows, ol, ex2, rfl, HO1.out, HO2.out, KN⟩
set_option maxRecDepth 100000 in
set_option maxHeartbeats 4000000 in
theorem repeat_lead {w : World} {g : Nat} {vn : Int} {m dead : SL} {mem dd : List Int} (h : SyncRd w g vn m dead mem dd) (hv : ¬ vn = 0) (hl : (keepL dd mem).head? = some 0) :
    Calls Try.prog 46 #[.pointer (some ⟨g, 0, none⟩)] w fun e w' => e = .returned (.slice none 0 0) ∧ Below w.heap.size w w' := by
  have KN := Kn.start w
  have H := Lib.hid h
  clear h
  go_enter Try.func46, Try.ntmps46
  go_wp2_with (first | (go_at_call 20; refine (Leader_zero (H.out.below KN.toBelow) hv hl).mono ?_; rintro e wx ⟨rfl, hb⟩; replace KN := KN.below hb; clear hb) | (refine wpList_kn_old1 KN (by rfl) 3 _ rfl g 0 rfl _ H.out.ccore (by simp) _ Try.underlying3 rfl ?_))
  go_ret
  exact ⟨rfl, KN.toBelow⟩
def DetOut (g : Nat) (vn : Int) (rg m o : SL) (num : Int) (mem : List Int) (c : Int) (om : Ents) (W : World) (e : Ending) (w' : World) : Prop :=
  ∃ (v : Value) (rows : List (List Value)) (ol od : Ents) (dead wt ex : SL), e = .returned v ∧ OwnT 69 74 v rows ol ∧ MsgRows rows (keepL [c] mem) 1 ∧ OwnT 3 1 dead.v (intRows [c]) od ∧ Kn [] W w' ((g, At (syncA vn rg m o dead wt ex 1 (num + 1)) 98) :: ((om ++ od) ++ ol))
set_option maxRecDepth 100000 in
set_option maxHeartbeats 8000000 in
theorem Detect_first {W w : World} {g : Nat} {vn : Int} {rg m o : SL} {num : Int} {mem : List Int} {om omx : Ents} (KN : Kn [] W w ((g, At (syncA vn rg m o .nil .nil .nil 0 num) 98) :: omx)) (hm : OwnT 3 1 m.v (intRows mem) om) (hs : om.Sublist omx)
    (lm : mem.length ≤ 1000000) (hv : ¬ vn = 0) (hn0 : 0 ≤ num) (hn1 : num ≤ 1000000) (c : Int) (hc0 : 0 < c) (hc1 : c < 32) (hl : (keepL [c] mem).head? = some 0) (hx : c ∈ mem) :
    Calls Try.prog 19 #[.pointer (some ⟨g, 0, none⟩), .int .i64 c] w (DetOut g vn rg m o num mem c omx W) := by
  have HM := Lib.hid hm
  have LM := Lib.hid lm
  have HV := Lib.hid hv
  have HH := Lib.hid hl
  have HX : Hid (∃ z ∈ mem, z ∈ [c]) := Lib.hid ⟨c, hx, by simp⟩
  have hcz : (c == 0) = false := beq_eq_false_iff_ne.2 (by omega)
  have HNE : Hid (¬ c = 0) := Lib.hid (by omega)
  clear hm lm hv hl hx
  go_enter Try.func19, Try.ntmps19
  go_upto_region 8 with (first | (go_at_call 27; refine (isCore_any c _ (by omega) hc1).mono ?_; rintro e wx ⟨rfl, rfl⟩) | (go_at_call 42; refine (isDead_any (dv := .slice none 0 0) (dd := []) (KN.cell (g := g) (o := 20) .here rfl) ⟨by simp, .inl ⟨rfl, _, _, rfl⟩⟩ c).mono ?_; rintro e wx ⟨rfl, rfl⟩) | (go_at_call 43; refine (learn_one (dead := .nil) (dd := []) (od := []) (by rw [List.append_nil]; exact KN) .nil (by simp) HNE.out (by simp)).mono ?_; rintro e wx ⟨dead, wt, od, rfl, O1, K2⟩; have HD := Lib.hid O1; clear KN; have KN := K2; clear K2 O1) | (go_at_call 45; refine (check_lead KN HM.out hs HD.out LM.out (by simp) HV.out hn0 hn1 HH.out HX.out).mono ?_; rintro e wx ⟨v, rows, ol, ex2, rfl, h1, h2, K2⟩; have HO1 := Lib.hid h1; have HO2 := Lib.hid h2; clear KN; have KN := K2; clear K2 h1 h2) | ((with_reducible refine wpList_gate ?_); first | (refine wpList_kn_lit KN (by rfl) 22 3 1 _ rfl 24 rfl Try.underlying22 #[.int .i64 c] (by kernel_rfl) ?_; clear KN; intro g24 wx hg24 KN) | ((with_reducible refine gate_load ?_ ?_); rfl; first | (refine ks_load1 KN 3 Try.underlying3 ?_) | (refine ks_load1 KN 96 Try.underlying96 ?_))))
  (try go_frame)
  obtain ⟨va, vn', vc, rfl, hvn⟩ := HO1.out.form4
  have HVN := Lib.hid hvn
  have HRL : Hid (rows.length ≤ 1000000) := Lib.hid (by rw [HO2.out.1]; exact Nat.le_trans (keepL_le _ _) LM.out)
  clear hvn
  go_wp2_with (first | (go_at_call 46; refine (repeat_lead (SyncRd.of (dd := [c]) KN (by repeat (first | exact Has.here | refine Has.there ?_)) HM.out HD.out (List.Sublist.cons _ (hs.trans ((List.sublist_append_left _ _).trans (List.sublist_append_left _ _)))) (List.Sublist.cons _ ((List.sublist_append_right _ _).trans (List.sublist_append_left _ _))) LM.out (by simp)) HV.out HH.out).mono ?_; rintro e wx ⟨rfl, hb⟩; replace KN := KN.below hb; clear hb) | ((with_reducible refine wpList_gate ?_); first | (at_builtin; refine wpList_kn_appendR (f := fun o => (g, _) :: ((omx ++ od) ++ o)) KN HO1.out (by rfl) _ _ 53 rfl 1056 Try.underlying53 msg_info (by decide) rfl (.slice none 0 0) rfl [] ⟨by simp, .inl ⟨rfl, _, _, rfl⟩⟩ (by simp) (by simp) (by have := HRL.out; unfold maxLen; simp; omega) (by have := HRL.out; simp; omega) (.cons _ (.app .id _)) rfl ?_; clear KN; intro v38 wx ol38 OW38 KN; have HO38 := Lib.hid OW38; clear OW38) | ((with_reducible refine gate_load ?_ ?_); rfl; first | (refine ks_load1 KN 3 Try.underlying3 ?_) | (refine ks_load1 KN 96 Try.underlying96 ?_))))
  go_ret
  exact ⟨v38, rows, ol38, od, dead, wt, ex2, rfl, by have := HO38.out; rwa [List.append_nil] at this, HO2.out, HD.out, KN⟩
theorem Dead_any {w : World} {dv : Value} {dd : List Int} {g : Nat} (hc : w.cell? ⟨g, 20, none⟩ = some dv) (hr : Row w dv 1 (intRows dd)) (ld : dd.length ≤ 1000000) :
    Calls Try.prog 21 #[.pointer (some ⟨g, 0, none⟩)] w fun e w' => ∃ a c, e = .returned (.slice a dd.length c) ∧ Below w.heap.size w w' := by
  have HR := Lib.hid hr
  obtain ⟨oa, oc, rfl, _⟩ := ints_form hr
  have HLD := Lib.hid ld
  obtain ⟨n, hn⟩ : ∃ n, n = dd.length := ⟨_, rfl⟩
  rw [← hn] at hc HR
  have HN := Lib.hid hn
  rw [← hn]
  clear hr ld hn
  go_enter Try.func21, Try.ntmps21
  go_wp2_with (go_at_call 34; refine (Clone_any HR.out HLD.out).mono ?_; rintro e wx ⟨v1, oc1, rfl, O1, K2, _⟩; obtain ⟨ca, cn, cc, rfl, hcn⟩ := O1.form4; have HCN : Hid (cn = n) := Lib.hid (by rw [hcn, List.length_map, HN.out]); have HB := Lib.hid K2.toBelow; clear K2 O1 hcn)
  go_ret
  exact ⟨ca, cc, by rw [HCN.out]; rfl, HB.out⟩
set_option maxRecDepth 100000 in
set_option maxHeartbeats 4000000 in
theorem VView_any {W w : World} {g : Nat} {vn : Int} {rg m o dead wt ex : SL} {st num : Int} {mem own : List Int} {l : Ents} (KN0 : Kn [] W w l) (mg : Has l g (At (syncA vn rg m o dead wt ex st num) 98)) (hm : Row w m.v 1 (intRows mem)) (ho : Row w o.v 1 (intRows own)) (lm : mem.length ≤ 1000000) (lo : own.length ≤ 1000000) :
    Calls Try.prog 22 #[.pointer (some ⟨g, 0, none⟩)] w fun e w' => ∃ x y, e = .returned (.agg #[.int .i64 vn, x, y]) ∧ Below w.heap.size w w' := by
  have KN := Kn.start w
  have HB := Lib.hid (KN0.at_ mg)
  have HM := Lib.hid hm
  have HO := Lib.hid ho
  have LM := Lib.hid lm
  have LO := Lib.hid lo
  have RNG : Hid (w.rangeAt g 3 [.int .i64 vn, m.v, o.v]) := Lib.hid (by
    intro j v hj
    have hl : j < 3 := (List.getElem?_eq_some_iff.1 hj).1
    have : j = 0 ∨ j = 1 ∨ j = 2 := by omega
    rcases this with rfl | rfl | rfl
    · exact (KN0.cell mg (o := 3) (v := .int .i64 vn) rfl).trans hj
    · exact (KN0.cell mg (o := 4) (v := m.v) rfl).trans hj
    · exact (KN0.cell mg (o := 5) (v := o.v) rfl).trans hj)
  have hgl : g < w.heap.size := KN0.lt mg
  clear KN0 mg hm ho lm lo
  go_enter Try.func22, Try.ntmps22
  go_wp2_with (first | (go_at_call 40; refine (copyView_any (HM.out.below KN.toBelow) (HO.out.below KN.toBelow) LM.out LO.out).mono ?_; rintro e wx ⟨ma, mn, mc, oa, on, oc, om, oo, rfl, O1, O2, K2⟩; replace KN := KN.below K2.toBelow; clear K2 O1 O2) | ((with_reducible refine wpList_gate ?_); first | ((with_reducible refine gate_load ?_ ?_); rfl; first | (refine wpList_kn_oldN KN (by rfl) 30 _ rfl g 3 rfl #[.int .i64 vn, m.v, o.v] RNG.out hgl (by simp) _ Try.underlying30 rfl (by kernel_rfl) ?_) | (refine ks_loadW KN 30 Try.underlying30 ?_)) | ((with_reducible refine gate_store ?_ ?_); rfl; first | (refine ks_storeW KN 30 ?_; clear KN; intro wx KN) | (refine ks_storeA KN 30 ?_; clear KN; intro wx KN)) | ((with_reducible refine gate_new ?_ ?_); rfl; first | (refine ks_alloc KN 30 (q := 2) #[.int .i64 0, .slice none 0 0, .slice none 0 0] ?_; clear KN; intro g2 wx hg2 KN))))
  refine bodyPost_ret (results_cell_row (p := 2) Try.results22 _ _ g2 30 #[.int .i64 vn, .slice ma mn mc, .slice oa on oc] (0, 0) _ rfl (KN.at_ (by repeat (first | exact Has.here | refine Has.there ?_))) Try.underlying30 rfl (by kernel_rfl)) rfl ?_
  exact ⟨_, _, rfl, KN.toBelow⟩
end Go.Proofs.Ytpjejaoobbancaa
