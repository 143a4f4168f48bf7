/- cluster.New: what it refuses; the cluster that it makes. -/
import Derived.Test.YtlhmeeidlhpodaaGreatPkCKern
import Derived.Test.YtlhmeeidlhpodaaGreatPkClB
import Derived.Test.YtlhmeeidlhpodaaGreatPkClC
import Derived.Test.YtlhmeeidlhpodaaGreatPkCMap
set_option linter.unusedVariables false
set_option linter.unusedSimpArgs false
set_option linter.unusedSectionVars false
namespace Go.Proofs.YtlhmeeidlhpodaaGreat
open Go.RowKit Go.BigFrame
set_option maxRecDepth 100000 in
set_option maxHeartbeats 4000000 in
theorem CNew_bad {w : World} {sw sr so : Value} {c : Cfg} (h : CfgRd w sw sr so c) (hv : ¬ ValidC c) : Calls Tryz.prog 5 #[.agg #[sw, .int .i64 c.st, .int .i64 c.sl, sr, so]] w fun e w' => e = .returned (.tuple #[.pointer none, .int .i64 1]) ∧ Below w.heap.size w w' := by
  have KN := Kn.start w
  obtain ⟨st, hst⟩ : ∃ x, x = c.st := ⟨_, rfl⟩
  obtain ⟨sl, hsl⟩ : ∃ x, x = c.sl := ⟨_, rfl⟩
  have HPV : Hid (∀ wx, Below w.heap.size w wx → Calls Tryz.prog 16 #[.int .i64 0, .agg #[sw, .int .i64 st, .int .i64 sl, sr, so]] wx fun e w' => e = .returned (.tuple #[.pointer none, .int .i64 1]) ∧ Below wx.heap.size wx w') := Lib.hid fun wx hb => by
    rw [hst, hsl]
    exact KNew_bad 0 (h.below hb) hv
  rw [← hst, ← hsl]
  clear h hv hst hsl
  go_enter Tryz.func5, Tryz.ntmps5
  go_wp2_with (first | (go_at_call 16; refine (HPV.out _ KN.toBelow).mono ?_; rintro e wx ⟨rfl, hb1⟩; replace KN := KN.below hb1; clear hb1) | ((with_reducible refine wpList_gate ?_); first | ((with_reducible refine gate_load ?_ ?_); rfl; first | (refine ks_loadW KN 25 Tryz.underlying25 ?_) | (refine ks_load1 KN 22 Tryz.underlying22 ?_) | (refine ks_load1 KN 23 Tryz.underlying23 ?_) | (refine ks_load1 KN 60 Tryz.underlying60 ?_) | (refine ks_load1 KN 58 Tryz.underlying58 ?_) | (refine ks_load1 KN 3 Tryz.underlying3 ?_) | (refine ks_load1 KN 51 Tryz.underlying51 ?_)) | ((with_reducible refine gate_store ?_ ?_); rfl; first | (refine ks_store1 KN 22 ?_; clear KN; intro wx KN) | (refine ks_store1 KN 23 ?_; clear KN; intro wx KN) | (refine ks_store1 KN 60 ?_; clear KN; intro wx KN) | (refine ks_store1 KN 4 ?_; clear KN; intro wx KN) | (refine ks_storeW KN 63 ?_; clear KN; intro wx KN) | (refine ks_storeA KN 63 ?_; clear KN; intro wx KN)) | ((with_reducible refine gate_new ?_ ?_); rfl; first | (refine ks_boxA KN 25 (q := 1) ?_; clear KN; intro g1 wx hg1 KN) | (refine ks_boxA KN 65 (q := 40) ?_; clear KN; intro g40 wx hg40 KN))))
  refine bodyPost_ret (results_tmp2 rfl _ _ _) rfl ?_
  exact ⟨rfl, KN.toBelow⟩
/-- A cluster, while it is made. -/
def cluA (sw : Value) (st sl : Int) (sr so sk : Value) (n gr gd gm : Nat) : Array Value := #[sw, .int .i64 st, .int .i64 sl, sr, so, sk, .slice (some ⟨gr, 0, none⟩) n n, .slice (some ⟨gd, 0, none⟩) n n, .map (some gm), .int .i64 0, .slice none 0 0, .slice none 0 0, .slice none 0 0, .int .i64 0, .slice none 0 0, .slice none 0 0]
theorem bool_info : (Tryz.prog.info? 4).map (fun i => (i.size, i.bytes, i.zero.map (·.cells.size))) = some (1, 1, some 1) := by kernel_rfl
theorem bool_zero : (((Tryz.prog.info? 4).bind (·.zero)).map (·.cells) |>.getD #[]) = #[.bool false] := by kernel_rfl
/-- All false. -/
def AllF (n : Nat) (cs : Array Value) : Prop := cs.size = n ∧ ∀ (i : Nat) (x : Value), cs[i]? = some x → x = .bool false
def CutC (w : World) (g1 : Nat) (cfg : Array Value) (n : Nat) (sw : Value) (st sl : Int) (sr so : Value) (ol : Ents) (s7 : Value) (wz : World) : Prop := ∃ (gc gr gd gm : Nat) (rcs dcs : Array Value), s7 = .pointer (some ⟨gc, 0, none⟩) ∧ AllF n rcs ∧ AllF n dcs ∧
  Kn [] w wz ((gc, At (cluA sw st sl sr so (.slice none 0 0) n gr gd gm) 65) :: (gr, At rcs 4) :: (gd, At dcs 4) :: (gm, MapIs [] 0) :: (g1, At cfg 25) :: ol)
def CNOut (w : World) (n sm : Nat) (e : Ending) (w' : World) : Prop := ∃ (gc gr gd gm : Nat) (ak : Option Addr) (ck : Nat) (mv : Value), e = .returned (.tuple #[.pointer (some ⟨gc, 0, none⟩), .int .i64 0]) ∧ CluRd w' gc n sm gr gd gm ak ck mv ∧ Below w.heap.size w w'
/-- What is known of the first kernel, once it is made. -/
def CExtra (sm : Nat) (own : List Int) (k : Nat) (L : List (List Value)) (ex : Ents) : Prop := (k = 0 ∧ ex = []) ∨ (0 < k ∧ ∃ (gk gy : Nat) (ka : Array Value) (rg m o : Value) (sl : Int) (om oo : Ents), L[0]? = some [.pointer (some ⟨gk, 0, none⟩)] ∧ ka[13]? = some (.pointer (some ⟨gy, 0, none⟩)) ∧ OwnT 3 1 m (intRows (upto sm)) om ∧ OwnT 3 1 o (intRows own) oo ∧
  ex = (gk, At ka 95) :: (gy, At (syncN 0 rg sl 1 m o) 146) :: (om ++ oo))
theorem CExtra.snoc {sm : Nat} {own : List Int} {k : Nat} {L : List (List Value)} {ex : Ents} (h : CExtra sm own k L ex) (hk : ¬ k = 0) (r : List Value) : CExtra sm own (k + 1) (L ++ [r]) ex := by
  rcases h with ⟨h, _⟩ | ⟨_, gk, gy, ka, rg, m, o, sl, om, oo, h1, h2⟩
  · exact absurd h hk
  · exact .inr ⟨Nat.succ_pos _, gk, gy, ka, rg, m, o, sl, om, oo, by rw [List.getElem?_append_left (List.getElem?_eq_some_iff.1 h1).1]; exact h1, h2⟩
def CLoop (w : World) (gc gr gd gm g1 : Nat) (sw : Value) (st sl : Int) (sr so : Value) (n sm : Nat) (cfg dcs : Array Value) (ol : Ents) (own : List Int) (i : Value) (wr : World) : Prop := ∃ (k : Nat) (vk : Value) (L : List (List Value)) (ok ex : Ents) (rcs : Array Value), i = .int .i64 (k : Int) ∧ k ≤ n ∧ OwnT 51 1 vk L ok ∧ L.length = k ∧ rcs.size = n ∧
  (∀ j, j < k → rcs[j]? = some (.bool (decide (j < sm)))) ∧ CExtra sm own k L ex ∧ Kn [] w wr ((gc, At (cluA sw st sl sr so vk n gr gd gm) 65) :: (gr, At rcs 4) :: (gd, At dcs 4) :: (gm, MapIs [] 0) :: (g1, At cfg 25) :: (ol ++ (ex ++ ok)))
theorem kp_info : (Tryz.prog.info? 51).map (fun i => (i.size, i.bytes, i.zero.map (·.cells.size))) = some (1, 8, some 1) := by kernel_rfl
theorem sub_1 (a b c d : Ents) : a.Sublist ((a ++ (b ++ c)) ++ d) := (List.sublist_append_left a _).trans (List.sublist_append_left _ d)
theorem sub_c5 {x y z t u : Nat × (Obj → Prop)} {l l' : Ents} (h : l'.Sublist l) : l'.Sublist (x :: y :: z :: t :: u :: l) := .cons _ (.cons _ (.cons _ (.cons _ (.cons _ h))))
theorem AllF.get {n : Nat} {cs : Array Value} (h : AllF n cs) {i : Nat} (hi : i < n) : cs[i]? = some (.bool false) := by
  have hi' : i < cs.size := by rw [h.1]; exact hi
  have := Array.getElem?_eq_getElem hi'
  rw [this, h.2 i _ this]
theorem perm_new (A ok N : Ents) : ((A ++ ([] ++ ok)) ++ N).Perm (A ++ (N ++ ok)) := by
  rw [List.nil_append, List.append_assoc]
  exact List.Perm.append_left A List.perm_append_comm
theorem sub_c7 {x y z t u v s : Nat × (Obj → Prop)} {l l' : Ents} (h : l'.Sublist l) : l'.Sublist (x :: y :: z :: t :: u :: v :: s :: l) := .cons _ (.cons _ (sub_c5 h))
theorem perm_last2 (x y z : Nat × (Obj → Prop)) (A : Ents) : (x :: y :: (A ++ [z])).Perm (z :: x :: y :: A) := List.perm_append_comm (l₁ := x :: y :: A) (l₂ := [z])
theorem run_set {rcs : Array Value} {n k sm : Nat} (hs : rcs.size = n) (hk : k < n) (h : ∀ j, j < k → rcs[j]? = some (.bool (decide (j < sm)))) : ∀ j, j < k + 1 → (rcs.setIfInBounds k (.bool (decide (k < sm))))[j]? = some (.bool (decide (j < sm))) := fun j hj => by
  rw [Array.getElem?_setIfInBounds]
  by_cases hjk : k = j
  · subst hjk
    rw [if_pos rfl, if_pos (by omega)]
  · rw [if_neg hjk]
    exact h j (by omega)
set_option maxRecDepth 100000 in
set_option maxHeartbeats 16000000 in
theorem CNew_any {w : World} {sw sr so : Value} {c : Cfg} (h : CfgRd w sw sr so c) (hv : ValidC c) : Calls Tryz.prog 5 #[.agg #[sw, .int .i64 c.st, .int .i64 c.sl, sr, so]] w (CNOut w c.ws.length c.st.toNat) := by
  have KN := Kn.start w
  obtain ⟨wa, wc, rfl, hwm, hwf⟩ := ints_form h.rw_
  obtain ⟨ra, rc, rfl, hrm, hrf⟩ := reg_at h.rr
  obtain ⟨oa, oc, rfl, hom, hof⟩ := ints_form h.ro
  have HV := Lib.hid hv
  have HC := Lib.hid h
  obtain ⟨st, hst⟩ : ∃ x, x = c.st := ⟨_, rfl⟩
  obtain ⟨sl, hsl⟩ : ∃ x, x = c.sl := ⟨_, rfl⟩
  obtain ⟨nw, hnw⟩ : ∃ n, n = c.ws.length := ⟨_, rfl⟩
  obtain ⟨nr, hnr⟩ : ∃ n, n = c.rs.length := ⟨_, rfl⟩
  obtain ⟨no, hno⟩ : ∃ n, n = c.os.length := ⟨_, rfl⟩
  have HPV : Hid (∀ wx, Below w.heap.size w wx → Calls Tryz.prog 16 #[.int .i64 0, .agg #[.slice wa nw wc, .int .i64 st, .int .i64 sl, .slice ra nr rc, .slice oa no oc]] wx fun e w' => (∃ gk, e = .returned (.tuple #[.pointer (some ⟨gk, 0, none⟩), .int .i64 0])) ∧ Below wx.heap.size wx w') := Lib.hid fun wx hb => by
    rw [hst, hsl, hnw, hnr, hno]
    refine (KNew_any 0 (HC.out.below hb) HV.out (by have := HV.out.head.w1; omega)).mono ?_
    rintro e w' ⟨gk, gy, ka, rg, m, o, sl', om, oo, rfl, _, _, _, K2⟩
    exact ⟨⟨gk, rfl⟩, K2.toBelow⟩
  have HST := Lib.hid hst
  have HSL := Lib.hid hsl
  have HNW := Lib.hid hnw
  have HNR := Lib.hid hnr
  have HNO := Lib.hid hno
  have HCW := Lib.hid h.rw_
  have HCR := Lib.hid h.rr
  have HCO := Lib.hid h.ro
  have hr1 := hv.head.r1
  have ho1 := hv.head.o1
  have hw2 := hv.head.w2
  have hw1 := hv.head.w1
  have hst1 := hv.head.s1
  have hst2 := hv.head.s2
  rw [← hst] at hst1 hst2
  rw [← hnw] at HCW hw1 hw2 hst2 ⊢
  rw [← hnr] at HCR hr1 ho1 ⊢
  rw [← hno] at HCO ho1 ⊢
  rw [← hst, ← hsl]
  clear h hv hst hsl hnw hnr hno hwf hrf hof hwm hrm hom
  subst ho1
  obtain ⟨sm, hsm⟩ : ∃ n : Nat, st = (n : Int) := ⟨st.toNat, by omega⟩
  subst hsm
  go_enter Tryz.func5, Tryz.ntmps5
  go_upto_region 4 with (first | (go_at_call 16; refine (HPV.out _ KN.toBelow).mono ?_; rintro e wx ⟨⟨gk0, rfl⟩, hb1⟩; replace KN := KN.below hb1; clear hb1) | ((with_reducible refine wpList_gate ?_); first | ((with_reducible refine gate_load ?_ ?_); rfl; first | (refine ks_loadW KN 25 Tryz.underlying25 ?_) | (refine ks_load1 KN 22 Tryz.underlying22 ?_) | (refine ks_load1 KN 23 Tryz.underlying23 ?_) | (refine ks_load1 KN 60 Tryz.underlying60 ?_) | (refine ks_load1 KN 58 Tryz.underlying58 ?_) | (refine ks_load1 KN 3 Tryz.underlying3 ?_) | (refine ks_load1 KN 51 Tryz.underlying51 ?_)) | ((with_reducible refine gate_store ?_ ?_); rfl; first | (refine ks_store1 KN 22 ?_; clear KN; intro wx KN) | (refine ks_store1 KN 23 ?_; clear KN; intro wx KN) | (refine ks_store1 KN 60 ?_; clear KN; intro wx KN) | (refine ks_store1 KN 4 ?_; clear KN; intro wx KN) | (refine ks_storeW KN 63 ?_; clear KN; intro wx KN) | (refine ks_storeA KN 63 ?_; clear KN; intro wx KN)) | ((with_reducible refine gate_new ?_ ?_); rfl; first | (refine ks_boxA KN 25 (q := 1) ?_; clear KN; intro g1 wx hg1 KN) | (refine ks_boxA KN 65 (q := 40) ?_; clear KN; intro g40 wx hg40 KN))))
  (try go_frame)
  go_cut [34] (fun _ wz => CutA w g1 c (sm : Int) sl wz)
  case first =>
    replace KN := KN.drew
    refine wp_region_held_drew (S := (fun _ => True)) (by kernel_rfl) ?cahS (fun hHeld => ?carest)
    case cahS => exact trivial
    refine wpAnyH_take (i := 0) (oi := ⟨some 18, _, _, _, _, _⟩) (v := ?cav0) rfl (by kernel_rfl) (by kernel_rfl) (by kernel_rfl) (fun _ _ _ h => h) (Or.inl ⟨by rfl, ?cahy0⟩) hHeld ?car0
    case cahy0 => (intro w hSw; (try dsimp only at hSw); go_simp; (try with_reducible rfl))
    (try simp only [Act.put, List.setIfInBounds_toArray, List.set_cons_zero, List.set_cons_succ])
    refine wpAnyH_take (i := 3) (oi := ⟨some 21, _, _, _, _, _⟩) (v := ?cav3) rfl (by kernel_rfl) (by kernel_rfl) (by kernel_rfl) (fun _ _ _ h => h) (Or.inl ⟨by rfl, ?cahy3⟩) hHeld ?car3
    case cahy3 => (intro w hSw; (try dsimp only at hSw); go_simp; (try with_reducible rfl))
    (try simp only [Act.put, List.setIfInBounds_toArray, List.set_cons_zero, List.set_cons_succ])
    refine wpAnyH_take (i := 6) (oi := ⟨some 24, _, _, _, _, _⟩) (v := ?cav6) rfl (by kernel_rfl) (by kernel_rfl) (by kernel_rfl) (fun _ _ _ h => h) (Or.inl ⟨by rfl, ?cahy6⟩) hHeld ?car6
    case cahy6 => (intro w hSw; (try dsimp only at hSw); go_simp; (try with_reducible rfl))
    (try simp only [Act.put, List.setIfInBounds_toArray, List.set_cons_zero, List.set_cons_succ])
    refine wpAnyH_ready (rs := [1, 4, 7]) (by kernel_rfl) (by simp) ?cac1_4_7
    refine (AllReadyH.cons (o := ⟨some 19, _, _, _, _, _⟩) rfl (fun K hK => ?cast1) (AllReadyH.cons (o := ⟨some 22, _, _, _, _, _⟩) rfl (fun K hK => ?cast4) (AllReadyH.cons (o := ⟨some 25, _, _, _, _, _⟩) rfl (fun K hK => ?cast7) AllReadyH.nil)))
    case cast1 =>
      (rw [if_pos (by rfl)]; refine wp_kn_load1 KN 22 _ rfl g1 0 rfl _ 25 (by repeat (first | exact Has.here | refine Has.there ?_)) (.slice wa nw wc) rfl _ Tryz.underlying22 rfl ?_)
      refine hK.out _ _ ?ca1xk1 (fun hHeld2 => ?ca1xm1)
      case ca1xk1 => exact trivial
      clear hK K hHeld
      have hHeld := hHeld2; clear hHeld2
      (try simp only [Act.put, List.setIfInBounds_toArray, List.set_cons_zero, List.set_cons_succ])
      refine wpAnyH_ready (rs := [2, 4, 7]) (by kernel_rfl) (by simp) ?ca1xc2_4_7
      refine (AllReadyH.cons (o := ⟨some 20, _, _, _, _, _⟩) rfl (fun K hK => ?ca1xst2) (AllReadyH.cons (o := ⟨some 22, _, _, _, _, _⟩) rfl (fun K hK => ?ca1xst4) (AllReadyH.cons (o := ⟨some 25, _, _, _, _, _⟩) rfl (fun K hK => ?ca1xst7) AllReadyH.nil)))
      case ca1xst2 =>
        go_simp
        (refine (Clone_any (HCW.out.below KN.toBelow) (by rw [← HNW.out]; omega)).mono ?_; rintro e wx ⟨v1, ol1, rfl, O1, K2, _⟩; obtain ⟨a1, n1, c1, rfl, hn1⟩ := O1.form4; have HO1 := Lib.hid O1; have HN1 := Lib.hid hn1; replace KN := (KN.call0 K2).perm List.perm_append_comm; simp only [List.cons_append, List.nil_append, List.append_assoc] at KN; clear K2 O1 hn1)
        refine hK.out _ _ ?ca1x2xk2 (fun hHeld2 => ?ca1x2xm2)
        case ca1x2xk2 => exact trivial
        clear hK K hHeld
        have hHeld := hHeld2; clear hHeld2
        (try simp only [Act.put, List.setIfInBounds_toArray, List.set_cons_zero, List.set_cons_succ])
        refine wpAnyH_ready (rs := [4, 7]) (by kernel_rfl) (by simp) ?ca1x2xc4_7
        refine (AllReadyH.cons (o := ⟨some 22, _, _, _, _, _⟩) rfl (fun K hK => ?ca1x2xst4) (AllReadyH.cons (o := ⟨some 25, _, _, _, _, _⟩) rfl (fun K hK => ?ca1x2xst7) AllReadyH.nil))
        case ca1x2xst4 =>
          (rw [if_pos (by rfl)]; refine wp_kn_load1 KN 23 _ rfl g1 3 rfl _ 25 (by repeat (first | exact Has.here | refine Has.there ?_)) (.slice ra no rc) rfl _ Tryz.underlying23 rfl ?_)
          refine hK.out _ _ ?ca1x2x4xk4 (fun hHeld2 => ?ca1x2x4xm4)
          case ca1x2x4xk4 => exact trivial
          clear hK K hHeld
          have hHeld := hHeld2; clear hHeld2
          (try simp only [Act.put, List.setIfInBounds_toArray, List.set_cons_zero, List.set_cons_succ])
          refine wpAnyH_ready (rs := [5, 7]) (by kernel_rfl) (by simp) ?ca1x2x4xc5_7
          refine (AllReadyH.cons (o := ⟨some 23, _, _, _, _, _⟩) rfl (fun K hK => ?ca1x2x4xst5) (AllReadyH.cons (o := ⟨some 25, _, _, _, _, _⟩) rfl (fun K hK => ?ca1x2x4xst7) AllReadyH.nil))
          case ca1x2x4xst5 =>
            go_simp
            (refine (CloneR_any (HCR.out.below KN.toBelow) (by rw [← HNR.out]; omega)).mono ?_; rintro e wx ⟨v2, ol2, rfl, O1, K2⟩; obtain ⟨a2, n2, c2, rfl, hn2⟩ := O1.form4; have HO2 := Lib.hid O1; have HN2 := Lib.hid hn2; replace KN := (KN.call0 K2).perm List.perm_append_comm; simp only [List.cons_append, List.nil_append, List.append_assoc] at KN; clear K2 O1 hn2)
            refine hK.out _ _ ?ca1x2x4x5xk5 (fun hHeld2 => ?ca1x2x4x5xm5)
            case ca1x2x4x5xk5 => exact trivial
            clear hK K hHeld
            have hHeld := hHeld2; clear hHeld2
            (try simp only [Act.put, List.setIfInBounds_toArray, List.set_cons_zero, List.set_cons_succ])
            refine wpAnyH_ready (rs := [7]) (by kernel_rfl) (by simp) ?ca1x2x4x5xc7
            refine AllReadyH.cons (o := ⟨some 25, _, _, _, _, _⟩) rfl (fun K hK => ?ca1x2x4x5xst7) AllReadyH.nil
            (rw [if_pos (by rfl)]; refine wp_kn_load1 KN 22 _ rfl g1 4 rfl _ 25 (by repeat (first | exact Has.here | refine Has.there ?_)) (.slice oa no oc) rfl _ Tryz.underlying22 rfl ?_)
            refine hK.out _ _ ?ca1x2x4x5xk7 (fun hHeld2 => ?ca1x2x4x5xm7)
            case ca1x2x4x5xk7 => exact trivial
            clear hK K hHeld
            have hHeld := hHeld2; clear hHeld2
            (try simp only [Act.put, List.setIfInBounds_toArray, List.set_cons_zero, List.set_cons_succ])
            refine wpAnyH_take (i := 9) (oi := ⟨some 27, _, _, _, _, _⟩) (v := ?ca1x2x4x5xv9) rfl (by kernel_rfl) (by kernel_rfl) (by kernel_rfl) (fun _ _ _ h => h) (Or.inl ⟨by rfl, ?ca1x2x4x5xhy9⟩) hHeld ?ca1x2x4x5xr9
            case ca1x2x4x5xhy9 => (intro w hSw; (try dsimp only at hSw); go_simp; (try with_reducible rfl))
            (try simp only [Act.put, List.setIfInBounds_toArray, List.set_cons_zero, List.set_cons_succ])
            refine wpAnyH_ready (rs := [8]) (by kernel_rfl) (by simp) ?ca1x2x4x5xc8
            refine AllReadyH.cons (o := ⟨some 26, _, _, _, _, _⟩) rfl (fun K hK => ?ca1x2x4x5xst8) AllReadyH.nil
            go_simp
            (refine (Clone_any (HCO.out.below KN.toBelow) (by rw [← HNO.out]; omega)).mono ?_; rintro e wx ⟨v3, ol3, rfl, O1, K2, _⟩; obtain ⟨a3, n3, c3, rfl, hn3⟩ := O1.form4; have HO3 := Lib.hid O1; have HN3 := Lib.hid hn3; replace KN := (KN.call0 K2).perm List.perm_append_comm; simp only [List.cons_append, List.nil_append, List.append_assoc] at KN; clear K2 O1 hn3)
            refine hK.out _ _ ?ca1x2x4x5xk8 (fun hHeld2 => ?ca1x2x4x5xm8)
            case ca1x2x4x5xk8 => exact trivial
            clear hK K hHeld
            have hHeld := hHeld2; clear hHeld2
            (try simp only [Act.put, List.setIfInBounds_toArray, List.set_cons_zero, List.set_cons_succ])
            refine wpAnyH_ready (rs := [10]) (by kernel_rfl) (by simp) ?ca1x2x4x5xc10
            refine AllReadyH.cons (o := ⟨none, _, _, _, _, _⟩) rfl (fun K hK => ?ca1x2x4x5xst10) AllReadyH.nil
            (rw [if_pos (by rfl)]; refine wp_kn_store1 KN 22 _ _ rfl g1 0 rfl (.slice a1 n1 c1) rfl rfl _ 25 (by repeat (first | exact Repl.here | apply Repl.there)) (by (try simp only [Array.size_setIfInBounds, putL_size]); first | exact Nat.le_of_ble_eq_true rfl | (simp; omega)) (by kernel_rfl) (by rfl) ?_; clear KN; intro wx KN)
            refine hK.out _ _ ?ca1x2x4x5xk10 (fun hHeld2 => ?ca1x2x4x5xm10)
            case ca1x2x4x5xk10 => exact trivial
            clear hK K hHeld
            have hHeld := hHeld2; clear hHeld2
            (try simp only [Act.put, List.setIfInBounds_toArray, List.set_cons_zero, List.set_cons_succ])
            refine wpAnyH_take (i := 11) (oi := ⟨some 28, _, _, _, _, _⟩) (v := ?ca1x2x4x5xv11) rfl (by kernel_rfl) (by kernel_rfl) (by kernel_rfl) (fun _ _ _ h => h) (Or.inl ⟨by rfl, ?ca1x2x4x5xhy11⟩) hHeld ?ca1x2x4x5xr11
            case ca1x2x4x5xhy11 => (intro w hSw; (try dsimp only at hSw); go_simp; (try with_reducible rfl))
            (try simp only [Act.put, List.setIfInBounds_toArray, List.set_cons_zero, List.set_cons_succ])
            refine wpAnyH_ready (rs := [12]) (by kernel_rfl) (by simp) ?ca1x2x4x5xc12
            refine AllReadyH.cons (o := ⟨none, _, _, _, _, _⟩) rfl (fun K hK => ?ca1x2x4x5xst12) AllReadyH.nil
            (rw [if_pos (by rfl)]; refine wp_kn_store1 KN 23 _ _ rfl g1 3 rfl (.slice a2 n2 c2) rfl rfl _ 25 (by repeat (first | exact Repl.here | apply Repl.there)) (by (try simp only [Array.size_setIfInBounds, putL_size]); first | exact Nat.le_of_ble_eq_true rfl | (simp; omega)) (by kernel_rfl) (by rfl) ?_; clear KN; intro wx KN)
            refine hK.out _ _ ?ca1x2x4x5xk12 (fun hHeld2 => ?ca1x2x4x5xm12)
            case ca1x2x4x5xk12 => exact trivial
            clear hK K hHeld
            have hHeld := hHeld2; clear hHeld2
            (try simp only [Act.put, List.setIfInBounds_toArray, List.set_cons_zero, List.set_cons_succ])
            refine wpAnyH_take (i := 13) (oi := ⟨some 29, _, _, _, _, _⟩) (v := ?ca1x2x4x5xv13) rfl (by kernel_rfl) (by kernel_rfl) (by kernel_rfl) (fun _ _ _ h => h) (Or.inl ⟨by rfl, ?ca1x2x4x5xhy13⟩) hHeld ?ca1x2x4x5xr13
            case ca1x2x4x5xhy13 => (intro w hSw; (try dsimp only at hSw); go_simp; (try with_reducible rfl))
            (try simp only [Act.put, List.setIfInBounds_toArray, List.set_cons_zero, List.set_cons_succ])
            refine wpAnyH_ready (rs := [14]) (by kernel_rfl) (by simp) ?ca1x2x4x5xc14
            refine AllReadyH.cons (o := ⟨none, _, _, _, _, _⟩) rfl (fun K hK => ?ca1x2x4x5xst14) AllReadyH.nil
            (rw [if_pos (by rfl)]; refine wp_kn_store1 KN 22 _ _ rfl g1 4 rfl (.slice a3 n3 c3) rfl rfl _ 25 (by repeat (first | exact Repl.here | apply Repl.there)) (by (try simp only [Array.size_setIfInBounds, putL_size]); first | exact Nat.le_of_ble_eq_true rfl | (simp; omega)) (by kernel_rfl) (by rfl) ?_; clear KN; intro wx KN)
            refine hK.out _ _ ?ca1x2x4x5xk14 (fun hHeld2 => ?ca1x2x4x5xm14)
            case ca1x2x4x5xk14 => exact trivial
            clear hK K hHeld
            have hHeld := hHeld2; clear hHeld2
            (try simp only [Act.put, List.setIfInBounds_toArray, List.set_cons_zero, List.set_cons_succ])
            refine wpAnyH_done (by kernel_rfl) ?ca1x2x4x5xdone _
            replace KN := KN.as_ g1 #[.slice a1 n1 c1, .int .i64 (sm : Int), .int .i64 sl, .slice a2 n2 c2, .slice a3 n3 c3] (by repeat (first | exact Repl.here | apply Repl.there)) (by kernel_rfl)
            go_wp2_with fail
            go_meet
            case rel =>
            have h1 := HN1.out
            have h2 := HN2.out
            have h3 := HN3.out
            rw [List.length_map] at h1 h3
            unfold regRows at h2
            rw [List.length_map] at h2
            subst h1
            subst h2
            subst h3
            exact ⟨a1, a2, a3, c1, c2, c3, ol1, ol2, ol3, HO1.out, HO2.out, HO3.out, KN⟩
          case ca1x2x4xst7 =>
            (rw [if_pos (by rfl)]; refine wp_kn_load1 KN 22 _ rfl g1 4 rfl _ 25 (by repeat (first | exact Has.here | refine Has.there ?_)) (.slice oa no oc) rfl _ Tryz.underlying22 rfl ?_)
            refine hK.out _ _ ?ca1x2x4x7xk7 (fun hHeld2 => ?ca1x2x4x7xm7)
            case ca1x2x4x7xk7 => exact trivial
            clear hK K hHeld
            have hHeld := hHeld2; clear hHeld2
            (try simp only [Act.put, List.setIfInBounds_toArray, List.set_cons_zero, List.set_cons_succ])
            refine wpAnyH_take (i := 9) (oi := ⟨some 27, _, _, _, _, _⟩) (v := ?ca1x2x4x7xv9) rfl (by kernel_rfl) (by kernel_rfl) (by kernel_rfl) (fun _ _ _ h => h) (Or.inl ⟨by rfl, ?ca1x2x4x7xhy9⟩) hHeld ?ca1x2x4x7xr9
            case ca1x2x4x7xhy9 => (intro w hSw; (try dsimp only at hSw); go_simp; (try with_reducible rfl))
            (try simp only [Act.put, List.setIfInBounds_toArray, List.set_cons_zero, List.set_cons_succ])
            refine wpAnyH_ready (rs := [5]) (by kernel_rfl) (by simp) ?ca1x2x4x7xc5
            refine AllReadyH.cons (o := ⟨some 23, _, _, _, _, _⟩) rfl (fun K hK => ?ca1x2x4x7xst5) AllReadyH.nil
            go_simp
            (refine (CloneR_any (HCR.out.below KN.toBelow) (by rw [← HNR.out]; omega)).mono ?_; rintro e wx ⟨v2, ol2, rfl, O1, K2⟩; obtain ⟨a2, n2, c2, rfl, hn2⟩ := O1.form4; have HO2 := Lib.hid O1; have HN2 := Lib.hid hn2; replace KN := (KN.call0 K2).perm List.perm_append_comm; simp only [List.cons_append, List.nil_append, List.append_assoc] at KN; clear K2 O1 hn2)
            refine hK.out _ _ ?ca1x2x4x7xk5 (fun hHeld2 => ?ca1x2x4x7xm5)
            case ca1x2x4x7xk5 => exact trivial
            clear hK K hHeld
            have hHeld := hHeld2; clear hHeld2
            (try simp only [Act.put, List.setIfInBounds_toArray, List.set_cons_zero, List.set_cons_succ])
            refine wpAnyH_ready (rs := [8]) (by kernel_rfl) (by simp) ?ca1x2x4x7xc8
            refine AllReadyH.cons (o := ⟨some 26, _, _, _, _, _⟩) rfl (fun K hK => ?ca1x2x4x7xst8) AllReadyH.nil
            go_simp
            (refine (Clone_any (HCO.out.below KN.toBelow) (by rw [← HNO.out]; omega)).mono ?_; rintro e wx ⟨v3, ol3, rfl, O1, K2, _⟩; obtain ⟨a3, n3, c3, rfl, hn3⟩ := O1.form4; have HO3 := Lib.hid O1; have HN3 := Lib.hid hn3; replace KN := (KN.call0 K2).perm List.perm_append_comm; simp only [List.cons_append, List.nil_append, List.append_assoc] at KN; clear K2 O1 hn3)
            refine hK.out _ _ ?ca1x2x4x7xk8 (fun hHeld2 => ?ca1x2x4x7xm8)
            case ca1x2x4x7xk8 => exact trivial
            clear hK K hHeld
            have hHeld := hHeld2; clear hHeld2
            (try simp only [Act.put, List.setIfInBounds_toArray, List.set_cons_zero, List.set_cons_succ])
            refine wpAnyH_ready (rs := [10]) (by kernel_rfl) (by simp) ?ca1x2x4x7xc10
            refine AllReadyH.cons (o := ⟨none, _, _, _, _, _⟩) rfl (fun K hK => ?ca1x2x4x7xst10) AllReadyH.nil
            (rw [if_pos (by rfl)]; refine wp_kn_store1 KN 22 _ _ rfl g1 0 rfl (.slice a1 n1 c1) rfl rfl _ 25 (by repeat (first | exact Repl.here | apply Repl.there)) (by (try simp only [Array.size_setIfInBounds, putL_size]); first | exact Nat.le_of_ble_eq_true rfl | (simp; omega)) (by kernel_rfl) (by rfl) ?_; clear KN; intro wx KN)
            refine hK.out _ _ ?ca1x2x4x7xk10 (fun hHeld2 => ?ca1x2x4x7xm10)
            case ca1x2x4x7xk10 => exact trivial
            clear hK K hHeld
            have hHeld := hHeld2; clear hHeld2
            (try simp only [Act.put, List.setIfInBounds_toArray, List.set_cons_zero, List.set_cons_succ])
            refine wpAnyH_take (i := 11) (oi := ⟨some 28, _, _, _, _, _⟩) (v := ?ca1x2x4x7xv11) rfl (by kernel_rfl) (by kernel_rfl) (by kernel_rfl) (fun _ _ _ h => h) (Or.inl ⟨by rfl, ?ca1x2x4x7xhy11⟩) hHeld ?ca1x2x4x7xr11
            case ca1x2x4x7xhy11 => (intro w hSw; (try dsimp only at hSw); go_simp; (try with_reducible rfl))
            (try simp only [Act.put, List.setIfInBounds_toArray, List.set_cons_zero, List.set_cons_succ])
            refine wpAnyH_ready (rs := [12]) (by kernel_rfl) (by simp) ?ca1x2x4x7xc12
            refine AllReadyH.cons (o := ⟨none, _, _, _, _, _⟩) rfl (fun K hK => ?ca1x2x4x7xst12) AllReadyH.nil
            (rw [if_pos (by rfl)]; refine wp_kn_store1 KN 23 _ _ rfl g1 3 rfl (.slice a2 n2 c2) rfl rfl _ 25 (by repeat (first | exact Repl.here | apply Repl.there)) (by (try simp only [Array.size_setIfInBounds, putL_size]); first | exact Nat.le_of_ble_eq_true rfl | (simp; omega)) (by kernel_rfl) (by rfl) ?_; clear KN; intro wx KN)
            refine hK.out _ _ ?ca1x2x4x7xk12 (fun hHeld2 => ?ca1x2x4x7xm12)
            case ca1x2x4x7xk12 => exact trivial
            clear hK K hHeld
            have hHeld := hHeld2; clear hHeld2
            (try simp only [Act.put, List.setIfInBounds_toArray, List.set_cons_zero, List.set_cons_succ])
            refine wpAnyH_take (i := 13) (oi := ⟨some 29, _, _, _, _, _⟩) (v := ?ca1x2x4x7xv13) rfl (by kernel_rfl) (by kernel_rfl) (by kernel_rfl) (fun _ _ _ h => h) (Or.inl ⟨by rfl, ?ca1x2x4x7xhy13⟩) hHeld ?ca1x2x4x7xr13
            case ca1x2x4x7xhy13 => (intro w hSw; (try dsimp only at hSw); go_simp; (try with_reducible rfl))
            (try simp only [Act.put, List.setIfInBounds_toArray, List.set_cons_zero, List.set_cons_succ])
            refine wpAnyH_ready (rs := [14]) (by kernel_rfl) (by simp) ?ca1x2x4x7xc14
            refine AllReadyH.cons (o := ⟨none, _, _, _, _, _⟩) rfl (fun K hK => ?ca1x2x4x7xst14) AllReadyH.nil
            (rw [if_pos (by rfl)]; refine wp_kn_store1 KN 22 _ _ rfl g1 4 rfl (.slice a3 n3 c3) rfl rfl _ 25 (by repeat (first | exact Repl.here | apply Repl.there)) (by (try simp only [Array.size_setIfInBounds, putL_size]); first | exact Nat.le_of_ble_eq_true rfl | (simp; omega)) (by kernel_rfl) (by rfl) ?_; clear KN; intro wx KN)
            refine hK.out _ _ ?ca1x2x4x7xk14 (fun hHeld2 => ?ca1x2x4x7xm14)
            case ca1x2x4x7xk14 => exact trivial
            clear hK K hHeld
            have hHeld := hHeld2; clear hHeld2
            (try simp only [Act.put, List.setIfInBounds_toArray, List.set_cons_zero, List.set_cons_succ])
            refine wpAnyH_done (by kernel_rfl) ?ca1x2x4x7xdone _
            replace KN := KN.as_ g1 #[.slice a1 n1 c1, .int .i64 (sm : Int), .int .i64 sl, .slice a2 n2 c2, .slice a3 n3 c3] (by repeat (first | exact Repl.here | apply Repl.there)) (by kernel_rfl)
            go_wp2_with fail
            go_meet
            case rel =>
            have h1 := HN1.out
            have h2 := HN2.out
            have h3 := HN3.out
            rw [List.length_map] at h1 h3
            unfold regRows at h2
            rw [List.length_map] at h2
            subst h1
            subst h2
            subst h3
            exact ⟨a1, a2, a3, c1, c2, c3, ol1, ol2, ol3, HO1.out, HO2.out, HO3.out, KN⟩
        case ca1x2xst7 =>
          (rw [if_pos (by rfl)]; refine wp_kn_load1 KN 22 _ rfl g1 4 rfl _ 25 (by repeat (first | exact Has.here | refine Has.there ?_)) (.slice oa no oc) rfl _ Tryz.underlying22 rfl ?_)
          refine hK.out _ _ ?ca1x2x7xk7 (fun hHeld2 => ?ca1x2x7xm7)
          case ca1x2x7xk7 => exact trivial
          clear hK K hHeld
          have hHeld := hHeld2; clear hHeld2
          (try simp only [Act.put, List.setIfInBounds_toArray, List.set_cons_zero, List.set_cons_succ])
          refine wpAnyH_ready (rs := [4]) (by kernel_rfl) (by simp) ?ca1x2x7xc4
          refine AllReadyH.cons (o := ⟨some 22, _, _, _, _, _⟩) rfl (fun K hK => ?ca1x2x7xst4) AllReadyH.nil
          (rw [if_pos (by rfl)]; refine wp_kn_load1 KN 23 _ rfl g1 3 rfl _ 25 (by repeat (first | exact Has.here | refine Has.there ?_)) (.slice ra no rc) rfl _ Tryz.underlying23 rfl ?_)
          refine hK.out _ _ ?ca1x2x7xk4 (fun hHeld2 => ?ca1x2x7xm4)
          case ca1x2x7xk4 => exact trivial
          clear hK K hHeld
          have hHeld := hHeld2; clear hHeld2
          (try simp only [Act.put, List.setIfInBounds_toArray, List.set_cons_zero, List.set_cons_succ])
          refine wpAnyH_take (i := 9) (oi := ⟨some 27, _, _, _, _, _⟩) (v := ?ca1x2x7xv9) rfl (by kernel_rfl) (by kernel_rfl) (by kernel_rfl) (fun _ _ _ h => h) (Or.inl ⟨by rfl, ?ca1x2x7xhy9⟩) hHeld ?ca1x2x7xr9
          case ca1x2x7xhy9 => (intro w hSw; (try dsimp only at hSw); go_simp; (try with_reducible rfl))
          (try simp only [Act.put, List.setIfInBounds_toArray, List.set_cons_zero, List.set_cons_succ])
          refine wpAnyH_ready (rs := [5]) (by kernel_rfl) (by simp) ?ca1x2x7xc5
          refine AllReadyH.cons (o := ⟨some 23, _, _, _, _, _⟩) rfl (fun K hK => ?ca1x2x7xst5) AllReadyH.nil
          go_simp
          (refine (CloneR_any (HCR.out.below KN.toBelow) (by rw [← HNR.out]; omega)).mono ?_; rintro e wx ⟨v2, ol2, rfl, O1, K2⟩; obtain ⟨a2, n2, c2, rfl, hn2⟩ := O1.form4; have HO2 := Lib.hid O1; have HN2 := Lib.hid hn2; replace KN := (KN.call0 K2).perm List.perm_append_comm; simp only [List.cons_append, List.nil_append, List.append_assoc] at KN; clear K2 O1 hn2)
          refine hK.out _ _ ?ca1x2x7xk5 (fun hHeld2 => ?ca1x2x7xm5)
          case ca1x2x7xk5 => exact trivial
          clear hK K hHeld
          have hHeld := hHeld2; clear hHeld2
          (try simp only [Act.put, List.setIfInBounds_toArray, List.set_cons_zero, List.set_cons_succ])
          refine wpAnyH_ready (rs := [8]) (by kernel_rfl) (by simp) ?ca1x2x7xc8
          refine AllReadyH.cons (o := ⟨some 26, _, _, _, _, _⟩) rfl (fun K hK => ?ca1x2x7xst8) AllReadyH.nil
          go_simp
          (refine (Clone_any (HCO.out.below KN.toBelow) (by rw [← HNO.out]; omega)).mono ?_; rintro e wx ⟨v3, ol3, rfl, O1, K2, _⟩; obtain ⟨a3, n3, c3, rfl, hn3⟩ := O1.form4; have HO3 := Lib.hid O1; have HN3 := Lib.hid hn3; replace KN := (KN.call0 K2).perm List.perm_append_comm; simp only [List.cons_append, List.nil_append, List.append_assoc] at KN; clear K2 O1 hn3)
          refine hK.out _ _ ?ca1x2x7xk8 (fun hHeld2 => ?ca1x2x7xm8)
          case ca1x2x7xk8 => exact trivial
          clear hK K hHeld
          have hHeld := hHeld2; clear hHeld2
          (try simp only [Act.put, List.setIfInBounds_toArray, List.set_cons_zero, List.set_cons_succ])
          refine wpAnyH_ready (rs := [10]) (by kernel_rfl) (by simp) ?ca1x2x7xc10
          refine AllReadyH.cons (o := ⟨none, _, _, _, _, _⟩) rfl (fun K hK => ?ca1x2x7xst10) AllReadyH.nil
          (rw [if_pos (by rfl)]; refine wp_kn_store1 KN 22 _ _ rfl g1 0 rfl (.slice a1 n1 c1) rfl rfl _ 25 (by repeat (first | exact Repl.here | apply Repl.there)) (by (try simp only [Array.size_setIfInBounds, putL_size]); first | exact Nat.le_of_ble_eq_true rfl | (simp; omega)) (by kernel_rfl) (by rfl) ?_; clear KN; intro wx KN)
          refine hK.out _ _ ?ca1x2x7xk10 (fun hHeld2 => ?ca1x2x7xm10)
          case ca1x2x7xk10 => exact trivial
          clear hK K hHeld
          have hHeld := hHeld2; clear hHeld2
          (try simp only [Act.put, List.setIfInBounds_toArray, List.set_cons_zero, List.set_cons_succ])
          refine wpAnyH_take (i := 11) (oi := ⟨some 28, _, _, _, _, _⟩) (v := ?ca1x2x7xv11) rfl (by kernel_rfl) (by kernel_rfl) (by kernel_rfl) (fun _ _ _ h => h) (Or.inl ⟨by rfl, ?ca1x2x7xhy11⟩) hHeld ?ca1x2x7xr11
          case ca1x2x7xhy11 => (intro w hSw; (try dsimp only at hSw); go_simp; (try with_reducible rfl))
          (try simp only [Act.put, List.setIfInBounds_toArray, List.set_cons_zero, List.set_cons_succ])
          refine wpAnyH_ready (rs := [12]) (by kernel_rfl) (by simp) ?ca1x2x7xc12
          refine AllReadyH.cons (o := ⟨none, _, _, _, _, _⟩) rfl (fun K hK => ?ca1x2x7xst12) AllReadyH.nil
          (rw [if_pos (by rfl)]; refine wp_kn_store1 KN 23 _ _ rfl g1 3 rfl (.slice a2 n2 c2) rfl rfl _ 25 (by repeat (first | exact Repl.here | apply Repl.there)) (by (try simp only [Array.size_setIfInBounds, putL_size]); first | exact Nat.le_of_ble_eq_true rfl | (simp; omega)) (by kernel_rfl) (by rfl) ?_; clear KN; intro wx KN)
          refine hK.out _ _ ?ca1x2x7xk12 (fun hHeld2 => ?ca1x2x7xm12)
          case ca1x2x7xk12 => exact trivial
          clear hK K hHeld
          have hHeld := hHeld2; clear hHeld2
          (try simp only [Act.put, List.setIfInBounds_toArray, List.set_cons_zero, List.set_cons_succ])
          refine wpAnyH_take (i := 13) (oi := ⟨some 29, _, _, _, _, _⟩) (v := ?ca1x2x7xv13) rfl (by kernel_rfl) (by kernel_rfl) (by kernel_rfl) (fun _ _ _ h => h) (Or.inl ⟨by rfl, ?ca1x2x7xhy13⟩) hHeld ?ca1x2x7xr13
          case ca1x2x7xhy13 => (intro w hSw; (try dsimp only at hSw); go_simp; (try with_reducible rfl))
          (try simp only [Act.put, List.setIfInBounds_toArray, List.set_cons_zero, List.set_cons_succ])
          refine wpAnyH_ready (rs := [14]) (by kernel_rfl) (by simp) ?ca1x2x7xc14
          refine AllReadyH.cons (o := ⟨none, _, _, _, _, _⟩) rfl (fun K hK => ?ca1x2x7xst14) AllReadyH.nil
          (rw [if_pos (by rfl)]; refine wp_kn_store1 KN 22 _ _ rfl g1 4 rfl (.slice a3 n3 c3) rfl rfl _ 25 (by repeat (first | exact Repl.here | apply Repl.there)) (by (try simp only [Array.size_setIfInBounds, putL_size]); first | exact Nat.le_of_ble_eq_true rfl | (simp; omega)) (by kernel_rfl) (by rfl) ?_; clear KN; intro wx KN)
          refine hK.out _ _ ?ca1x2x7xk14 (fun hHeld2 => ?ca1x2x7xm14)
          case ca1x2x7xk14 => exact trivial
          clear hK K hHeld
          have hHeld := hHeld2; clear hHeld2
          (try simp only [Act.put, List.setIfInBounds_toArray, List.set_cons_zero, List.set_cons_succ])
          refine wpAnyH_done (by kernel_rfl) ?ca1x2x7xdone _
          replace KN := KN.as_ g1 #[.slice a1 n1 c1, .int .i64 (sm : Int), .int .i64 sl, .slice a2 n2 c2, .slice a3 n3 c3] (by repeat (first | exact Repl.here | apply Repl.there)) (by kernel_rfl)
          go_wp2_with fail
          go_meet
          case rel =>
          have h1 := HN1.out
          have h2 := HN2.out
          have h3 := HN3.out
          rw [List.length_map] at h1 h3
          unfold regRows at h2
          rw [List.length_map] at h2
          subst h1
          subst h2
          subst h3
          exact ⟨a1, a2, a3, c1, c2, c3, ol1, ol2, ol3, HO1.out, HO2.out, HO3.out, KN⟩
      case ca1xst4 =>
        (rw [if_pos (by rfl)]; refine wp_kn_load1 KN 23 _ rfl g1 3 rfl _ 25 (by repeat (first | exact Has.here | refine Has.there ?_)) (.slice ra no rc) rfl _ Tryz.underlying23 rfl ?_)
        refine hK.out _ _ ?ca1x4xk4 (fun hHeld2 => ?ca1x4xm4)
        case ca1x4xk4 => exact trivial
        clear hK K hHeld
        have hHeld := hHeld2; clear hHeld2
        (try simp only [Act.put, List.setIfInBounds_toArray, List.set_cons_zero, List.set_cons_succ])
        refine wpAnyH_ready (rs := [2, 7]) (by kernel_rfl) (by simp) ?ca1x4xc2_7
        refine (AllReadyH.cons (o := ⟨some 20, _, _, _, _, _⟩) rfl (fun K hK => ?ca1x4xst2) (AllReadyH.cons (o := ⟨some 25, _, _, _, _, _⟩) rfl (fun K hK => ?ca1x4xst7) AllReadyH.nil))
        case ca1x4xst2 =>
          go_simp
          (refine (Clone_any (HCW.out.below KN.toBelow) (by rw [← HNW.out]; omega)).mono ?_; rintro e wx ⟨v1, ol1, rfl, O1, K2, _⟩; obtain ⟨a1, n1, c1, rfl, hn1⟩ := O1.form4; have HO1 := Lib.hid O1; have HN1 := Lib.hid hn1; replace KN := (KN.call0 K2).perm List.perm_append_comm; simp only [List.cons_append, List.nil_append, List.append_assoc] at KN; clear K2 O1 hn1)
          refine hK.out _ _ ?ca1x4x2xk2 (fun hHeld2 => ?ca1x4x2xm2)
          case ca1x4x2xk2 => exact trivial
          clear hK K hHeld
          have hHeld := hHeld2; clear hHeld2
          (try simp only [Act.put, List.setIfInBounds_toArray, List.set_cons_zero, List.set_cons_succ])
          refine wpAnyH_ready (rs := [5, 7]) (by kernel_rfl) (by simp) ?ca1x4x2xc5_7
          refine (AllReadyH.cons (o := ⟨some 23, _, _, _, _, _⟩) rfl (fun K hK => ?ca1x4x2xst5) (AllReadyH.cons (o := ⟨some 25, _, _, _, _, _⟩) rfl (fun K hK => ?ca1x4x2xst7) AllReadyH.nil))
          case ca1x4x2xst5 =>
            go_simp
            (refine (CloneR_any (HCR.out.below KN.toBelow) (by rw [← HNR.out]; omega)).mono ?_; rintro e wx ⟨v2, ol2, rfl, O1, K2⟩; obtain ⟨a2, n2, c2, rfl, hn2⟩ := O1.form4; have HO2 := Lib.hid O1; have HN2 := Lib.hid hn2; replace KN := (KN.call0 K2).perm List.perm_append_comm; simp only [List.cons_append, List.nil_append, List.append_assoc] at KN; clear K2 O1 hn2)
            refine hK.out _ _ ?ca1x4x2x5xk5 (fun hHeld2 => ?ca1x4x2x5xm5)
            case ca1x4x2x5xk5 => exact trivial
            clear hK K hHeld
            have hHeld := hHeld2; clear hHeld2
            (try simp only [Act.put, List.setIfInBounds_toArray, List.set_cons_zero, List.set_cons_succ])
            refine wpAnyH_ready (rs := [7]) (by kernel_rfl) (by simp) ?ca1x4x2x5xc7
            refine AllReadyH.cons (o := ⟨some 25, _, _, _, _, _⟩) rfl (fun K hK => ?ca1x4x2x5xst7) AllReadyH.nil
            (rw [if_pos (by rfl)]; refine wp_kn_load1 KN 22 _ rfl g1 4 rfl _ 25 (by repeat (first | exact Has.here | refine Has.there ?_)) (.slice oa no oc) rfl _ Tryz.underlying22 rfl ?_)
            refine hK.out _ _ ?ca1x4x2x5xk7 (fun hHeld2 => ?ca1x4x2x5xm7)
            case ca1x4x2x5xk7 => exact trivial
            clear hK K hHeld
            have hHeld := hHeld2; clear hHeld2
            (try simp only [Act.put, List.setIfInBounds_toArray, List.set_cons_zero, List.set_cons_succ])
            refine wpAnyH_take (i := 9) (oi := ⟨some 27, _, _, _, _, _⟩) (v := ?ca1x4x2x5xv9) rfl (by kernel_rfl) (by kernel_rfl) (by kernel_rfl) (fun _ _ _ h => h) (Or.inl ⟨by rfl, ?ca1x4x2x5xhy9⟩) hHeld ?ca1x4x2x5xr9
            case ca1x4x2x5xhy9 => (intro w hSw; (try dsimp only at hSw); go_simp; (try with_reducible rfl))
            (try simp only [Act.put, List.setIfInBounds_toArray, List.set_cons_zero, List.set_cons_succ])
            refine wpAnyH_ready (rs := [8]) (by kernel_rfl) (by simp) ?ca1x4x2x5xc8
            refine AllReadyH.cons (o := ⟨some 26, _, _, _, _, _⟩) rfl (fun K hK => ?ca1x4x2x5xst8) AllReadyH.nil
            go_simp
            (refine (Clone_any (HCO.out.below KN.toBelow) (by rw [← HNO.out]; omega)).mono ?_; rintro e wx ⟨v3, ol3, rfl, O1, K2, _⟩; obtain ⟨a3, n3, c3, rfl, hn3⟩ := O1.form4; have HO3 := Lib.hid O1; have HN3 := Lib.hid hn3; replace KN := (KN.call0 K2).perm List.perm_append_comm; simp only [List.cons_append, List.nil_append, List.append_assoc] at KN; clear K2 O1 hn3)
            refine hK.out _ _ ?ca1x4x2x5xk8 (fun hHeld2 => ?ca1x4x2x5xm8)
            case ca1x4x2x5xk8 => exact trivial
            clear hK K hHeld
            have hHeld := hHeld2; clear hHeld2
            (try simp only [Act.put, List.setIfInBounds_toArray, List.set_cons_zero, List.set_cons_succ])
            refine wpAnyH_ready (rs := [10]) (by kernel_rfl) (by simp) ?ca1x4x2x5xc10
            refine AllReadyH.cons (o := ⟨none, _, _, _, _, _⟩) rfl (fun K hK => ?ca1x4x2x5xst10) AllReadyH.nil
            (rw [if_pos (by rfl)]; refine wp_kn_store1 KN 22 _ _ rfl g1 0 rfl (.slice a1 n1 c1) rfl rfl _ 25 (by repeat (first | exact Repl.here | apply Repl.there)) (by (try simp only [Array.size_setIfInBounds, putL_size]); first | exact Nat.le_of_ble_eq_true rfl | (simp; omega)) (by kernel_rfl) (by rfl) ?_; clear KN; intro wx KN)
            refine hK.out _ _ ?ca1x4x2x5xk10 (fun hHeld2 => ?ca1x4x2x5xm10)
            case ca1x4x2x5xk10 => exact trivial
            clear hK K hHeld
            have hHeld := hHeld2; clear hHeld2
            (try simp only [Act.put, List.setIfInBounds_toArray, List.set_cons_zero, List.set_cons_succ])
            refine wpAnyH_take (i := 11) (oi := ⟨some 28, _, _, _, _, _⟩) (v := ?ca1x4x2x5xv11) rfl (by kernel_rfl) (by kernel_rfl) (by kernel_rfl) (fun _ _ _ h => h) (Or.inl ⟨by rfl, ?ca1x4x2x5xhy11⟩) hHeld ?ca1x4x2x5xr11
            case ca1x4x2x5xhy11 => (intro w hSw; (try dsimp only at hSw); go_simp; (try with_reducible rfl))
            (try simp only [Act.put, List.setIfInBounds_toArray, List.set_cons_zero, List.set_cons_succ])
            refine wpAnyH_ready (rs := [12]) (by kernel_rfl) (by simp) ?ca1x4x2x5xc12
            refine AllReadyH.cons (o := ⟨none, _, _, _, _, _⟩) rfl (fun K hK => ?ca1x4x2x5xst12) AllReadyH.nil
            (rw [if_pos (by rfl)]; refine wp_kn_store1 KN 23 _ _ rfl g1 3 rfl (.slice a2 n2 c2) rfl rfl _ 25 (by repeat (first | exact Repl.here | apply Repl.there)) (by (try simp only [Array.size_setIfInBounds, putL_size]); first | exact Nat.le_of_ble_eq_true rfl | (simp; omega)) (by kernel_rfl) (by rfl) ?_; clear KN; intro wx KN)
            refine hK.out _ _ ?ca1x4x2x5xk12 (fun hHeld2 => ?ca1x4x2x5xm12)
            case ca1x4x2x5xk12 => exact trivial
            clear hK K hHeld
            have hHeld := hHeld2; clear hHeld2
            (try simp only [Act.put, List.setIfInBounds_toArray, List.set_cons_zero, List.set_cons_succ])
            refine wpAnyH_take (i := 13) (oi := ⟨some 29, _, _, _, _, _⟩) (v := ?ca1x4x2x5xv13) rfl (by kernel_rfl) (by kernel_rfl) (by kernel_rfl) (fun _ _ _ h => h) (Or.inl ⟨by rfl, ?ca1x4x2x5xhy13⟩) hHeld ?ca1x4x2x5xr13
            case ca1x4x2x5xhy13 => (intro w hSw; (try dsimp only at hSw); go_simp; (try with_reducible rfl))
            (try simp only [Act.put, List.setIfInBounds_toArray, List.set_cons_zero, List.set_cons_succ])
            refine wpAnyH_ready (rs := [14]) (by kernel_rfl) (by simp) ?ca1x4x2x5xc14
            refine AllReadyH.cons (o := ⟨none, _, _, _, _, _⟩) rfl (fun K hK => ?ca1x4x2x5xst14) AllReadyH.nil
            (rw [if_pos (by rfl)]; refine wp_kn_store1 KN 22 _ _ rfl g1 4 rfl (.slice a3 n3 c3) rfl rfl _ 25 (by repeat (first | exact Repl.here | apply Repl.there)) (by (try simp only [Array.size_setIfInBounds, putL_size]); first | exact Nat.le_of_ble_eq_true rfl | (simp; omega)) (by kernel_rfl) (by rfl) ?_; clear KN; intro wx KN)
            refine hK.out _ _ ?ca1x4x2x5xk14 (fun hHeld2 => ?ca1x4x2x5xm14)
            case ca1x4x2x5xk14 => exact trivial
            clear hK K hHeld
            have hHeld := hHeld2; clear hHeld2
            (try simp only [Act.put, List.setIfInBounds_toArray, List.set_cons_zero, List.set_cons_succ])
            refine wpAnyH_done (by kernel_rfl) ?ca1x4x2x5xdone _
            replace KN := KN.as_ g1 #[.slice a1 n1 c1, .int .i64 (sm : Int), .int .i64 sl, .slice a2 n2 c2, .slice a3 n3 c3] (by repeat (first | exact Repl.here | apply Repl.there)) (by kernel_rfl)
            go_wp2_with fail
            go_meet
            case rel =>
            have h1 := HN1.out
            have h2 := HN2.out
            have h3 := HN3.out
            rw [List.length_map] at h1 h3
            unfold regRows at h2
            rw [List.length_map] at h2
            subst h1
            subst h2
            subst h3
            exact ⟨a1, a2, a3, c1, c2, c3, ol1, ol2, ol3, HO1.out, HO2.out, HO3.out, KN⟩
          case ca1x4x2xst7 =>
            (rw [if_pos (by rfl)]; refine wp_kn_load1 KN 22 _ rfl g1 4 rfl _ 25 (by repeat (first | exact Has.here | refine Has.there ?_)) (.slice oa no oc) rfl _ Tryz.underlying22 rfl ?_)
            refine hK.out _ _ ?ca1x4x2x7xk7 (fun hHeld2 => ?ca1x4x2x7xm7)
            case ca1x4x2x7xk7 => exact trivial
            clear hK K hHeld
            have hHeld := hHeld2; clear hHeld2
            (try simp only [Act.put, List.setIfInBounds_toArray, List.set_cons_zero, List.set_cons_succ])
            refine wpAnyH_take (i := 9) (oi := ⟨some 27, _, _, _, _, _⟩) (v := ?ca1x4x2x7xv9) rfl (by kernel_rfl) (by kernel_rfl) (by kernel_rfl) (fun _ _ _ h => h) (Or.inl ⟨by rfl, ?ca1x4x2x7xhy9⟩) hHeld ?ca1x4x2x7xr9
            case ca1x4x2x7xhy9 => (intro w hSw; (try dsimp only at hSw); go_simp; (try with_reducible rfl))
            (try simp only [Act.put, List.setIfInBounds_toArray, List.set_cons_zero, List.set_cons_succ])
            refine wpAnyH_ready (rs := [5]) (by kernel_rfl) (by simp) ?ca1x4x2x7xc5
            refine AllReadyH.cons (o := ⟨some 23, _, _, _, _, _⟩) rfl (fun K hK => ?ca1x4x2x7xst5) AllReadyH.nil
            go_simp
            (refine (CloneR_any (HCR.out.below KN.toBelow) (by rw [← HNR.out]; omega)).mono ?_; rintro e wx ⟨v2, ol2, rfl, O1, K2⟩; obtain ⟨a2, n2, c2, rfl, hn2⟩ := O1.form4; have HO2 := Lib.hid O1; have HN2 := Lib.hid hn2; replace KN := (KN.call0 K2).perm List.perm_append_comm; simp only [List.cons_append, List.nil_append, List.append_assoc] at KN; clear K2 O1 hn2)
            refine hK.out _ _ ?ca1x4x2x7xk5 (fun hHeld2 => ?ca1x4x2x7xm5)
            case ca1x4x2x7xk5 => exact trivial
            clear hK K hHeld
            have hHeld := hHeld2; clear hHeld2
            (try simp only [Act.put, List.setIfInBounds_toArray, List.set_cons_zero, List.set_cons_succ])
            refine wpAnyH_ready (rs := [8]) (by kernel_rfl) (by simp) ?ca1x4x2x7xc8
            refine AllReadyH.cons (o := ⟨some 26, _, _, _, _, _⟩) rfl (fun K hK => ?ca1x4x2x7xst8) AllReadyH.nil
            go_simp
            (refine (Clone_any (HCO.out.below KN.toBelow) (by rw [← HNO.out]; omega)).mono ?_; rintro e wx ⟨v3, ol3, rfl, O1, K2, _⟩; obtain ⟨a3, n3, c3, rfl, hn3⟩ := O1.form4; have HO3 := Lib.hid O1; have HN3 := Lib.hid hn3; replace KN := (KN.call0 K2).perm List.perm_append_comm; simp only [List.cons_append, List.nil_append, List.append_assoc] at KN; clear K2 O1 hn3)
            refine hK.out _ _ ?ca1x4x2x7xk8 (fun hHeld2 => ?ca1x4x2x7xm8)
            case ca1x4x2x7xk8 => exact trivial
            clear hK K hHeld
            have hHeld := hHeld2; clear hHeld2
            (try simp only [Act.put, List.setIfInBounds_toArray, List.set_cons_zero, List.set_cons_succ])
            refine wpAnyH_ready (rs := [10]) (by kernel_rfl) (by simp) ?ca1x4x2x7xc10
            refine AllReadyH.cons (o := ⟨none, _, _, _, _, _⟩) rfl (fun K hK => ?ca1x4x2x7xst10) AllReadyH.nil
            (rw [if_pos (by rfl)]; refine wp_kn_store1 KN 22 _ _ rfl g1 0 rfl (.slice a1 n1 c1) rfl rfl _ 25 (by repeat (first | exact Repl.here | apply Repl.there)) (by (try simp only [Array.size_setIfInBounds, putL_size]); first | exact Nat.le_of_ble_eq_true rfl | (simp; omega)) (by kernel_rfl) (by rfl) ?_; clear KN; intro wx KN)
            refine hK.out _ _ ?ca1x4x2x7xk10 (fun hHeld2 => ?ca1x4x2x7xm10)
            case ca1x4x2x7xk10 => exact trivial
            clear hK K hHeld
            have hHeld := hHeld2; clear hHeld2
            (try simp only [Act.put, List.setIfInBounds_toArray, List.set_cons_zero, List.set_cons_succ])
            refine wpAnyH_take (i := 11) (oi := ⟨some 28, _, _, _, _, _⟩) (v := ?ca1x4x2x7xv11) rfl (by kernel_rfl) (by kernel_rfl) (by kernel_rfl) (fun _ _ _ h => h) (Or.inl ⟨by rfl, ?ca1x4x2x7xhy11⟩) hHeld ?ca1x4x2x7xr11
            case ca1x4x2x7xhy11 => (intro w hSw; (try dsimp only at hSw); go_simp; (try with_reducible rfl))
            (try simp only [Act.put, List.setIfInBounds_toArray, List.set_cons_zero, List.set_cons_succ])
            refine wpAnyH_ready (rs := [12]) (by kernel_rfl) (by simp) ?ca1x4x2x7xc12
            refine AllReadyH.cons (o := ⟨none, _, _, _, _, _⟩) rfl (fun K hK => ?ca1x4x2x7xst12) AllReadyH.nil
            (rw [if_pos (by rfl)]; refine wp_kn_store1 KN 23 _ _ rfl g1 3 rfl (.slice a2 n2 c2) rfl rfl _ 25 (by repeat (first | exact Repl.here | apply Repl.there)) (by (try simp only [Array.size_setIfInBounds, putL_size]); first | exact Nat.le_of_ble_eq_true rfl | (simp; omega)) (by kernel_rfl) (by rfl) ?_; clear KN; intro wx KN)
            refine hK.out _ _ ?ca1x4x2x7xk12 (fun hHeld2 => ?ca1x4x2x7xm12)
            case ca1x4x2x7xk12 => exact trivial
            clear hK K hHeld
            have hHeld := hHeld2; clear hHeld2
            (try simp only [Act.put, List.setIfInBounds_toArray, List.set_cons_zero, List.set_cons_succ])
            refine wpAnyH_take (i := 13) (oi := ⟨some 29, _, _, _, _, _⟩) (v := ?ca1x4x2x7xv13) rfl (by kernel_rfl) (by kernel_rfl) (by kernel_rfl) (fun _ _ _ h => h) (Or.inl ⟨by rfl, ?ca1x4x2x7xhy13⟩) hHeld ?ca1x4x2x7xr13
            case ca1x4x2x7xhy13 => (intro w hSw; (try dsimp only at hSw); go_simp; (try with_reducible rfl))
            (try simp only [Act.put, List.setIfInBounds_toArray, List.set_cons_zero, List.set_cons_succ])
            refine wpAnyH_ready (rs := [14]) (by kernel_rfl) (by simp) ?ca1x4x2x7xc14
            refine AllReadyH.cons (o := ⟨none, _, _, _, _, _⟩) rfl (fun K hK => ?ca1x4x2x7xst14) AllReadyH.nil
            (rw [if_pos (by rfl)]; refine wp_kn_store1 KN 22 _ _ rfl g1 4 rfl (.slice a3 n3 c3) rfl rfl _ 25 (by repeat (first | exact Repl.here | apply Repl.there)) (by (try simp only [Array.size_setIfInBounds, putL_size]); first | exact Nat.le_of_ble_eq_true rfl | (simp; omega)) (by kernel_rfl) (by rfl) ?_; clear KN; intro wx KN)
            refine hK.out _ _ ?ca1x4x2x7xk14 (fun hHeld2 => ?ca1x4x2x7xm14)
            case ca1x4x2x7xk14 => exact trivial
            clear hK K hHeld
            have hHeld := hHeld2; clear hHeld2
            (try simp only [Act.put, List.setIfInBounds_toArray, List.set_cons_zero, List.set_cons_succ])
            refine wpAnyH_done (by kernel_rfl) ?ca1x4x2x7xdone _
            replace KN := KN.as_ g1 #[.slice a1 n1 c1, .int .i64 (sm : Int), .int .i64 sl, .slice a2 n2 c2, .slice a3 n3 c3] (by repeat (first | exact Repl.here | apply Repl.there)) (by kernel_rfl)
            go_wp2_with fail
            go_meet
            case rel =>
            have h1 := HN1.out
            have h2 := HN2.out
            have h3 := HN3.out
            rw [List.length_map] at h1 h3
            unfold regRows at h2
            rw [List.length_map] at h2
            subst h1
            subst h2
            subst h3
            exact ⟨a1, a2, a3, c1, c2, c3, ol1, ol2, ol3, HO1.out, HO2.out, HO3.out, KN⟩
        case ca1x4xst7 =>
          (rw [if_pos (by rfl)]; refine wp_kn_load1 KN 22 _ rfl g1 4 rfl _ 25 (by repeat (first | exact Has.here | refine Has.there ?_)) (.slice oa no oc) rfl _ Tryz.underlying22 rfl ?_)
          refine hK.out _ _ ?ca1x4x7xk7 (fun hHeld2 => ?ca1x4x7xm7)
          case ca1x4x7xk7 => exact trivial
          clear hK K hHeld
          have hHeld := hHeld2; clear hHeld2
          (try simp only [Act.put, List.setIfInBounds_toArray, List.set_cons_zero, List.set_cons_succ])
          refine wpAnyH_ready (rs := [2]) (by kernel_rfl) (by simp) ?ca1x4x7xc2
          refine AllReadyH.cons (o := ⟨some 20, _, _, _, _, _⟩) rfl (fun K hK => ?ca1x4x7xst2) AllReadyH.nil
          go_simp
          (refine (Clone_any (HCW.out.below KN.toBelow) (by rw [← HNW.out]; omega)).mono ?_; rintro e wx ⟨v1, ol1, rfl, O1, K2, _⟩; obtain ⟨a1, n1, c1, rfl, hn1⟩ := O1.form4; have HO1 := Lib.hid O1; have HN1 := Lib.hid hn1; replace KN := (KN.call0 K2).perm List.perm_append_comm; simp only [List.cons_append, List.nil_append, List.append_assoc] at KN; clear K2 O1 hn1)
          refine hK.out _ _ ?ca1x4x7xk2 (fun hHeld2 => ?ca1x4x7xm2)
          case ca1x4x7xk2 => exact trivial
          clear hK K hHeld
          have hHeld := hHeld2; clear hHeld2
          (try simp only [Act.put, List.setIfInBounds_toArray, List.set_cons_zero, List.set_cons_succ])
          refine wpAnyH_take (i := 9) (oi := ⟨some 27, _, _, _, _, _⟩) (v := ?ca1x4x7xv9) rfl (by kernel_rfl) (by kernel_rfl) (by kernel_rfl) (fun _ _ _ h => h) (Or.inl ⟨by rfl, ?ca1x4x7xhy9⟩) hHeld ?ca1x4x7xr9
          case ca1x4x7xhy9 => (intro w hSw; (try dsimp only at hSw); go_simp; (try with_reducible rfl))
          (try simp only [Act.put, List.setIfInBounds_toArray, List.set_cons_zero, List.set_cons_succ])
          refine wpAnyH_ready (rs := [5]) (by kernel_rfl) (by simp) ?ca1x4x7xc5
          refine AllReadyH.cons (o := ⟨some 23, _, _, _, _, _⟩) rfl (fun K hK => ?ca1x4x7xst5) AllReadyH.nil
          go_simp
          (refine (CloneR_any (HCR.out.below KN.toBelow) (by rw [← HNR.out]; omega)).mono ?_; rintro e wx ⟨v2, ol2, rfl, O1, K2⟩; obtain ⟨a2, n2, c2, rfl, hn2⟩ := O1.form4; have HO2 := Lib.hid O1; have HN2 := Lib.hid hn2; replace KN := (KN.call0 K2).perm List.perm_append_comm; simp only [List.cons_append, List.nil_append, List.append_assoc] at KN; clear K2 O1 hn2)
          refine hK.out _ _ ?ca1x4x7xk5 (fun hHeld2 => ?ca1x4x7xm5)
          case ca1x4x7xk5 => exact trivial
          clear hK K hHeld
          have hHeld := hHeld2; clear hHeld2
          (try simp only [Act.put, List.setIfInBounds_toArray, List.set_cons_zero, List.set_cons_succ])
          refine wpAnyH_ready (rs := [8]) (by kernel_rfl) (by simp) ?ca1x4x7xc8
          refine AllReadyH.cons (o := ⟨some 26, _, _, _, _, _⟩) rfl (fun K hK => ?ca1x4x7xst8) AllReadyH.nil
          go_simp
          (refine (Clone_any (HCO.out.below KN.toBelow) (by rw [← HNO.out]; omega)).mono ?_; rintro e wx ⟨v3, ol3, rfl, O1, K2, _⟩; obtain ⟨a3, n3, c3, rfl, hn3⟩ := O1.form4; have HO3 := Lib.hid O1; have HN3 := Lib.hid hn3; replace KN := (KN.call0 K2).perm List.perm_append_comm; simp only [List.cons_append, List.nil_append, List.append_assoc] at KN; clear K2 O1 hn3)
          refine hK.out _ _ ?ca1x4x7xk8 (fun hHeld2 => ?ca1x4x7xm8)
          case ca1x4x7xk8 => exact trivial
          clear hK K hHeld
          have hHeld := hHeld2; clear hHeld2
          (try simp only [Act.put, List.setIfInBounds_toArray, List.set_cons_zero, List.set_cons_succ])
          refine wpAnyH_ready (rs := [10]) (by kernel_rfl) (by simp) ?ca1x4x7xc10
          refine AllReadyH.cons (o := ⟨none, _, _, _, _, _⟩) rfl (fun K hK => ?ca1x4x7xst10) AllReadyH.nil
          (rw [if_pos (by rfl)]; refine wp_kn_store1 KN 22 _ _ rfl g1 0 rfl (.slice a1 n1 c1) rfl rfl _ 25 (by repeat (first | exact Repl.here | apply Repl.there)) (by (try simp only [Array.size_setIfInBounds, putL_size]); first | exact Nat.le_of_ble_eq_true rfl | (simp; omega)) (by kernel_rfl) (by rfl) ?_; clear KN; intro wx KN)
          refine hK.out _ _ ?ca1x4x7xk10 (fun hHeld2 => ?ca1x4x7xm10)
          case ca1x4x7xk10 => exact trivial
          clear hK K hHeld
          have hHeld := hHeld2; clear hHeld2
          (try simp only [Act.put, List.setIfInBounds_toArray, List.set_cons_zero, List.set_cons_succ])
          refine wpAnyH_take (i := 11) (oi := ⟨some 28, _, _, _, _, _⟩) (v := ?ca1x4x7xv11) rfl (by kernel_rfl) (by kernel_rfl) (by kernel_rfl) (fun _ _ _ h => h) (Or.inl ⟨by rfl, ?ca1x4x7xhy11⟩) hHeld ?ca1x4x7xr11
          case ca1x4x7xhy11 => (intro w hSw; (try dsimp only at hSw); go_simp; (try with_reducible rfl))
          (try simp only [Act.put, List.setIfInBounds_toArray, List.set_cons_zero, List.set_cons_succ])
          refine wpAnyH_ready (rs := [12]) (by kernel_rfl) (by simp) ?ca1x4x7xc12
          refine AllReadyH.cons (o := ⟨none, _, _, _, _, _⟩) rfl (fun K hK => ?ca1x4x7xst12) AllReadyH.nil
          (rw [if_pos (by rfl)]; refine wp_kn_store1 KN 23 _ _ rfl g1 3 rfl (.slice a2 n2 c2) rfl rfl _ 25 (by repeat (first | exact Repl.here | apply Repl.there)) (by (try simp only [Array.size_setIfInBounds, putL_size]); first | exact Nat.le_of_ble_eq_true rfl | (simp; omega)) (by kernel_rfl) (by rfl) ?_; clear KN; intro wx KN)
          refine hK.out _ _ ?ca1x4x7xk12 (fun hHeld2 => ?ca1x4x7xm12)
          case ca1x4x7xk12 => exact trivial
          clear hK K hHeld
          have hHeld := hHeld2; clear hHeld2
          (try simp only [Act.put, List.setIfInBounds_toArray, List.set_cons_zero, List.set_cons_succ])
          refine wpAnyH_take (i := 13) (oi := ⟨some 29, _, _, _, _, _⟩) (v := ?ca1x4x7xv13) rfl (by kernel_rfl) (by kernel_rfl) (by kernel_rfl) (fun _ _ _ h => h) (Or.inl ⟨by rfl, ?ca1x4x7xhy13⟩) hHeld ?ca1x4x7xr13
          case ca1x4x7xhy13 => (intro w hSw; (try dsimp only at hSw); go_simp; (try with_reducible rfl))
          (try simp only [Act.put, List.setIfInBounds_toArray, List.set_cons_zero, List.set_cons_succ])
          refine wpAnyH_ready (rs := [14]) (by kernel_rfl) (by simp) ?ca1x4x7xc14
          refine AllReadyH.cons (o := ⟨none, _, _, _, _, _⟩) rfl (fun K hK => ?ca1x4x7xst14) AllReadyH.nil
          (rw [if_pos (by rfl)]; refine wp_kn_store1 KN 22 _ _ rfl g1 4 rfl (.slice a3 n3 c3) rfl rfl _ 25 (by repeat (first | exact Repl.here | apply Repl.there)) (by (try simp only [Array.size_setIfInBounds, putL_size]); first | exact Nat.le_of_ble_eq_true rfl | (simp; omega)) (by kernel_rfl) (by rfl) ?_; clear KN; intro wx KN)
          refine hK.out _ _ ?ca1x4x7xk14 (fun hHeld2 => ?ca1x4x7xm14)
          case ca1x4x7xk14 => exact trivial
          clear hK K hHeld
          have hHeld := hHeld2; clear hHeld2
          (try simp only [Act.put, List.setIfInBounds_toArray, List.set_cons_zero, List.set_cons_succ])
          refine wpAnyH_done (by kernel_rfl) ?ca1x4x7xdone _
          replace KN := KN.as_ g1 #[.slice a1 n1 c1, .int .i64 (sm : Int), .int .i64 sl, .slice a2 n2 c2, .slice a3 n3 c3] (by repeat (first | exact Repl.here | apply Repl.there)) (by kernel_rfl)
          go_wp2_with fail
          go_meet
          case rel =>
          have h1 := HN1.out
          have h2 := HN2.out
          have h3 := HN3.out
          rw [List.length_map] at h1 h3
          unfold regRows at h2
          rw [List.length_map] at h2
          subst h1
          subst h2
          subst h3
          exact ⟨a1, a2, a3, c1, c2, c3, ol1, ol2, ol3, HO1.out, HO2.out, HO3.out, KN⟩
      case ca1xst7 =>
        (rw [if_pos (by rfl)]; refine wp_kn_load1 KN 22 _ rfl g1 4 rfl _ 25 (by repeat (first | exact Has.here | refine Has.there ?_)) (.slice oa no oc) rfl _ Tryz.underlying22 rfl ?_)
        refine hK.out _ _ ?ca1x7xk7 (fun hHeld2 => ?ca1x7xm7)
        case ca1x7xk7 => exact trivial
        clear hK K hHeld
        have hHeld := hHeld2; clear hHeld2
        (try simp only [Act.put, List.setIfInBounds_toArray, List.set_cons_zero, List.set_cons_succ])
        refine wpAnyH_ready (rs := [2, 4]) (by kernel_rfl) (by simp) ?ca1x7xc2_4
        refine (AllReadyH.cons (o := ⟨some 20, _, _, _, _, _⟩) rfl (fun K hK => ?ca1x7xst2) (AllReadyH.cons (o := ⟨some 22, _, _, _, _, _⟩) rfl (fun K hK => ?ca1x7xst4) AllReadyH.nil))
        case ca1x7xst2 =>
          go_simp
          (refine (Clone_any (HCW.out.below KN.toBelow) (by rw [← HNW.out]; omega)).mono ?_; rintro e wx ⟨v1, ol1, rfl, O1, K2, _⟩; obtain ⟨a1, n1, c1, rfl, hn1⟩ := O1.form4; have HO1 := Lib.hid O1; have HN1 := Lib.hid hn1; replace KN := (KN.call0 K2).perm List.perm_append_comm; simp only [List.cons_append, List.nil_append, List.append_assoc] at KN; clear K2 O1 hn1)
          refine hK.out _ _ ?ca1x7x2xk2 (fun hHeld2 => ?ca1x7x2xm2)
          case ca1x7x2xk2 => exact trivial
          clear hK K hHeld
          have hHeld := hHeld2; clear hHeld2
          (try simp only [Act.put, List.setIfInBounds_toArray, List.set_cons_zero, List.set_cons_succ])
          refine wpAnyH_ready (rs := [4]) (by kernel_rfl) (by simp) ?ca1x7x2xc4
          refine AllReadyH.cons (o := ⟨some 22, _, _, _, _, _⟩) rfl (fun K hK => ?ca1x7x2xst4) AllReadyH.nil
          (rw [if_pos (by rfl)]; refine wp_kn_load1 KN 23 _ rfl g1 3 rfl _ 25 (by repeat (first | exact Has.here | refine Has.there ?_)) (.slice ra no rc) rfl _ Tryz.underlying23 rfl ?_)
          refine hK.out _ _ ?ca1x7x2xk4 (fun hHeld2 => ?ca1x7x2xm4)
          case ca1x7x2xk4 => exact trivial
          clear hK K hHeld
          have hHeld := hHeld2; clear hHeld2
          (try simp only [Act.put, List.setIfInBounds_toArray, List.set_cons_zero, List.set_cons_succ])
          refine wpAnyH_take (i := 9) (oi := ⟨some 27, _, _, _, _, _⟩) (v := ?ca1x7x2xv9) rfl (by kernel_rfl) (by kernel_rfl) (by kernel_rfl) (fun _ _ _ h => h) (Or.inl ⟨by rfl, ?ca1x7x2xhy9⟩) hHeld ?ca1x7x2xr9
          case ca1x7x2xhy9 => (intro w hSw; (try dsimp only at hSw); go_simp; (try with_reducible rfl))
          (try simp only [Act.put, List.setIfInBounds_toArray, List.set_cons_zero, List.set_cons_succ])
          refine wpAnyH_ready (rs := [5]) (by kernel_rfl) (by simp) ?ca1x7x2xc5
          refine AllReadyH.cons (o := ⟨some 23, _, _, _, _, _⟩) rfl (fun K hK => ?ca1x7x2xst5) AllReadyH.nil
          go_simp
          (refine (CloneR_any (HCR.out.below KN.toBelow) (by rw [← HNR.out]; omega)).mono ?_; rintro e wx ⟨v2, ol2, rfl, O1, K2⟩; obtain ⟨a2, n2, c2, rfl, hn2⟩ := O1.form4; have HO2 := Lib.hid O1; have HN2 := Lib.hid hn2; replace KN := (KN.call0 K2).perm List.perm_append_comm; simp only [List.cons_append, List.nil_append, List.append_assoc] at KN; clear K2 O1 hn2)
          refine hK.out _ _ ?ca1x7x2xk5 (fun hHeld2 => ?ca1x7x2xm5)
          case ca1x7x2xk5 => exact trivial
          clear hK K hHeld
          have hHeld := hHeld2; clear hHeld2
          (try simp only [Act.put, List.setIfInBounds_toArray, List.set_cons_zero, List.set_cons_succ])
          refine wpAnyH_ready (rs := [8]) (by kernel_rfl) (by simp) ?ca1x7x2xc8
          refine AllReadyH.cons (o := ⟨some 26, _, _, _, _, _⟩) rfl (fun K hK => ?ca1x7x2xst8) AllReadyH.nil
          go_simp
          (refine (Clone_any (HCO.out.below KN.toBelow) (by rw [← HNO.out]; omega)).mono ?_; rintro e wx ⟨v3, ol3, rfl, O1, K2, _⟩; obtain ⟨a3, n3, c3, rfl, hn3⟩ := O1.form4; have HO3 := Lib.hid O1; have HN3 := Lib.hid hn3; replace KN := (KN.call0 K2).perm List.perm_append_comm; simp only [List.cons_append, List.nil_append, List.append_assoc] at KN; clear K2 O1 hn3)
          refine hK.out _ _ ?ca1x7x2xk8 (fun hHeld2 => ?ca1x7x2xm8)
          case ca1x7x2xk8 => exact trivial
          clear hK K hHeld
          have hHeld := hHeld2; clear hHeld2
          (try simp only [Act.put, List.setIfInBounds_toArray, List.set_cons_zero, List.set_cons_succ])
          refine wpAnyH_ready (rs := [10]) (by kernel_rfl) (by simp) ?ca1x7x2xc10
          refine AllReadyH.cons (o := ⟨none, _, _, _, _, _⟩) rfl (fun K hK => ?ca1x7x2xst10) AllReadyH.nil
          (rw [if_pos (by rfl)]; refine wp_kn_store1 KN 22 _ _ rfl g1 0 rfl (.slice a1 n1 c1) rfl rfl _ 25 (by repeat (first | exact Repl.here | apply Repl.there)) (by (try simp only [Array.size_setIfInBounds, putL_size]); first | exact Nat.le_of_ble_eq_true rfl | (simp; omega)) (by kernel_rfl) (by rfl) ?_; clear KN; intro wx KN)
          refine hK.out _ _ ?ca1x7x2xk10 (fun hHeld2 => ?ca1x7x2xm10)
          case ca1x7x2xk10 => exact trivial
          clear hK K hHeld
          have hHeld := hHeld2; clear hHeld2
          (try simp only [Act.put, List.setIfInBounds_toArray, List.set_cons_zero, List.set_cons_succ])
          refine wpAnyH_take (i := 11) (oi := ⟨some 28, _, _, _, _, _⟩) (v := ?ca1x7x2xv11) rfl (by kernel_rfl) (by kernel_rfl) (by kernel_rfl) (fun _ _ _ h => h) (Or.inl ⟨by rfl, ?ca1x7x2xhy11⟩) hHeld ?ca1x7x2xr11
          case ca1x7x2xhy11 => (intro w hSw; (try dsimp only at hSw); go_simp; (try with_reducible rfl))
          (try simp only [Act.put, List.setIfInBounds_toArray, List.set_cons_zero, List.set_cons_succ])
          refine wpAnyH_ready (rs := [12]) (by kernel_rfl) (by simp) ?ca1x7x2xc12
          refine AllReadyH.cons (o := ⟨none, _, _, _, _, _⟩) rfl (fun K hK => ?ca1x7x2xst12) AllReadyH.nil
          (rw [if_pos (by rfl)]; refine wp_kn_store1 KN 23 _ _ rfl g1 3 rfl (.slice a2 n2 c2) rfl rfl _ 25 (by repeat (first | exact Repl.here | apply Repl.there)) (by (try simp only [Array.size_setIfInBounds, putL_size]); first | exact Nat.le_of_ble_eq_true rfl | (simp; omega)) (by kernel_rfl) (by rfl) ?_; clear KN; intro wx KN)
          refine hK.out _ _ ?ca1x7x2xk12 (fun hHeld2 => ?ca1x7x2xm12)
          case ca1x7x2xk12 => exact trivial
          clear hK K hHeld
          have hHeld := hHeld2; clear hHeld2
          (try simp only [Act.put, List.setIfInBounds_toArray, List.set_cons_zero, List.set_cons_succ])
          refine wpAnyH_take (i := 13) (oi := ⟨some 29, _, _, _, _, _⟩) (v := ?ca1x7x2xv13) rfl (by kernel_rfl) (by kernel_rfl) (by kernel_rfl) (fun _ _ _ h => h) (Or.inl ⟨by rfl, ?ca1x7x2xhy13⟩) hHeld ?ca1x7x2xr13
          case ca1x7x2xhy13 => (intro w hSw; (try dsimp only at hSw); go_simp; (try with_reducible rfl))
          (try simp only [Act.put, List.setIfInBounds_toArray, List.set_cons_zero, List.set_cons_succ])
          refine wpAnyH_ready (rs := [14]) (by kernel_rfl) (by simp) ?ca1x7x2xc14
          refine AllReadyH.cons (o := ⟨none, _, _, _, _, _⟩) rfl (fun K hK => ?ca1x7x2xst14) AllReadyH.nil
          (rw [if_pos (by rfl)]; refine wp_kn_store1 KN 22 _ _ rfl g1 4 rfl (.slice a3 n3 c3) rfl rfl _ 25 (by repeat (first | exact Repl.here | apply Repl.there)) (by (try simp only [Array.size_setIfInBounds, putL_size]); first | exact Nat.le_of_ble_eq_true rfl | (simp; omega)) (by kernel_rfl) (by rfl) ?_; clear KN; intro wx KN)
          refine hK.out _ _ ?ca1x7x2xk14 (fun hHeld2 => ?ca1x7x2xm14)
          case ca1x7x2xk14 => exact trivial
          clear hK K hHeld
          have hHeld := hHeld2; clear hHeld2
          (try simp only [Act.put, List.setIfInBounds_toArray, List.set_cons_zero, List.set_cons_succ])
          refine wpAnyH_done (by kernel_rfl) ?ca1x7x2xdone _
          replace KN := KN.as_ g1 #[.slice a1 n1 c1, .int .i64 (sm : Int), .int .i64 sl, .slice a2 n2 c2, .slice a3 n3 c3] (by repeat (first | exact Repl.here | apply Repl.there)) (by kernel_rfl)
          go_wp2_with fail
          go_meet
          case rel =>
          have h1 := HN1.out
          have h2 := HN2.out
          have h3 := HN3.out
          rw [List.length_map] at h1 h3
          unfold regRows at h2
          rw [List.length_map] at h2
          subst h1
          subst h2
          subst h3
          exact ⟨a1, a2, a3, c1, c2, c3, ol1, ol2, ol3, HO1.out, HO2.out, HO3.out, KN⟩
        case ca1x7xst4 =>
          (rw [if_pos (by rfl)]; refine wp_kn_load1 KN 23 _ rfl g1 3 rfl _ 25 (by repeat (first | exact Has.here | refine Has.there ?_)) (.slice ra no rc) rfl _ Tryz.underlying23 rfl ?_)
          refine hK.out _ _ ?ca1x7x4xk4 (fun hHeld2 => ?ca1x7x4xm4)
          case ca1x7x4xk4 => exact trivial
          clear hK K hHeld
          have hHeld := hHeld2; clear hHeld2
          (try simp only [Act.put, List.setIfInBounds_toArray, List.set_cons_zero, List.set_cons_succ])
          refine wpAnyH_ready (rs := [2]) (by kernel_rfl) (by simp) ?ca1x7x4xc2
          refine AllReadyH.cons (o := ⟨some 20, _, _, _, _, _⟩) rfl (fun K hK => ?ca1x7x4xst2) AllReadyH.nil
          go_simp
          (refine (Clone_any (HCW.out.below KN.toBelow) (by rw [← HNW.out]; omega)).mono ?_; rintro e wx ⟨v1, ol1, rfl, O1, K2, _⟩; obtain ⟨a1, n1, c1, rfl, hn1⟩ := O1.form4; have HO1 := Lib.hid O1; have HN1 := Lib.hid hn1; replace KN := (KN.call0 K2).perm List.perm_append_comm; simp only [List.cons_append, List.nil_append, List.append_assoc] at KN; clear K2 O1 hn1)
          refine hK.out _ _ ?ca1x7x4xk2 (fun hHeld2 => ?ca1x7x4xm2)
          case ca1x7x4xk2 => exact trivial
          clear hK K hHeld
          have hHeld := hHeld2; clear hHeld2
          (try simp only [Act.put, List.setIfInBounds_toArray, List.set_cons_zero, List.set_cons_succ])
          refine wpAnyH_take (i := 9) (oi := ⟨some 27, _, _, _, _, _⟩) (v := ?ca1x7x4xv9) rfl (by kernel_rfl) (by kernel_rfl) (by kernel_rfl) (fun _ _ _ h => h) (Or.inl ⟨by rfl, ?ca1x7x4xhy9⟩) hHeld ?ca1x7x4xr9
          case ca1x7x4xhy9 => (intro w hSw; (try dsimp only at hSw); go_simp; (try with_reducible rfl))
          (try simp only [Act.put, List.setIfInBounds_toArray, List.set_cons_zero, List.set_cons_succ])
          refine wpAnyH_ready (rs := [5]) (by kernel_rfl) (by simp) ?ca1x7x4xc5
          refine AllReadyH.cons (o := ⟨some 23, _, _, _, _, _⟩) rfl (fun K hK => ?ca1x7x4xst5) AllReadyH.nil
          go_simp
          (refine (CloneR_any (HCR.out.below KN.toBelow) (by rw [← HNR.out]; omega)).mono ?_; rintro e wx ⟨v2, ol2, rfl, O1, K2⟩; obtain ⟨a2, n2, c2, rfl, hn2⟩ := O1.form4; have HO2 := Lib.hid O1; have HN2 := Lib.hid hn2; replace KN := (KN.call0 K2).perm List.perm_append_comm; simp only [List.cons_append, List.nil_append, List.append_assoc] at KN; clear K2 O1 hn2)
          refine hK.out _ _ ?ca1x7x4xk5 (fun hHeld2 => ?ca1x7x4xm5)
          case ca1x7x4xk5 => exact trivial
          clear hK K hHeld
          have hHeld := hHeld2; clear hHeld2
          (try simp only [Act.put, List.setIfInBounds_toArray, List.set_cons_zero, List.set_cons_succ])
          refine wpAnyH_ready (rs := [8]) (by kernel_rfl) (by simp) ?ca1x7x4xc8
          refine AllReadyH.cons (o := ⟨some 26, _, _, _, _, _⟩) rfl (fun K hK => ?ca1x7x4xst8) AllReadyH.nil
          go_simp
          (refine (Clone_any (HCO.out.below KN.toBelow) (by rw [← HNO.out]; omega)).mono ?_; rintro e wx ⟨v3, ol3, rfl, O1, K2, _⟩; obtain ⟨a3, n3, c3, rfl, hn3⟩ := O1.form4; have HO3 := Lib.hid O1; have HN3 := Lib.hid hn3; replace KN := (KN.call0 K2).perm List.perm_append_comm; simp only [List.cons_append, List.nil_append, List.append_assoc] at KN; clear K2 O1 hn3)
          refine hK.out _ _ ?ca1x7x4xk8 (fun hHeld2 => ?ca1x7x4xm8)
          case ca1x7x4xk8 => exact trivial
          clear hK K hHeld
          have hHeld := hHeld2; clear hHeld2
          (try simp only [Act.put, List.setIfInBounds_toArray, List.set_cons_zero, List.set_cons_succ])
          refine wpAnyH_ready (rs := [10]) (by kernel_rfl) (by simp) ?ca1x7x4xc10
          refine AllReadyH.cons (o := ⟨none, _, _, _, _, _⟩) rfl (fun K hK => ?ca1x7x4xst10) AllReadyH.nil
          (rw [if_pos (by rfl)]; refine wp_kn_store1 KN 22 _ _ rfl g1 0 rfl (.slice a1 n1 c1) rfl rfl _ 25 (by repeat (first | exact Repl.here | apply Repl.there)) (by (try simp only [Array.size_setIfInBounds, putL_size]); first | exact Nat.le_of_ble_eq_true rfl | (simp; omega)) (by kernel_rfl) (by rfl) ?_; clear KN; intro wx KN)
          refine hK.out _ _ ?ca1x7x4xk10 (fun hHeld2 => ?ca1x7x4xm10)
          case ca1x7x4xk10 => exact trivial
          clear hK K hHeld
          have hHeld := hHeld2; clear hHeld2
          (try simp only [Act.put, List.setIfInBounds_toArray, List.set_cons_zero, List.set_cons_succ])
          refine wpAnyH_take (i := 11) (oi := ⟨some 28, _, _, _, _, _⟩) (v := ?ca1x7x4xv11) rfl (by kernel_rfl) (by kernel_rfl) (by kernel_rfl) (fun _ _ _ h => h) (Or.inl ⟨by rfl, ?ca1x7x4xhy11⟩) hHeld ?ca1x7x4xr11
          case ca1x7x4xhy11 => (intro w hSw; (try dsimp only at hSw); go_simp; (try with_reducible rfl))
          (try simp only [Act.put, List.setIfInBounds_toArray, List.set_cons_zero, List.set_cons_succ])
          refine wpAnyH_ready (rs := [12]) (by kernel_rfl) (by simp) ?ca1x7x4xc12
          refine AllReadyH.cons (o := ⟨none, _, _, _, _, _⟩) rfl (fun K hK => ?ca1x7x4xst12) AllReadyH.nil
          (rw [if_pos (by rfl)]; refine wp_kn_store1 KN 23 _ _ rfl g1 3 rfl (.slice a2 n2 c2) rfl rfl _ 25 (by repeat (first | exact Repl.here | apply Repl.there)) (by (try simp only [Array.size_setIfInBounds, putL_size]); first | exact Nat.le_of_ble_eq_true rfl | (simp; omega)) (by kernel_rfl) (by rfl) ?_; clear KN; intro wx KN)
          refine hK.out _ _ ?ca1x7x4xk12 (fun hHeld2 => ?ca1x7x4xm12)
          case ca1x7x4xk12 => exact trivial
          clear hK K hHeld
          have hHeld := hHeld2; clear hHeld2
          (try simp only [Act.put, List.setIfInBounds_toArray, List.set_cons_zero, List.set_cons_succ])
          refine wpAnyH_take (i := 13) (oi := ⟨some 29, _, _, _, _, _⟩) (v := ?ca1x7x4xv13) rfl (by kernel_rfl) (by kernel_rfl) (by kernel_rfl) (fun _ _ _ h => h) (Or.inl ⟨by rfl, ?ca1x7x4xhy13⟩) hHeld ?ca1x7x4xr13
          case ca1x7x4xhy13 => (intro w hSw; (try dsimp only at hSw); go_simp; (try with_reducible rfl))
          (try simp only [Act.put, List.setIfInBounds_toArray, List.set_cons_zero, List.set_cons_succ])
          refine wpAnyH_ready (rs := [14]) (by kernel_rfl) (by simp) ?ca1x7x4xc14
          refine AllReadyH.cons (o := ⟨none, _, _, _, _, _⟩) rfl (fun K hK => ?ca1x7x4xst14) AllReadyH.nil
          (rw [if_pos (by rfl)]; refine wp_kn_store1 KN 22 _ _ rfl g1 4 rfl (.slice a3 n3 c3) rfl rfl _ 25 (by repeat (first | exact Repl.here | apply Repl.there)) (by (try simp only [Array.size_setIfInBounds, putL_size]); first | exact Nat.le_of_ble_eq_true rfl | (simp; omega)) (by kernel_rfl) (by rfl) ?_; clear KN; intro wx KN)
          refine hK.out _ _ ?ca1x7x4xk14 (fun hHeld2 => ?ca1x7x4xm14)
          case ca1x7x4xk14 => exact trivial
          clear hK K hHeld
          have hHeld := hHeld2; clear hHeld2
          (try simp only [Act.put, List.setIfInBounds_toArray, List.set_cons_zero, List.set_cons_succ])
          refine wpAnyH_done (by kernel_rfl) ?ca1x7x4xdone _
          replace KN := KN.as_ g1 #[.slice a1 n1 c1, .int .i64 (sm : Int), .int .i64 sl, .slice a2 n2 c2, .slice a3 n3 c3] (by repeat (first | exact Repl.here | apply Repl.there)) (by kernel_rfl)
          go_wp2_with fail
          go_meet
          case rel =>
          have h1 := HN1.out
          have h2 := HN2.out
          have h3 := HN3.out
          rw [List.length_map] at h1 h3
          unfold regRows at h2
          rw [List.length_map] at h2
          subst h1
          subst h2
          subst h3
          exact ⟨a1, a2, a3, c1, c2, c3, ol1, ol2, ol3, HO1.out, HO2.out, HO3.out, KN⟩
    case cast4 =>
      (rw [if_pos (by rfl)]; refine wp_kn_load1 KN 23 _ rfl g1 3 rfl _ 25 (by repeat (first | exact Has.here | refine Has.there ?_)) (.slice ra no rc) rfl _ Tryz.underlying23 rfl ?_)
      refine hK.out _ _ ?ca4xk4 (fun hHeld2 => ?ca4xm4)
      case ca4xk4 => exact trivial
      clear hK K hHeld
      have hHeld := hHeld2; clear hHeld2
      (try simp only [Act.put, List.setIfInBounds_toArray, List.set_cons_zero, List.set_cons_succ])
      refine wpAnyH_ready (rs := [1, 7]) (by kernel_rfl) (by simp) ?ca4xc1_7
      refine (AllReadyH.cons (o := ⟨some 19, _, _, _, _, _⟩) rfl (fun K hK => ?ca4xst1) (AllReadyH.cons (o := ⟨some 25, _, _, _, _, _⟩) rfl (fun K hK => ?ca4xst7) AllReadyH.nil))
      case ca4xst1 =>
        (rw [if_pos (by rfl)]; refine wp_kn_load1 KN 22 _ rfl g1 0 rfl _ 25 (by repeat (first | exact Has.here | refine Has.there ?_)) (.slice wa nw wc) rfl _ Tryz.underlying22 rfl ?_)
        refine hK.out _ _ ?ca4x1xk1 (fun hHeld2 => ?ca4x1xm1)
        case ca4x1xk1 => exact trivial
        clear hK K hHeld
        have hHeld := hHeld2; clear hHeld2
        (try simp only [Act.put, List.setIfInBounds_toArray, List.set_cons_zero, List.set_cons_succ])
        refine wpAnyH_ready (rs := [2, 7]) (by kernel_rfl) (by simp) ?ca4x1xc2_7
        refine (AllReadyH.cons (o := ⟨some 20, _, _, _, _, _⟩) rfl (fun K hK => ?ca4x1xst2) (AllReadyH.cons (o := ⟨some 25, _, _, _, _, _⟩) rfl (fun K hK => ?ca4x1xst7) AllReadyH.nil))
        case ca4x1xst2 =>
          go_simp
          (refine (Clone_any (HCW.out.below KN.toBelow) (by rw [← HNW.out]; omega)).mono ?_; rintro e wx ⟨v1, ol1, rfl, O1, K2, _⟩; obtain ⟨a1, n1, c1, rfl, hn1⟩ := O1.form4; have HO1 := Lib.hid O1; have HN1 := Lib.hid hn1; replace KN := (KN.call0 K2).perm List.perm_append_comm; simp only [List.cons_append, List.nil_append, List.append_assoc] at KN; clear K2 O1 hn1)
          refine hK.out _ _ ?ca4x1x2xk2 (fun hHeld2 => ?ca4x1x2xm2)
          case ca4x1x2xk2 => exact trivial
          clear hK K hHeld
          have hHeld := hHeld2; clear hHeld2
          (try simp only [Act.put, List.setIfInBounds_toArray, List.set_cons_zero, List.set_cons_succ])
          refine wpAnyH_ready (rs := [5, 7]) (by kernel_rfl) (by simp) ?ca4x1x2xc5_7
          refine (AllReadyH.cons (o := ⟨some 23, _, _, _, _, _⟩) rfl (fun K hK => ?ca4x1x2xst5) (AllReadyH.cons (o := ⟨some 25, _, _, _, _, _⟩) rfl (fun K hK => ?ca4x1x2xst7) AllReadyH.nil))
          case ca4x1x2xst5 =>
            go_simp
            (refine (CloneR_any (HCR.out.below KN.toBelow) (by rw [← HNR.out]; omega)).mono ?_; rintro e wx ⟨v2, ol2, rfl, O1, K2⟩; obtain ⟨a2, n2, c2, rfl, hn2⟩ := O1.form4; have HO2 := Lib.hid O1; have HN2 := Lib.hid hn2; replace KN := (KN.call0 K2).perm List.perm_append_comm; simp only [List.cons_append, List.nil_append, List.append_assoc] at KN; clear K2 O1 hn2)
            refine hK.out _ _ ?ca4x1x2x5xk5 (fun hHeld2 => ?ca4x1x2x5xm5)
            case ca4x1x2x5xk5 => exact trivial
            clear hK K hHeld
            have hHeld := hHeld2; clear hHeld2
            (try simp only [Act.put, List.setIfInBounds_toArray, List.set_cons_zero, List.set_cons_succ])
            refine wpAnyH_ready (rs := [7]) (by kernel_rfl) (by simp) ?ca4x1x2x5xc7
            refine AllReadyH.cons (o := ⟨some 25, _, _, _, _, _⟩) rfl (fun K hK => ?ca4x1x2x5xst7) AllReadyH.nil
            (rw [if_pos (by rfl)]; refine wp_kn_load1 KN 22 _ rfl g1 4 rfl _ 25 (by repeat (first | exact Has.here | refine Has.there ?_)) (.slice oa no oc) rfl _ Tryz.underlying22 rfl ?_)
            refine hK.out _ _ ?ca4x1x2x5xk7 (fun hHeld2 => ?ca4x1x2x5xm7)
            case ca4x1x2x5xk7 => exact trivial
            clear hK K hHeld
            have hHeld := hHeld2; clear hHeld2
            (try simp only [Act.put, List.setIfInBounds_toArray, List.set_cons_zero, List.set_cons_succ])
            refine wpAnyH_take (i := 9) (oi := ⟨some 27, _, _, _, _, _⟩) (v := ?ca4x1x2x5xv9) rfl (by kernel_rfl) (by kernel_rfl) (by kernel_rfl) (fun _ _ _ h => h) (Or.inl ⟨by rfl, ?ca4x1x2x5xhy9⟩) hHeld ?ca4x1x2x5xr9
            case ca4x1x2x5xhy9 => (intro w hSw; (try dsimp only at hSw); go_simp; (try with_reducible rfl))
            (try simp only [Act.put, List.setIfInBounds_toArray, List.set_cons_zero, List.set_cons_succ])
            refine wpAnyH_ready (rs := [8]) (by kernel_rfl) (by simp) ?ca4x1x2x5xc8
            refine AllReadyH.cons (o := ⟨some 26, _, _, _, _, _⟩) rfl (fun K hK => ?ca4x1x2x5xst8) AllReadyH.nil
            go_simp
            (refine (Clone_any (HCO.out.below KN.toBelow) (by rw [← HNO.out]; omega)).mono ?_; rintro e wx ⟨v3, ol3, rfl, O1, K2, _⟩; obtain ⟨a3, n3, c3, rfl, hn3⟩ := O1.form4; have HO3 := Lib.hid O1; have HN3 := Lib.hid hn3; replace KN := (KN.call0 K2).perm List.perm_append_comm; simp only [List.cons_append, List.nil_append, List.append_assoc] at KN; clear K2 O1 hn3)
            refine hK.out _ _ ?ca4x1x2x5xk8 (fun hHeld2 => ?ca4x1x2x5xm8)
            case ca4x1x2x5xk8 => exact trivial
            clear hK K hHeld
            have hHeld := hHeld2; clear hHeld2
            (try simp only [Act.put, List.setIfInBounds_toArray, List.set_cons_zero, List.set_cons_succ])
            refine wpAnyH_ready (rs := [10]) (by kernel_rfl) (by simp) ?ca4x1x2x5xc10
            refine AllReadyH.cons (o := ⟨none, _, _, _, _, _⟩) rfl (fun K hK => ?ca4x1x2x5xst10) AllReadyH.nil
            (rw [if_pos (by rfl)]; refine wp_kn_store1 KN 22 _ _ rfl g1 0 rfl (.slice a1 n1 c1) rfl rfl _ 25 (by repeat (first | exact Repl.here | apply Repl.there)) (by (try simp only [Array.size_setIfInBounds, putL_size]); first | exact Nat.le_of_ble_eq_true rfl | (simp; omega)) (by kernel_rfl) (by rfl) ?_; clear KN; intro wx KN)
            refine hK.out _ _ ?ca4x1x2x5xk10 (fun hHeld2 => ?ca4x1x2x5xm10)
            case ca4x1x2x5xk10 => exact trivial
            clear hK K hHeld
            have hHeld := hHeld2; clear hHeld2
            (try simp only [Act.put, List.setIfInBounds_toArray, List.set_cons_zero, List.set_cons_succ])
            refine wpAnyH_take (i := 11) (oi := ⟨some 28, _, _, _, _, _⟩) (v := ?ca4x1x2x5xv11) rfl (by kernel_rfl) (by kernel_rfl) (by kernel_rfl) (fun _ _ _ h => h) (Or.inl ⟨by rfl, ?ca4x1x2x5xhy11⟩) hHeld ?ca4x1x2x5xr11
            case ca4x1x2x5xhy11 => (intro w hSw; (try dsimp only at hSw); go_simp; (try with_reducible rfl))
            (try simp only [Act.put, List.setIfInBounds_toArray, List.set_cons_zero, List.set_cons_succ])
            refine wpAnyH_ready (rs := [12]) (by kernel_rfl) (by simp) ?ca4x1x2x5xc12
            refine AllReadyH.cons (o := ⟨none, _, _, _, _, _⟩) rfl (fun K hK => ?ca4x1x2x5xst12) AllReadyH.nil
            (rw [if_pos (by rfl)]; refine wp_kn_store1 KN 23 _ _ rfl g1 3 rfl (.slice a2 n2 c2) rfl rfl _ 25 (by repeat (first | exact Repl.here | apply Repl.there)) (by (try simp only [Array.size_setIfInBounds, putL_size]); first | exact Nat.le_of_ble_eq_true rfl | (simp; omega)) (by kernel_rfl) (by rfl) ?_; clear KN; intro wx KN)
            refine hK.out _ _ ?ca4x1x2x5xk12 (fun hHeld2 => ?ca4x1x2x5xm12)
            case ca4x1x2x5xk12 => exact trivial
            clear hK K hHeld
            have hHeld := hHeld2; clear hHeld2
            (try simp only [Act.put, List.setIfInBounds_toArray, List.set_cons_zero, List.set_cons_succ])
            refine wpAnyH_take (i := 13) (oi := ⟨some 29, _, _, _, _, _⟩) (v := ?ca4x1x2x5xv13) rfl (by kernel_rfl) (by kernel_rfl) (by kernel_rfl) (fun _ _ _ h => h) (Or.inl ⟨by rfl, ?ca4x1x2x5xhy13⟩) hHeld ?ca4x1x2x5xr13
            case ca4x1x2x5xhy13 => (intro w hSw; (try dsimp only at hSw); go_simp; (try with_reducible rfl))
            (try simp only [Act.put, List.setIfInBounds_toArray, List.set_cons_zero, List.set_cons_succ])
            refine wpAnyH_ready (rs := [14]) (by kernel_rfl) (by simp) ?ca4x1x2x5xc14
            refine AllReadyH.cons (o := ⟨none, _, _, _, _, _⟩) rfl (fun K hK => ?ca4x1x2x5xst14) AllReadyH.nil
            (rw [if_pos (by rfl)]; refine wp_kn_store1 KN 22 _ _ rfl g1 4 rfl (.slice a3 n3 c3) rfl rfl _ 25 (by repeat (first | exact Repl.here | apply Repl.there)) (by (try simp only [Array.size_setIfInBounds, putL_size]); first | exact Nat.le_of_ble_eq_true rfl | (simp; omega)) (by kernel_rfl) (by rfl) ?_; clear KN; intro wx KN)
            refine hK.out _ _ ?ca4x1x2x5xk14 (fun hHeld2 => ?ca4x1x2x5xm14)
            case ca4x1x2x5xk14 => exact trivial
            clear hK K hHeld
            have hHeld := hHeld2; clear hHeld2
            (try simp only [Act.put, List.setIfInBounds_toArray, List.set_cons_zero, List.set_cons_succ])
            refine wpAnyH_done (by kernel_rfl) ?ca4x1x2x5xdone _
            replace KN := KN.as_ g1 #[.slice a1 n1 c1, .int .i64 (sm : Int), .int .i64 sl, .slice a2 n2 c2, .slice a3 n3 c3] (by repeat (first | exact Repl.here | apply Repl.there)) (by kernel_rfl)
            go_wp2_with fail
            go_meet
            case rel =>
            have h1 := HN1.out
            have h2 := HN2.out
            have h3 := HN3.out
            rw [List.length_map] at h1 h3
            unfold regRows at h2
            rw [List.length_map] at h2
            subst h1
            subst h2
            subst h3
            exact ⟨a1, a2, a3, c1, c2, c3, ol1, ol2, ol3, HO1.out, HO2.out, HO3.out, KN⟩
          case ca4x1x2xst7 =>
            (rw [if_pos (by rfl)]; refine wp_kn_load1 KN 22 _ rfl g1 4 rfl _ 25 (by repeat (first | exact Has.here | refine Has.there ?_)) (.slice oa no oc) rfl _ Tryz.underlying22 rfl ?_)
            refine hK.out _ _ ?ca4x1x2x7xk7 (fun hHeld2 => ?ca4x1x2x7xm7)
            case ca4x1x2x7xk7 => exact trivial
            clear hK K hHeld
            have hHeld := hHeld2; clear hHeld2
            (try simp only [Act.put, List.setIfInBounds_toArray, List.set_cons_zero, List.set_cons_succ])
            refine wpAnyH_take (i := 9) (oi := ⟨some 27, _, _, _, _, _⟩) (v := ?ca4x1x2x7xv9) rfl (by kernel_rfl) (by kernel_rfl) (by kernel_rfl) (fun _ _ _ h => h) (Or.inl ⟨by rfl, ?ca4x1x2x7xhy9⟩) hHeld ?ca4x1x2x7xr9
            case ca4x1x2x7xhy9 => (intro w hSw; (try dsimp only at hSw); go_simp; (try with_reducible rfl))
            (try simp only [Act.put, List.setIfInBounds_toArray, List.set_cons_zero, List.set_cons_succ])
            refine wpAnyH_ready (rs := [5]) (by kernel_rfl) (by simp) ?ca4x1x2x7xc5
            refine AllReadyH.cons (o := ⟨some 23, _, _, _, _, _⟩) rfl (fun K hK => ?ca4x1x2x7xst5) AllReadyH.nil
            go_simp
            (refine (CloneR_any (HCR.out.below KN.toBelow) (by rw [← HNR.out]; omega)).mono ?_; rintro e wx ⟨v2, ol2, rfl, O1, K2⟩; obtain ⟨a2, n2, c2, rfl, hn2⟩ := O1.form4; have HO2 := Lib.hid O1; have HN2 := Lib.hid hn2; replace KN := (KN.call0 K2).perm List.perm_append_comm; simp only [List.cons_append, List.nil_append, List.append_assoc] at KN; clear K2 O1 hn2)
            refine hK.out _ _ ?ca4x1x2x7xk5 (fun hHeld2 => ?ca4x1x2x7xm5)
            case ca4x1x2x7xk5 => exact trivial
            clear hK K hHeld
            have hHeld := hHeld2; clear hHeld2
            (try simp only [Act.put, List.setIfInBounds_toArray, List.set_cons_zero, List.set_cons_succ])
            refine wpAnyH_ready (rs := [8]) (by kernel_rfl) (by simp) ?ca4x1x2x7xc8
            refine AllReadyH.cons (o := ⟨some 26, _, _, _, _, _⟩) rfl (fun K hK => ?ca4x1x2x7xst8) AllReadyH.nil
            go_simp
            (refine (Clone_any (HCO.out.below KN.toBelow) (by rw [← HNO.out]; omega)).mono ?_; rintro e wx ⟨v3, ol3, rfl, O1, K2, _⟩; obtain ⟨a3, n3, c3, rfl, hn3⟩ := O1.form4; have HO3 := Lib.hid O1; have HN3 := Lib.hid hn3; replace KN := (KN.call0 K2).perm List.perm_append_comm; simp only [List.cons_append, List.nil_append, List.append_assoc] at KN; clear K2 O1 hn3)
            refine hK.out _ _ ?ca4x1x2x7xk8 (fun hHeld2 => ?ca4x1x2x7xm8)
            case ca4x1x2x7xk8 => exact trivial
            clear hK K hHeld
            have hHeld := hHeld2; clear hHeld2
            (try simp only [Act.put, List.setIfInBounds_toArray, List.set_cons_zero, List.set_cons_succ])
            refine wpAnyH_ready (rs := [10]) (by kernel_rfl) (by simp) ?ca4x1x2x7xc10
            refine AllReadyH.cons (o := ⟨none, _, _, _, _, _⟩) rfl (fun K hK => ?ca4x1x2x7xst10) AllReadyH.nil
            (rw [if_pos (by rfl)]; refine wp_kn_store1 KN 22 _ _ rfl g1 0 rfl (.slice a1 n1 c1) rfl rfl _ 25 (by repeat (first | exact Repl.here | apply Repl.there)) (by (try simp only [Array.size_setIfInBounds, putL_size]); first | exact Nat.le_of_ble_eq_true rfl | (simp; omega)) (by kernel_rfl) (by rfl) ?_; clear KN; intro wx KN)
            refine hK.out _ _ ?ca4x1x2x7xk10 (fun hHeld2 => ?ca4x1x2x7xm10)
            case ca4x1x2x7xk10 => exact trivial
            clear hK K hHeld
            have hHeld := hHeld2; clear hHeld2
            (try simp only [Act.put, List.setIfInBounds_toArray, List.set_cons_zero, List.set_cons_succ])
            refine wpAnyH_take (i := 11) (oi := ⟨some 28, _, _, _, _, _⟩) (v := ?ca4x1x2x7xv11) rfl (by kernel_rfl) (by kernel_rfl) (by kernel_rfl) (fun _ _ _ h => h) (Or.inl ⟨by rfl, ?ca4x1x2x7xhy11⟩) hHeld ?ca4x1x2x7xr11
            case ca4x1x2x7xhy11 => (intro w hSw; (try dsimp only at hSw); go_simp; (try with_reducible rfl))
            (try simp only [Act.put, List.setIfInBounds_toArray, List.set_cons_zero, List.set_cons_succ])
            refine wpAnyH_ready (rs := [12]) (by kernel_rfl) (by simp) ?ca4x1x2x7xc12
            refine AllReadyH.cons (o := ⟨none, _, _, _, _, _⟩) rfl (fun K hK => ?ca4x1x2x7xst12) AllReadyH.nil
            (rw [if_pos (by rfl)]; refine wp_kn_store1 KN 23 _ _ rfl g1 3 rfl (.slice a2 n2 c2) rfl rfl _ 25 (by repeat (first | exact Repl.here | apply Repl.there)) (by (try simp only [Array.size_setIfInBounds, putL_size]); first | exact Nat.le_of_ble_eq_true rfl | (simp; omega)) (by kernel_rfl) (by rfl) ?_; clear KN; intro wx KN)
            refine hK.out _ _ ?ca4x1x2x7xk12 (fun hHeld2 => ?ca4x1x2x7xm12)
            case ca4x1x2x7xk12 => exact trivial
            clear hK K hHeld
            have hHeld := hHeld2; clear hHeld2
            (try simp only [Act.put, List.setIfInBounds_toArray, List.set_cons_zero, List.set_cons_succ])
            refine wpAnyH_take (i := 13) (oi := ⟨some 29, _, _, _, _, _⟩) (v := ?ca4x1x2x7xv13) rfl (by kernel_rfl) (by kernel_rfl) (by kernel_rfl) (fun _ _ _ h => h) (Or.inl ⟨by rfl, ?ca4x1x2x7xhy13⟩) hHeld ?ca4x1x2x7xr13
            case ca4x1x2x7xhy13 => (intro w hSw; (try dsimp only at hSw); go_simp; (try with_reducible rfl))
            (try simp only [Act.put, List.setIfInBounds_toArray, List.set_cons_zero, List.set_cons_succ])
            refine wpAnyH_ready (rs := [14]) (by kernel_rfl) (by simp) ?ca4x1x2x7xc14
            refine AllReadyH.cons (o := ⟨none, _, _, _, _, _⟩) rfl (fun K hK => ?ca4x1x2x7xst14) AllReadyH.nil
            (rw [if_pos (by rfl)]; refine wp_kn_store1 KN 22 _ _ rfl g1 4 rfl (.slice a3 n3 c3) rfl rfl _ 25 (by repeat (first | exact Repl.here | apply Repl.there)) (by (try simp only [Array.size_setIfInBounds, putL_size]); first | exact Nat.le_of_ble_eq_true rfl | (simp; omega)) (by kernel_rfl) (by rfl) ?_; clear KN; intro wx KN)
            refine hK.out _ _ ?ca4x1x2x7xk14 (fun hHeld2 => ?ca4x1x2x7xm14)
            case ca4x1x2x7xk14 => exact trivial
            clear hK K hHeld
            have hHeld := hHeld2; clear hHeld2
            (try simp only [Act.put, List.setIfInBounds_toArray, List.set_cons_zero, List.set_cons_succ])
            refine wpAnyH_done (by kernel_rfl) ?ca4x1x2x7xdone _
            replace KN := KN.as_ g1 #[.slice a1 n1 c1, .int .i64 (sm : Int), .int .i64 sl, .slice a2 n2 c2, .slice a3 n3 c3] (by repeat (first | exact Repl.here | apply Repl.there)) (by kernel_rfl)
            go_wp2_with fail
            go_meet
            case rel =>
            have h1 := HN1.out
            have h2 := HN2.out
            have h3 := HN3.out
            rw [List.length_map] at h1 h3
            unfold regRows at h2
            rw [List.length_map] at h2
            subst h1
            subst h2
            subst h3
            exact ⟨a1, a2, a3, c1, c2, c3, ol1, ol2, ol3, HO1.out, HO2.out, HO3.out, KN⟩
        case ca4x1xst7 =>
          (rw [if_pos (by rfl)]; refine wp_kn_load1 KN 22 _ rfl g1 4 rfl _ 25 (by repeat (first | exact Has.here | refine Has.there ?_)) (.slice oa no oc) rfl _ Tryz.underlying22 rfl ?_)
          refine hK.out _ _ ?ca4x1x7xk7 (fun hHeld2 => ?ca4x1x7xm7)
          case ca4x1x7xk7 => exact trivial
          clear hK K hHeld
          have hHeld := hHeld2; clear hHeld2
          (try simp only [Act.put, List.setIfInBounds_toArray, List.set_cons_zero, List.set_cons_succ])
          refine wpAnyH_ready (rs := [2]) (by kernel_rfl) (by simp) ?ca4x1x7xc2
          refine AllReadyH.cons (o := ⟨some 20, _, _, _, _, _⟩) rfl (fun K hK => ?ca4x1x7xst2) AllReadyH.nil
          go_simp
          (refine (Clone_any (HCW.out.below KN.toBelow) (by rw [← HNW.out]; omega)).mono ?_; rintro e wx ⟨v1, ol1, rfl, O1, K2, _⟩; obtain ⟨a1, n1, c1, rfl, hn1⟩ := O1.form4; have HO1 := Lib.hid O1; have HN1 := Lib.hid hn1; replace KN := (KN.call0 K2).perm List.perm_append_comm; simp only [List.cons_append, List.nil_append, List.append_assoc] at KN; clear K2 O1 hn1)
          refine hK.out _ _ ?ca4x1x7xk2 (fun hHeld2 => ?ca4x1x7xm2)
          case ca4x1x7xk2 => exact trivial
          clear hK K hHeld
          have hHeld := hHeld2; clear hHeld2
          (try simp only [Act.put, List.setIfInBounds_toArray, List.set_cons_zero, List.set_cons_succ])
          refine wpAnyH_take (i := 9) (oi := ⟨some 27, _, _, _, _, _⟩) (v := ?ca4x1x7xv9) rfl (by kernel_rfl) (by kernel_rfl) (by kernel_rfl) (fun _ _ _ h => h) (Or.inl ⟨by rfl, ?ca4x1x7xhy9⟩) hHeld ?ca4x1x7xr9
          case ca4x1x7xhy9 => (intro w hSw; (try dsimp only at hSw); go_simp; (try with_reducible rfl))
          (try simp only [Act.put, List.setIfInBounds_toArray, List.set_cons_zero, List.set_cons_succ])
          refine wpAnyH_ready (rs := [5]) (by kernel_rfl) (by simp) ?ca4x1x7xc5
          refine AllReadyH.cons (o := ⟨some 23, _, _, _, _, _⟩) rfl (fun K hK => ?ca4x1x7xst5) AllReadyH.nil
          go_simp
          (refine (CloneR_any (HCR.out.below KN.toBelow) (by rw [← HNR.out]; omega)).mono ?_; rintro e wx ⟨v2, ol2, rfl, O1, K2⟩; obtain ⟨a2, n2, c2, rfl, hn2⟩ := O1.form4; have HO2 := Lib.hid O1; have HN2 := Lib.hid hn2; replace KN := (KN.call0 K2).perm List.perm_append_comm; simp only [List.cons_append, List.nil_append, List.append_assoc] at KN; clear K2 O1 hn2)
          refine hK.out _ _ ?ca4x1x7xk5 (fun hHeld2 => ?ca4x1x7xm5)
          case ca4x1x7xk5 => exact trivial
          clear hK K hHeld
          have hHeld := hHeld2; clear hHeld2
          (try simp only [Act.put, List.setIfInBounds_toArray, List.set_cons_zero, List.set_cons_succ])
          refine wpAnyH_ready (rs := [8]) (by kernel_rfl) (by simp) ?ca4x1x7xc8
          refine AllReadyH.cons (o := ⟨some 26, _, _, _, _, _⟩) rfl (fun K hK => ?ca4x1x7xst8) AllReadyH.nil
          go_simp
          (refine (Clone_any (HCO.out.below KN.toBelow) (by rw [← HNO.out]; omega)).mono ?_; rintro e wx ⟨v3, ol3, rfl, O1, K2, _⟩; obtain ⟨a3, n3, c3, rfl, hn3⟩ := O1.form4; have HO3 := Lib.hid O1; have HN3 := Lib.hid hn3; replace KN := (KN.call0 K2).perm List.perm_append_comm; simp only [List.cons_append, List.nil_append, List.append_assoc] at KN; clear K2 O1 hn3)
          refine hK.out _ _ ?ca4x1x7xk8 (fun hHeld2 => ?ca4x1x7xm8)
          case ca4x1x7xk8 => exact trivial
          clear hK K hHeld
          have hHeld := hHeld2; clear hHeld2
          (try simp only [Act.put, List.setIfInBounds_toArray, List.set_cons_zero, List.set_cons_succ])
          refine wpAnyH_ready (rs := [10]) (by kernel_rfl) (by simp) ?ca4x1x7xc10
          refine AllReadyH.cons (o := ⟨none, _, _, _, _, _⟩) rfl (fun K hK => ?ca4x1x7xst10) AllReadyH.nil
          (rw [if_pos (by rfl)]; refine wp_kn_store1 KN 22 _ _ rfl g1 0 rfl (.slice a1 n1 c1) rfl rfl _ 25 (by repeat (first | exact Repl.here | apply Repl.there)) (by (try simp only [Array.size_setIfInBounds, putL_size]); first | exact Nat.le_of_ble_eq_true rfl | (simp; omega)) (by kernel_rfl) (by rfl) ?_; clear KN; intro wx KN)
          refine hK.out _ _ ?ca4x1x7xk10 (fun hHeld2 => ?ca4x1x7xm10)
          case ca4x1x7xk10 => exact trivial
          clear hK K hHeld
          have hHeld := hHeld2; clear hHeld2
          (try simp only [Act.put, List.setIfInBounds_toArray, List.set_cons_zero, List.set_cons_succ])
          refine wpAnyH_take (i := 11) (oi := ⟨some 28, _, _, _, _, _⟩) (v := ?ca4x1x7xv11) rfl (by kernel_rfl) (by kernel_rfl) (by kernel_rfl) (fun _ _ _ h => h) (Or.inl ⟨by rfl, ?ca4x1x7xhy11⟩) hHeld ?ca4x1x7xr11
          case ca4x1x7xhy11 => (intro w hSw; (try dsimp only at hSw); go_simp; (try with_reducible rfl))
          (try simp only [Act.put, List.setIfInBounds_toArray, List.set_cons_zero, List.set_cons_succ])
          refine wpAnyH_ready (rs := [12]) (by kernel_rfl) (by simp) ?ca4x1x7xc12
          refine AllReadyH.cons (o := ⟨none, _, _, _, _, _⟩) rfl (fun K hK => ?ca4x1x7xst12) AllReadyH.nil
          (rw [if_pos (by rfl)]; refine wp_kn_store1 KN 23 _ _ rfl g1 3 rfl (.slice a2 n2 c2) rfl rfl _ 25 (by repeat (first | exact Repl.here | apply Repl.there)) (by (try simp only [Array.size_setIfInBounds, putL_size]); first | exact Nat.le_of_ble_eq_true rfl | (simp; omega)) (by kernel_rfl) (by rfl) ?_; clear KN; intro wx KN)
          refine hK.out _ _ ?ca4x1x7xk12 (fun hHeld2 => ?ca4x1x7xm12)
          case ca4x1x7xk12 => exact trivial
          clear hK K hHeld
          have hHeld := hHeld2; clear hHeld2
          (try simp only [Act.put, List.setIfInBounds_toArray, List.set_cons_zero, List.set_cons_succ])
          refine wpAnyH_take (i := 13) (oi := ⟨some 29, _, _, _, _, _⟩) (v := ?ca4x1x7xv13) rfl (by kernel_rfl) (by kernel_rfl) (by kernel_rfl) (fun _ _ _ h => h) (Or.inl ⟨by rfl, ?ca4x1x7xhy13⟩) hHeld ?ca4x1x7xr13
          case ca4x1x7xhy13 => (intro w hSw; (try dsimp only at hSw); go_simp; (try with_reducible rfl))
          (try simp only [Act.put, List.setIfInBounds_toArray, List.set_cons_zero, List.set_cons_succ])
          refine wpAnyH_ready (rs := [14]) (by kernel_rfl) (by simp) ?ca4x1x7xc14
          refine AllReadyH.cons (o := ⟨none, _, _, _, _, _⟩) rfl (fun K hK => ?ca4x1x7xst14) AllReadyH.nil
          (rw [if_pos (by rfl)]; refine wp_kn_store1 KN 22 _ _ rfl g1 4 rfl (.slice a3 n3 c3) rfl rfl _ 25 (by repeat (first | exact Repl.here | apply Repl.there)) (by (try simp only [Array.size_setIfInBounds, putL_size]); first | exact Nat.le_of_ble_eq_true rfl | (simp; omega)) (by kernel_rfl) (by rfl) ?_; clear KN; intro wx KN)
          refine hK.out _ _ ?ca4x1x7xk14 (fun hHeld2 => ?ca4x1x7xm14)
          case ca4x1x7xk14 => exact trivial
          clear hK K hHeld
          have hHeld := hHeld2; clear hHeld2
          (try simp only [Act.put, List.setIfInBounds_toArray, List.set_cons_zero, List.set_cons_succ])
          refine wpAnyH_done (by kernel_rfl) ?ca4x1x7xdone _
          replace KN := KN.as_ g1 #[.slice a1 n1 c1, .int .i64 (sm : Int), .int .i64 sl, .slice a2 n2 c2, .slice a3 n3 c3] (by repeat (first | exact Repl.here | apply Repl.there)) (by kernel_rfl)
          go_wp2_with fail
          go_meet
          case rel =>
          have h1 := HN1.out
          have h2 := HN2.out
          have h3 := HN3.out
          rw [List.length_map] at h1 h3
          unfold regRows at h2
          rw [List.length_map] at h2
          subst h1
          subst h2
          subst h3
          exact ⟨a1, a2, a3, c1, c2, c3, ol1, ol2, ol3, HO1.out, HO2.out, HO3.out, KN⟩
      case ca4xst7 =>
        (rw [if_pos (by rfl)]; refine wp_kn_load1 KN 22 _ rfl g1 4 rfl _ 25 (by repeat (first | exact Has.here | refine Has.there ?_)) (.slice oa no oc) rfl _ Tryz.underlying22 rfl ?_)
        refine hK.out _ _ ?ca4x7xk7 (fun hHeld2 => ?ca4x7xm7)
        case ca4x7xk7 => exact trivial
        clear hK K hHeld
        have hHeld := hHeld2; clear hHeld2
        (try simp only [Act.put, List.setIfInBounds_toArray, List.set_cons_zero, List.set_cons_succ])
        refine wpAnyH_ready (rs := [1]) (by kernel_rfl) (by simp) ?ca4x7xc1
        refine AllReadyH.cons (o := ⟨some 19, _, _, _, _, _⟩) rfl (fun K hK => ?ca4x7xst1) AllReadyH.nil
        (rw [if_pos (by rfl)]; refine wp_kn_load1 KN 22 _ rfl g1 0 rfl _ 25 (by repeat (first | exact Has.here | refine Has.there ?_)) (.slice wa nw wc) rfl _ Tryz.underlying22 rfl ?_)
        refine hK.out _ _ ?ca4x7xk1 (fun hHeld2 => ?ca4x7xm1)
        case ca4x7xk1 => exact trivial
        clear hK K hHeld
        have hHeld := hHeld2; clear hHeld2
        (try simp only [Act.put, List.setIfInBounds_toArray, List.set_cons_zero, List.set_cons_succ])
        refine wpAnyH_ready (rs := [2]) (by kernel_rfl) (by simp) ?ca4x7xc2
        refine AllReadyH.cons (o := ⟨some 20, _, _, _, _, _⟩) rfl (fun K hK => ?ca4x7xst2) AllReadyH.nil
        go_simp
        (refine (Clone_any (HCW.out.below KN.toBelow) (by rw [← HNW.out]; omega)).mono ?_; rintro e wx ⟨v1, ol1, rfl, O1, K2, _⟩; obtain ⟨a1, n1, c1, rfl, hn1⟩ := O1.form4; have HO1 := Lib.hid O1; have HN1 := Lib.hid hn1; replace KN := (KN.call0 K2).perm List.perm_append_comm; simp only [List.cons_append, List.nil_append, List.append_assoc] at KN; clear K2 O1 hn1)
        refine hK.out _ _ ?ca4x7xk2 (fun hHeld2 => ?ca4x7xm2)
        case ca4x7xk2 => exact trivial
        clear hK K hHeld
        have hHeld := hHeld2; clear hHeld2
        (try simp only [Act.put, List.setIfInBounds_toArray, List.set_cons_zero, List.set_cons_succ])
        refine wpAnyH_take (i := 9) (oi := ⟨some 27, _, _, _, _, _⟩) (v := ?ca4x7xv9) rfl (by kernel_rfl) (by kernel_rfl) (by kernel_rfl) (fun _ _ _ h => h) (Or.inl ⟨by rfl, ?ca4x7xhy9⟩) hHeld ?ca4x7xr9
        case ca4x7xhy9 => (intro w hSw; (try dsimp only at hSw); go_simp; (try with_reducible rfl))
        (try simp only [Act.put, List.setIfInBounds_toArray, List.set_cons_zero, List.set_cons_succ])
        refine wpAnyH_ready (rs := [5]) (by kernel_rfl) (by simp) ?ca4x7xc5
        refine AllReadyH.cons (o := ⟨some 23, _, _, _, _, _⟩) rfl (fun K hK => ?ca4x7xst5) AllReadyH.nil
        go_simp
        (refine (CloneR_any (HCR.out.below KN.toBelow) (by rw [← HNR.out]; omega)).mono ?_; rintro e wx ⟨v2, ol2, rfl, O1, K2⟩; obtain ⟨a2, n2, c2, rfl, hn2⟩ := O1.form4; have HO2 := Lib.hid O1; have HN2 := Lib.hid hn2; replace KN := (KN.call0 K2).perm List.perm_append_comm; simp only [List.cons_append, List.nil_append, List.append_assoc] at KN; clear K2 O1 hn2)
        refine hK.out _ _ ?ca4x7xk5 (fun hHeld2 => ?ca4x7xm5)
        case ca4x7xk5 => exact trivial
        clear hK K hHeld
        have hHeld := hHeld2; clear hHeld2
        (try simp only [Act.put, List.setIfInBounds_toArray, List.set_cons_zero, List.set_cons_succ])
        refine wpAnyH_ready (rs := [8]) (by kernel_rfl) (by simp) ?ca4x7xc8
        refine AllReadyH.cons (o := ⟨some 26, _, _, _, _, _⟩) rfl (fun K hK => ?ca4x7xst8) AllReadyH.nil
        go_simp
        (refine (Clone_any (HCO.out.below KN.toBelow) (by rw [← HNO.out]; omega)).mono ?_; rintro e wx ⟨v3, ol3, rfl, O1, K2, _⟩; obtain ⟨a3, n3, c3, rfl, hn3⟩ := O1.form4; have HO3 := Lib.hid O1; have HN3 := Lib.hid hn3; replace KN := (KN.call0 K2).perm List.perm_append_comm; simp only [List.cons_append, List.nil_append, List.append_assoc] at KN; clear K2 O1 hn3)
        refine hK.out _ _ ?ca4x7xk8 (fun hHeld2 => ?ca4x7xm8)
        case ca4x7xk8 => exact trivial
        clear hK K hHeld
        have hHeld := hHeld2; clear hHeld2
        (try simp only [Act.put, List.setIfInBounds_toArray, List.set_cons_zero, List.set_cons_succ])
        refine wpAnyH_ready (rs := [10]) (by kernel_rfl) (by simp) ?ca4x7xc10
        refine AllReadyH.cons (o := ⟨none, _, _, _, _, _⟩) rfl (fun K hK => ?ca4x7xst10) AllReadyH.nil
        (rw [if_pos (by rfl)]; refine wp_kn_store1 KN 22 _ _ rfl g1 0 rfl (.slice a1 n1 c1) rfl rfl _ 25 (by repeat (first | exact Repl.here | apply Repl.there)) (by (try simp only [Array.size_setIfInBounds, putL_size]); first | exact Nat.le_of_ble_eq_true rfl | (simp; omega)) (by kernel_rfl) (by rfl) ?_; clear KN; intro wx KN)
        refine hK.out _ _ ?ca4x7xk10 (fun hHeld2 => ?ca4x7xm10)
        case ca4x7xk10 => exact trivial
        clear hK K hHeld
        have hHeld := hHeld2; clear hHeld2
        (try simp only [Act.put, List.setIfInBounds_toArray, List.set_cons_zero, List.set_cons_succ])
        refine wpAnyH_take (i := 11) (oi := ⟨some 28, _, _, _, _, _⟩) (v := ?ca4x7xv11) rfl (by kernel_rfl) (by kernel_rfl) (by kernel_rfl) (fun _ _ _ h => h) (Or.inl ⟨by rfl, ?ca4x7xhy11⟩) hHeld ?ca4x7xr11
        case ca4x7xhy11 => (intro w hSw; (try dsimp only at hSw); go_simp; (try with_reducible rfl))
        (try simp only [Act.put, List.setIfInBounds_toArray, List.set_cons_zero, List.set_cons_succ])
        refine wpAnyH_ready (rs := [12]) (by kernel_rfl) (by simp) ?ca4x7xc12
        refine AllReadyH.cons (o := ⟨none, _, _, _, _, _⟩) rfl (fun K hK => ?ca4x7xst12) AllReadyH.nil
        (rw [if_pos (by rfl)]; refine wp_kn_store1 KN 23 _ _ rfl g1 3 rfl (.slice a2 n2 c2) rfl rfl _ 25 (by repeat (first | exact Repl.here | apply Repl.there)) (by (try simp only [Array.size_setIfInBounds, putL_size]); first | exact Nat.le_of_ble_eq_true rfl | (simp; omega)) (by kernel_rfl) (by rfl) ?_; clear KN; intro wx KN)
        refine hK.out _ _ ?ca4x7xk12 (fun hHeld2 => ?ca4x7xm12)
        case ca4x7xk12 => exact trivial
        clear hK K hHeld
        have hHeld := hHeld2; clear hHeld2
        (try simp only [Act.put, List.setIfInBounds_toArray, List.set_cons_zero, List.set_cons_succ])
        refine wpAnyH_take (i := 13) (oi := ⟨some 29, _, _, _, _, _⟩) (v := ?ca4x7xv13) rfl (by kernel_rfl) (by kernel_rfl) (by kernel_rfl) (fun _ _ _ h => h) (Or.inl ⟨by rfl, ?ca4x7xhy13⟩) hHeld ?ca4x7xr13
        case ca4x7xhy13 => (intro w hSw; (try dsimp only at hSw); go_simp; (try with_reducible rfl))
        (try simp only [Act.put, List.setIfInBounds_toArray, List.set_cons_zero, List.set_cons_succ])
        refine wpAnyH_ready (rs := [14]) (by kernel_rfl) (by simp) ?ca4x7xc14
        refine AllReadyH.cons (o := ⟨none, _, _, _, _, _⟩) rfl (fun K hK => ?ca4x7xst14) AllReadyH.nil
        (rw [if_pos (by rfl)]; refine wp_kn_store1 KN 22 _ _ rfl g1 4 rfl (.slice a3 n3 c3) rfl rfl _ 25 (by repeat (first | exact Repl.here | apply Repl.there)) (by (try simp only [Array.size_setIfInBounds, putL_size]); first | exact Nat.le_of_ble_eq_true rfl | (simp; omega)) (by kernel_rfl) (by rfl) ?_; clear KN; intro wx KN)
        refine hK.out _ _ ?ca4x7xk14 (fun hHeld2 => ?ca4x7xm14)
        case ca4x7xk14 => exact trivial
        clear hK K hHeld
        have hHeld := hHeld2; clear hHeld2
        (try simp only [Act.put, List.setIfInBounds_toArray, List.set_cons_zero, List.set_cons_succ])
        refine wpAnyH_done (by kernel_rfl) ?ca4x7xdone _
        replace KN := KN.as_ g1 #[.slice a1 n1 c1, .int .i64 (sm : Int), .int .i64 sl, .slice a2 n2 c2, .slice a3 n3 c3] (by repeat (first | exact Repl.here | apply Repl.there)) (by kernel_rfl)
        go_wp2_with fail
        go_meet
        case rel =>
        have h1 := HN1.out
        have h2 := HN2.out
        have h3 := HN3.out
        rw [List.length_map] at h1 h3
        unfold regRows at h2
        rw [List.length_map] at h2
        subst h1
        subst h2
        subst h3
        exact ⟨a1, a2, a3, c1, c2, c3, ol1, ol2, ol3, HO1.out, HO2.out, HO3.out, KN⟩
    case cast7 =>
      (rw [if_pos (by rfl)]; refine wp_kn_load1 KN 22 _ rfl g1 4 rfl _ 25 (by repeat (first | exact Has.here | refine Has.there ?_)) (.slice oa no oc) rfl _ Tryz.underlying22 rfl ?_)
      refine hK.out _ _ ?ca7xk7 (fun hHeld2 => ?ca7xm7)
      case ca7xk7 => exact trivial
      clear hK K hHeld
      have hHeld := hHeld2; clear hHeld2
      (try simp only [Act.put, List.setIfInBounds_toArray, List.set_cons_zero, List.set_cons_succ])
      refine wpAnyH_ready (rs := [1, 4]) (by kernel_rfl) (by simp) ?ca7xc1_4
      refine (AllReadyH.cons (o := ⟨some 19, _, _, _, _, _⟩) rfl (fun K hK => ?ca7xst1) (AllReadyH.cons (o := ⟨some 22, _, _, _, _, _⟩) rfl (fun K hK => ?ca7xst4) AllReadyH.nil))
      case ca7xst1 =>
        (rw [if_pos (by rfl)]; refine wp_kn_load1 KN 22 _ rfl g1 0 rfl _ 25 (by repeat (first | exact Has.here | refine Has.there ?_)) (.slice wa nw wc) rfl _ Tryz.underlying22 rfl ?_)
        refine hK.out _ _ ?ca7x1xk1 (fun hHeld2 => ?ca7x1xm1)
        case ca7x1xk1 => exact trivial
        clear hK K hHeld
        have hHeld := hHeld2; clear hHeld2
        (try simp only [Act.put, List.setIfInBounds_toArray, List.set_cons_zero, List.set_cons_succ])
        refine wpAnyH_ready (rs := [2, 4]) (by kernel_rfl) (by simp) ?ca7x1xc2_4
        refine (AllReadyH.cons (o := ⟨some 20, _, _, _, _, _⟩) rfl (fun K hK => ?ca7x1xst2) (AllReadyH.cons (o := ⟨some 22, _, _, _, _, _⟩) rfl (fun K hK => ?ca7x1xst4) AllReadyH.nil))
        case ca7x1xst2 =>
          go_simp
          (refine (Clone_any (HCW.out.below KN.toBelow) (by rw [← HNW.out]; omega)).mono ?_; rintro e wx ⟨v1, ol1, rfl, O1, K2, _⟩; obtain ⟨a1, n1, c1, rfl, hn1⟩ := O1.form4; have HO1 := Lib.hid O1; have HN1 := Lib.hid hn1; replace KN := (KN.call0 K2).perm List.perm_append_comm; simp only [List.cons_append, List.nil_append, List.append_assoc] at KN; clear K2 O1 hn1)
          refine hK.out _ _ ?ca7x1x2xk2 (fun hHeld2 => ?ca7x1x2xm2)
          case ca7x1x2xk2 => exact trivial
          clear hK K hHeld
          have hHeld := hHeld2; clear hHeld2
          (try simp only [Act.put, List.setIfInBounds_toArray, List.set_cons_zero, List.set_cons_succ])
          refine wpAnyH_ready (rs := [4]) (by kernel_rfl) (by simp) ?ca7x1x2xc4
          refine AllReadyH.cons (o := ⟨some 22, _, _, _, _, _⟩) rfl (fun K hK => ?ca7x1x2xst4) AllReadyH.nil
          (rw [if_pos (by rfl)]; refine wp_kn_load1 KN 23 _ rfl g1 3 rfl _ 25 (by repeat (first | exact Has.here | refine Has.there ?_)) (.slice ra no rc) rfl _ Tryz.underlying23 rfl ?_)
          refine hK.out _ _ ?ca7x1x2xk4 (fun hHeld2 => ?ca7x1x2xm4)
          case ca7x1x2xk4 => exact trivial
          clear hK K hHeld
          have hHeld := hHeld2; clear hHeld2
          (try simp only [Act.put, List.setIfInBounds_toArray, List.set_cons_zero, List.set_cons_succ])
          refine wpAnyH_take (i := 9) (oi := ⟨some 27, _, _, _, _, _⟩) (v := ?ca7x1x2xv9) rfl (by kernel_rfl) (by kernel_rfl) (by kernel_rfl) (fun _ _ _ h => h) (Or.inl ⟨by rfl, ?ca7x1x2xhy9⟩) hHeld ?ca7x1x2xr9
          case ca7x1x2xhy9 => (intro w hSw; (try dsimp only at hSw); go_simp; (try with_reducible rfl))
          (try simp only [Act.put, List.setIfInBounds_toArray, List.set_cons_zero, List.set_cons_succ])
          refine wpAnyH_ready (rs := [5]) (by kernel_rfl) (by simp) ?ca7x1x2xc5
          refine AllReadyH.cons (o := ⟨some 23, _, _, _, _, _⟩) rfl (fun K hK => ?ca7x1x2xst5) AllReadyH.nil
          go_simp
          (refine (CloneR_any (HCR.out.below KN.toBelow) (by rw [← HNR.out]; omega)).mono ?_; rintro e wx ⟨v2, ol2, rfl, O1, K2⟩; obtain ⟨a2, n2, c2, rfl, hn2⟩ := O1.form4; have HO2 := Lib.hid O1; have HN2 := Lib.hid hn2; replace KN := (KN.call0 K2).perm List.perm_append_comm; simp only [List.cons_append, List.nil_append, List.append_assoc] at KN; clear K2 O1 hn2)
          refine hK.out _ _ ?ca7x1x2xk5 (fun hHeld2 => ?ca7x1x2xm5)
          case ca7x1x2xk5 => exact trivial
          clear hK K hHeld
          have hHeld := hHeld2; clear hHeld2
          (try simp only [Act.put, List.setIfInBounds_toArray, List.set_cons_zero, List.set_cons_succ])
          refine wpAnyH_ready (rs := [8]) (by kernel_rfl) (by simp) ?ca7x1x2xc8
          refine AllReadyH.cons (o := ⟨some 26, _, _, _, _, _⟩) rfl (fun K hK => ?ca7x1x2xst8) AllReadyH.nil
          go_simp
          (refine (Clone_any (HCO.out.below KN.toBelow) (by rw [← HNO.out]; omega)).mono ?_; rintro e wx ⟨v3, ol3, rfl, O1, K2, _⟩; obtain ⟨a3, n3, c3, rfl, hn3⟩ := O1.form4; have HO3 := Lib.hid O1; have HN3 := Lib.hid hn3; replace KN := (KN.call0 K2).perm List.perm_append_comm; simp only [List.cons_append, List.nil_append, List.append_assoc] at KN; clear K2 O1 hn3)
          refine hK.out _ _ ?ca7x1x2xk8 (fun hHeld2 => ?ca7x1x2xm8)
          case ca7x1x2xk8 => exact trivial
          clear hK K hHeld
          have hHeld := hHeld2; clear hHeld2
          (try simp only [Act.put, List.setIfInBounds_toArray, List.set_cons_zero, List.set_cons_succ])
          refine wpAnyH_ready (rs := [10]) (by kernel_rfl) (by simp) ?ca7x1x2xc10
          refine AllReadyH.cons (o := ⟨none, _, _, _, _, _⟩) rfl (fun K hK => ?ca7x1x2xst10) AllReadyH.nil
          (rw [if_pos (by rfl)]; refine wp_kn_store1 KN 22 _ _ rfl g1 0 rfl (.slice a1 n1 c1) rfl rfl _ 25 (by repeat (first | exact Repl.here | apply Repl.there)) (by (try simp only [Array.size_setIfInBounds, putL_size]); first | exact Nat.le_of_ble_eq_true rfl | (simp; omega)) (by kernel_rfl) (by rfl) ?_; clear KN; intro wx KN)
          refine hK.out _ _ ?ca7x1x2xk10 (fun hHeld2 => ?ca7x1x2xm10)
          case ca7x1x2xk10 => exact trivial
          clear hK K hHeld
          have hHeld := hHeld2; clear hHeld2
          (try simp only [Act.put, List.setIfInBounds_toArray, List.set_cons_zero, List.set_cons_succ])
          refine wpAnyH_take (i := 11) (oi := ⟨some 28, _, _, _, _, _⟩) (v := ?ca7x1x2xv11) rfl (by kernel_rfl) (by kernel_rfl) (by kernel_rfl) (fun _ _ _ h => h) (Or.inl ⟨by rfl, ?ca7x1x2xhy11⟩) hHeld ?ca7x1x2xr11
          case ca7x1x2xhy11 => (intro w hSw; (try dsimp only at hSw); go_simp; (try with_reducible rfl))
          (try simp only [Act.put, List.setIfInBounds_toArray, List.set_cons_zero, List.set_cons_succ])
          refine wpAnyH_ready (rs := [12]) (by kernel_rfl) (by simp) ?ca7x1x2xc12
          refine AllReadyH.cons (o := ⟨none, _, _, _, _, _⟩) rfl (fun K hK => ?ca7x1x2xst12) AllReadyH.nil
          (rw [if_pos (by rfl)]; refine wp_kn_store1 KN 23 _ _ rfl g1 3 rfl (.slice a2 n2 c2) rfl rfl _ 25 (by repeat (first | exact Repl.here | apply Repl.there)) (by (try simp only [Array.size_setIfInBounds, putL_size]); first | exact Nat.le_of_ble_eq_true rfl | (simp; omega)) (by kernel_rfl) (by rfl) ?_; clear KN; intro wx KN)
          refine hK.out _ _ ?ca7x1x2xk12 (fun hHeld2 => ?ca7x1x2xm12)
          case ca7x1x2xk12 => exact trivial
          clear hK K hHeld
          have hHeld := hHeld2; clear hHeld2
          (try simp only [Act.put, List.setIfInBounds_toArray, List.set_cons_zero, List.set_cons_succ])
          refine wpAnyH_take (i := 13) (oi := ⟨some 29, _, _, _, _, _⟩) (v := ?ca7x1x2xv13) rfl (by kernel_rfl) (by kernel_rfl) (by kernel_rfl) (fun _ _ _ h => h) (Or.inl ⟨by rfl, ?ca7x1x2xhy13⟩) hHeld ?ca7x1x2xr13
          case ca7x1x2xhy13 => (intro w hSw; (try dsimp only at hSw); go_simp; (try with_reducible rfl))
          (try simp only [Act.put, List.setIfInBounds_toArray, List.set_cons_zero, List.set_cons_succ])
          refine wpAnyH_ready (rs := [14]) (by kernel_rfl) (by simp) ?ca7x1x2xc14
          refine AllReadyH.cons (o := ⟨none, _, _, _, _, _⟩) rfl (fun K hK => ?ca7x1x2xst14) AllReadyH.nil
          (rw [if_pos (by rfl)]; refine wp_kn_store1 KN 22 _ _ rfl g1 4 rfl (.slice a3 n3 c3) rfl rfl _ 25 (by repeat (first | exact Repl.here | apply Repl.there)) (by (try simp only [Array.size_setIfInBounds, putL_size]); first | exact Nat.le_of_ble_eq_true rfl | (simp; omega)) (by kernel_rfl) (by rfl) ?_; clear KN; intro wx KN)
          refine hK.out _ _ ?ca7x1x2xk14 (fun hHeld2 => ?ca7x1x2xm14)
          case ca7x1x2xk14 => exact trivial
          clear hK K hHeld
          have hHeld := hHeld2; clear hHeld2
          (try simp only [Act.put, List.setIfInBounds_toArray, List.set_cons_zero, List.set_cons_succ])
          refine wpAnyH_done (by kernel_rfl) ?ca7x1x2xdone _
          replace KN := KN.as_ g1 #[.slice a1 n1 c1, .int .i64 (sm : Int), .int .i64 sl, .slice a2 n2 c2, .slice a3 n3 c3] (by repeat (first | exact Repl.here | apply Repl.there)) (by kernel_rfl)
          go_wp2_with fail
          go_meet
          case rel =>
          have h1 := HN1.out
          have h2 := HN2.out
          have h3 := HN3.out
          rw [List.length_map] at h1 h3
          unfold regRows at h2
          rw [List.length_map] at h2
          subst h1
          subst h2
          subst h3
          exact ⟨a1, a2, a3, c1, c2, c3, ol1, ol2, ol3, HO1.out, HO2.out, HO3.out, KN⟩
        case ca7x1xst4 =>
          (rw [if_pos (by rfl)]; refine wp_kn_load1 KN 23 _ rfl g1 3 rfl _ 25 (by repeat (first | exact Has.here | refine Has.there ?_)) (.slice ra no rc) rfl _ Tryz.underlying23 rfl ?_)
          refine hK.out _ _ ?ca7x1x4xk4 (fun hHeld2 => ?ca7x1x4xm4)
          case ca7x1x4xk4 => exact trivial
          clear hK K hHeld
          have hHeld := hHeld2; clear hHeld2
          (try simp only [Act.put, List.setIfInBounds_toArray, List.set_cons_zero, List.set_cons_succ])
          refine wpAnyH_ready (rs := [2]) (by kernel_rfl) (by simp) ?ca7x1x4xc2
          refine AllReadyH.cons (o := ⟨some 20, _, _, _, _, _⟩) rfl (fun K hK => ?ca7x1x4xst2) AllReadyH.nil
          go_simp
          (refine (Clone_any (HCW.out.below KN.toBelow) (by rw [← HNW.out]; omega)).mono ?_; rintro e wx ⟨v1, ol1, rfl, O1, K2, _⟩; obtain ⟨a1, n1, c1, rfl, hn1⟩ := O1.form4; have HO1 := Lib.hid O1; have HN1 := Lib.hid hn1; replace KN := (KN.call0 K2).perm List.perm_append_comm; simp only [List.cons_append, List.nil_append, List.append_assoc] at KN; clear K2 O1 hn1)
          refine hK.out _ _ ?ca7x1x4xk2 (fun hHeld2 => ?ca7x1x4xm2)
          case ca7x1x4xk2 => exact trivial
          clear hK K hHeld
          have hHeld := hHeld2; clear hHeld2
          (try simp only [Act.put, List.setIfInBounds_toArray, List.set_cons_zero, List.set_cons_succ])
          refine wpAnyH_take (i := 9) (oi := ⟨some 27, _, _, _, _, _⟩) (v := ?ca7x1x4xv9) rfl (by kernel_rfl) (by kernel_rfl) (by kernel_rfl) (fun _ _ _ h => h) (Or.inl ⟨by rfl, ?ca7x1x4xhy9⟩) hHeld ?ca7x1x4xr9
          case ca7x1x4xhy9 => (intro w hSw; (try dsimp only at hSw); go_simp; (try with_reducible rfl))
          (try simp only [Act.put, List.setIfInBounds_toArray, List.set_cons_zero, List.set_cons_succ])
          refine wpAnyH_ready (rs := [5]) (by kernel_rfl) (by simp) ?ca7x1x4xc5
          refine AllReadyH.cons (o := ⟨some 23, _, _, _, _, _⟩) rfl (fun K hK => ?ca7x1x4xst5) AllReadyH.nil
          go_simp
          (refine (CloneR_any (HCR.out.below KN.toBelow) (by rw [← HNR.out]; omega)).mono ?_; rintro e wx ⟨v2, ol2, rfl, O1, K2⟩; obtain ⟨a2, n2, c2, rfl, hn2⟩ := O1.form4; have HO2 := Lib.hid O1; have HN2 := Lib.hid hn2; replace KN := (KN.call0 K2).perm List.perm_append_comm; simp only [List.cons_append, List.nil_append, List.append_assoc] at KN; clear K2 O1 hn2)
          refine hK.out _ _ ?ca7x1x4xk5 (fun hHeld2 => ?ca7x1x4xm5)
          case ca7x1x4xk5 => exact trivial
          clear hK K hHeld
          have hHeld := hHeld2; clear hHeld2
          (try simp only [Act.put, List.setIfInBounds_toArray, List.set_cons_zero, List.set_cons_succ])
          refine wpAnyH_ready (rs := [8]) (by kernel_rfl) (by simp) ?ca7x1x4xc8
          refine AllReadyH.cons (o := ⟨some 26, _, _, _, _, _⟩) rfl (fun K hK => ?ca7x1x4xst8) AllReadyH.nil
          go_simp
          (refine (Clone_any (HCO.out.below KN.toBelow) (by rw [← HNO.out]; omega)).mono ?_; rintro e wx ⟨v3, ol3, rfl, O1, K2, _⟩; obtain ⟨a3, n3, c3, rfl, hn3⟩ := O1.form4; have HO3 := Lib.hid O1; have HN3 := Lib.hid hn3; replace KN := (KN.call0 K2).perm List.perm_append_comm; simp only [List.cons_append, List.nil_append, List.append_assoc] at KN; clear K2 O1 hn3)
          refine hK.out _ _ ?ca7x1x4xk8 (fun hHeld2 => ?ca7x1x4xm8)
          case ca7x1x4xk8 => exact trivial
          clear hK K hHeld
          have hHeld := hHeld2; clear hHeld2
          (try simp only [Act.put, List.setIfInBounds_toArray, List.set_cons_zero, List.set_cons_succ])
          refine wpAnyH_ready (rs := [10]) (by kernel_rfl) (by simp) ?ca7x1x4xc10
          refine AllReadyH.cons (o := ⟨none, _, _, _, _, _⟩) rfl (fun K hK => ?ca7x1x4xst10) AllReadyH.nil
          (rw [if_pos (by rfl)]; refine wp_kn_store1 KN 22 _ _ rfl g1 0 rfl (.slice a1 n1 c1) rfl rfl _ 25 (by repeat (first | exact Repl.here | apply Repl.there)) (by (try simp only [Array.size_setIfInBounds, putL_size]); first | exact Nat.le_of_ble_eq_true rfl | (simp; omega)) (by kernel_rfl) (by rfl) ?_; clear KN; intro wx KN)
          refine hK.out _ _ ?ca7x1x4xk10 (fun hHeld2 => ?ca7x1x4xm10)
          case ca7x1x4xk10 => exact trivial
          clear hK K hHeld
          have hHeld := hHeld2; clear hHeld2
          (try simp only [Act.put, List.setIfInBounds_toArray, List.set_cons_zero, List.set_cons_succ])
          refine wpAnyH_take (i := 11) (oi := ⟨some 28, _, _, _, _, _⟩) (v := ?ca7x1x4xv11) rfl (by kernel_rfl) (by kernel_rfl) (by kernel_rfl) (fun _ _ _ h => h) (Or.inl ⟨by rfl, ?ca7x1x4xhy11⟩) hHeld ?ca7x1x4xr11
          case ca7x1x4xhy11 => (intro w hSw; (try dsimp only at hSw); go_simp; (try with_reducible rfl))
          (try simp only [Act.put, List.setIfInBounds_toArray, List.set_cons_zero, List.set_cons_succ])
          refine wpAnyH_ready (rs := [12]) (by kernel_rfl) (by simp) ?ca7x1x4xc12
          refine AllReadyH.cons (o := ⟨none, _, _, _, _, _⟩) rfl (fun K hK => ?ca7x1x4xst12) AllReadyH.nil
          (rw [if_pos (by rfl)]; refine wp_kn_store1 KN 23 _ _ rfl g1 3 rfl (.slice a2 n2 c2) rfl rfl _ 25 (by repeat (first | exact Repl.here | apply Repl.there)) (by (try simp only [Array.size_setIfInBounds, putL_size]); first | exact Nat.le_of_ble_eq_true rfl | (simp; omega)) (by kernel_rfl) (by rfl) ?_; clear KN; intro wx KN)
          refine hK.out _ _ ?ca7x1x4xk12 (fun hHeld2 => ?ca7x1x4xm12)
          case ca7x1x4xk12 => exact trivial
          clear hK K hHeld
          have hHeld := hHeld2; clear hHeld2
          (try simp only [Act.put, List.setIfInBounds_toArray, List.set_cons_zero, List.set_cons_succ])
          refine wpAnyH_take (i := 13) (oi := ⟨some 29, _, _, _, _, _⟩) (v := ?ca7x1x4xv13) rfl (by kernel_rfl) (by kernel_rfl) (by kernel_rfl) (fun _ _ _ h => h) (Or.inl ⟨by rfl, ?ca7x1x4xhy13⟩) hHeld ?ca7x1x4xr13
          case ca7x1x4xhy13 => (intro w hSw; (try dsimp only at hSw); go_simp; (try with_reducible rfl))
          (try simp only [Act.put, List.setIfInBounds_toArray, List.set_cons_zero, List.set_cons_succ])
          refine wpAnyH_ready (rs := [14]) (by kernel_rfl) (by simp) ?ca7x1x4xc14
          refine AllReadyH.cons (o := ⟨none, _, _, _, _, _⟩) rfl (fun K hK => ?ca7x1x4xst14) AllReadyH.nil
          (rw [if_pos (by rfl)]; refine wp_kn_store1 KN 22 _ _ rfl g1 4 rfl (.slice a3 n3 c3) rfl rfl _ 25 (by repeat (first | exact Repl.here | apply Repl.there)) (by (try simp only [Array.size_setIfInBounds, putL_size]); first | exact Nat.le_of_ble_eq_true rfl | (simp; omega)) (by kernel_rfl) (by rfl) ?_; clear KN; intro wx KN)
          refine hK.out _ _ ?ca7x1x4xk14 (fun hHeld2 => ?ca7x1x4xm14)
          case ca7x1x4xk14 => exact trivial
          clear hK K hHeld
          have hHeld := hHeld2; clear hHeld2
          (try simp only [Act.put, List.setIfInBounds_toArray, List.set_cons_zero, List.set_cons_succ])
          refine wpAnyH_done (by kernel_rfl) ?ca7x1x4xdone _
          replace KN := KN.as_ g1 #[.slice a1 n1 c1, .int .i64 (sm : Int), .int .i64 sl, .slice a2 n2 c2, .slice a3 n3 c3] (by repeat (first | exact Repl.here | apply Repl.there)) (by kernel_rfl)
          go_wp2_with fail
          go_meet
          case rel =>
          have h1 := HN1.out
          have h2 := HN2.out
          have h3 := HN3.out
          rw [List.length_map] at h1 h3
          unfold regRows at h2
          rw [List.length_map] at h2
          subst h1
          subst h2
          subst h3
          exact ⟨a1, a2, a3, c1, c2, c3, ol1, ol2, ol3, HO1.out, HO2.out, HO3.out, KN⟩
      case ca7xst4 =>
        (rw [if_pos (by rfl)]; refine wp_kn_load1 KN 23 _ rfl g1 3 rfl _ 25 (by repeat (first | exact Has.here | refine Has.there ?_)) (.slice ra no rc) rfl _ Tryz.underlying23 rfl ?_)
        refine hK.out _ _ ?ca7x4xk4 (fun hHeld2 => ?ca7x4xm4)
        case ca7x4xk4 => exact trivial
        clear hK K hHeld
        have hHeld := hHeld2; clear hHeld2
        (try simp only [Act.put, List.setIfInBounds_toArray, List.set_cons_zero, List.set_cons_succ])
        refine wpAnyH_ready (rs := [1]) (by kernel_rfl) (by simp) ?ca7x4xc1
        refine AllReadyH.cons (o := ⟨some 19, _, _, _, _, _⟩) rfl (fun K hK => ?ca7x4xst1) AllReadyH.nil
        (rw [if_pos (by rfl)]; refine wp_kn_load1 KN 22 _ rfl g1 0 rfl _ 25 (by repeat (first | exact Has.here | refine Has.there ?_)) (.slice wa nw wc) rfl _ Tryz.underlying22 rfl ?_)
        refine hK.out _ _ ?ca7x4xk1 (fun hHeld2 => ?ca7x4xm1)
        case ca7x4xk1 => exact trivial
        clear hK K hHeld
        have hHeld := hHeld2; clear hHeld2
        (try simp only [Act.put, List.setIfInBounds_toArray, List.set_cons_zero, List.set_cons_succ])
        refine wpAnyH_ready (rs := [2]) (by kernel_rfl) (by simp) ?ca7x4xc2
        refine AllReadyH.cons (o := ⟨some 20, _, _, _, _, _⟩) rfl (fun K hK => ?ca7x4xst2) AllReadyH.nil
        go_simp
        (refine (Clone_any (HCW.out.below KN.toBelow) (by rw [← HNW.out]; omega)).mono ?_; rintro e wx ⟨v1, ol1, rfl, O1, K2, _⟩; obtain ⟨a1, n1, c1, rfl, hn1⟩ := O1.form4; have HO1 := Lib.hid O1; have HN1 := Lib.hid hn1; replace KN := (KN.call0 K2).perm List.perm_append_comm; simp only [List.cons_append, List.nil_append, List.append_assoc] at KN; clear K2 O1 hn1)
        refine hK.out _ _ ?ca7x4xk2 (fun hHeld2 => ?ca7x4xm2)
        case ca7x4xk2 => exact trivial
        clear hK K hHeld
        have hHeld := hHeld2; clear hHeld2
        (try simp only [Act.put, List.setIfInBounds_toArray, List.set_cons_zero, List.set_cons_succ])
        refine wpAnyH_take (i := 9) (oi := ⟨some 27, _, _, _, _, _⟩) (v := ?ca7x4xv9) rfl (by kernel_rfl) (by kernel_rfl) (by kernel_rfl) (fun _ _ _ h => h) (Or.inl ⟨by rfl, ?ca7x4xhy9⟩) hHeld ?ca7x4xr9
        case ca7x4xhy9 => (intro w hSw; (try dsimp only at hSw); go_simp; (try with_reducible rfl))
        (try simp only [Act.put, List.setIfInBounds_toArray, List.set_cons_zero, List.set_cons_succ])
        refine wpAnyH_ready (rs := [5]) (by kernel_rfl) (by simp) ?ca7x4xc5
        refine AllReadyH.cons (o := ⟨some 23, _, _, _, _, _⟩) rfl (fun K hK => ?ca7x4xst5) AllReadyH.nil
        go_simp
        (refine (CloneR_any (HCR.out.below KN.toBelow) (by rw [← HNR.out]; omega)).mono ?_; rintro e wx ⟨v2, ol2, rfl, O1, K2⟩; obtain ⟨a2, n2, c2, rfl, hn2⟩ := O1.form4; have HO2 := Lib.hid O1; have HN2 := Lib.hid hn2; replace KN := (KN.call0 K2).perm List.perm_append_comm; simp only [List.cons_append, List.nil_append, List.append_assoc] at KN; clear K2 O1 hn2)
        refine hK.out _ _ ?ca7x4xk5 (fun hHeld2 => ?ca7x4xm5)
        case ca7x4xk5 => exact trivial
        clear hK K hHeld
        have hHeld := hHeld2; clear hHeld2
        (try simp only [Act.put, List.setIfInBounds_toArray, List.set_cons_zero, List.set_cons_succ])
        refine wpAnyH_ready (rs := [8]) (by kernel_rfl) (by simp) ?ca7x4xc8
        refine AllReadyH.cons (o := ⟨some 26, _, _, _, _, _⟩) rfl (fun K hK => ?ca7x4xst8) AllReadyH.nil
        go_simp
        (refine (Clone_any (HCO.out.below KN.toBelow) (by rw [← HNO.out]; omega)).mono ?_; rintro e wx ⟨v3, ol3, rfl, O1, K2, _⟩; obtain ⟨a3, n3, c3, rfl, hn3⟩ := O1.form4; have HO3 := Lib.hid O1; have HN3 := Lib.hid hn3; replace KN := (KN.call0 K2).perm List.perm_append_comm; simp only [List.cons_append, List.nil_append, List.append_assoc] at KN; clear K2 O1 hn3)
        refine hK.out _ _ ?ca7x4xk8 (fun hHeld2 => ?ca7x4xm8)
        case ca7x4xk8 => exact trivial
        clear hK K hHeld
        have hHeld := hHeld2; clear hHeld2
        (try simp only [Act.put, List.setIfInBounds_toArray, List.set_cons_zero, List.set_cons_succ])
        refine wpAnyH_ready (rs := [10]) (by kernel_rfl) (by simp) ?ca7x4xc10
        refine AllReadyH.cons (o := ⟨none, _, _, _, _, _⟩) rfl (fun K hK => ?ca7x4xst10) AllReadyH.nil
        (rw [if_pos (by rfl)]; refine wp_kn_store1 KN 22 _ _ rfl g1 0 rfl (.slice a1 n1 c1) rfl rfl _ 25 (by repeat (first | exact Repl.here | apply Repl.there)) (by (try simp only [Array.size_setIfInBounds, putL_size]); first | exact Nat.le_of_ble_eq_true rfl | (simp; omega)) (by kernel_rfl) (by rfl) ?_; clear KN; intro wx KN)
        refine hK.out _ _ ?ca7x4xk10 (fun hHeld2 => ?ca7x4xm10)
        case ca7x4xk10 => exact trivial
        clear hK K hHeld
        have hHeld := hHeld2; clear hHeld2
        (try simp only [Act.put, List.setIfInBounds_toArray, List.set_cons_zero, List.set_cons_succ])
        refine wpAnyH_take (i := 11) (oi := ⟨some 28, _, _, _, _, _⟩) (v := ?ca7x4xv11) rfl (by kernel_rfl) (by kernel_rfl) (by kernel_rfl) (fun _ _ _ h => h) (Or.inl ⟨by rfl, ?ca7x4xhy11⟩) hHeld ?ca7x4xr11
        case ca7x4xhy11 => (intro w hSw; (try dsimp only at hSw); go_simp; (try with_reducible rfl))
        (try simp only [Act.put, List.setIfInBounds_toArray, List.set_cons_zero, List.set_cons_succ])
        refine wpAnyH_ready (rs := [12]) (by kernel_rfl) (by simp) ?ca7x4xc12
        refine AllReadyH.cons (o := ⟨none, _, _, _, _, _⟩) rfl (fun K hK => ?ca7x4xst12) AllReadyH.nil
        (rw [if_pos (by rfl)]; refine wp_kn_store1 KN 23 _ _ rfl g1 3 rfl (.slice a2 n2 c2) rfl rfl _ 25 (by repeat (first | exact Repl.here | apply Repl.there)) (by (try simp only [Array.size_setIfInBounds, putL_size]); first | exact Nat.le_of_ble_eq_true rfl | (simp; omega)) (by kernel_rfl) (by rfl) ?_; clear KN; intro wx KN)
        refine hK.out _ _ ?ca7x4xk12 (fun hHeld2 => ?ca7x4xm12)
        case ca7x4xk12 => exact trivial
        clear hK K hHeld
        have hHeld := hHeld2; clear hHeld2
        (try simp only [Act.put, List.setIfInBounds_toArray, List.set_cons_zero, List.set_cons_succ])
        refine wpAnyH_take (i := 13) (oi := ⟨some 29, _, _, _, _, _⟩) (v := ?ca7x4xv13) rfl (by kernel_rfl) (by kernel_rfl) (by kernel_rfl) (fun _ _ _ h => h) (Or.inl ⟨by rfl, ?ca7x4xhy13⟩) hHeld ?ca7x4xr13
        case ca7x4xhy13 => (intro w hSw; (try dsimp only at hSw); go_simp; (try with_reducible rfl))
        (try simp only [Act.put, List.setIfInBounds_toArray, List.set_cons_zero, List.set_cons_succ])
        refine wpAnyH_ready (rs := [14]) (by kernel_rfl) (by simp) ?ca7x4xc14
        refine AllReadyH.cons (o := ⟨none, _, _, _, _, _⟩) rfl (fun K hK => ?ca7x4xst14) AllReadyH.nil
        (rw [if_pos (by rfl)]; refine wp_kn_store1 KN 22 _ _ rfl g1 4 rfl (.slice a3 n3 c3) rfl rfl _ 25 (by repeat (first | exact Repl.here | apply Repl.there)) (by (try simp only [Array.size_setIfInBounds, putL_size]); first | exact Nat.le_of_ble_eq_true rfl | (simp; omega)) (by kernel_rfl) (by rfl) ?_; clear KN; intro wx KN)
        refine hK.out _ _ ?ca7x4xk14 (fun hHeld2 => ?ca7x4xm14)
        case ca7x4xk14 => exact trivial
        clear hK K hHeld
        have hHeld := hHeld2; clear hHeld2
        (try simp only [Act.put, List.setIfInBounds_toArray, List.set_cons_zero, List.set_cons_succ])
        refine wpAnyH_done (by kernel_rfl) ?ca7x4xdone _
        replace KN := KN.as_ g1 #[.slice a1 n1 c1, .int .i64 (sm : Int), .int .i64 sl, .slice a2 n2 c2, .slice a3 n3 c3] (by repeat (first | exact Repl.here | apply Repl.there)) (by kernel_rfl)
        go_wp2_with fail
        go_meet
        case rel =>
        have h1 := HN1.out
        have h2 := HN2.out
        have h3 := HN3.out
        rw [List.length_map] at h1 h3
        unfold regRows at h2
        rw [List.length_map] at h2
        subst h1
        subst h2
        subst h3
        exact ⟨a1, a2, a3, c1, c2, c3, ol1, ol2, ol3, HO1.out, HO2.out, HO3.out, KN⟩
  case rest =>
    obtain ⟨a1, a2, a3, c1, c2, c3, ol1, ol2, ol3, O1, O2, O3, KN⟩ := hcut
    rw [← HNW.out, ← HNR.out, ← HNO.out] at KN
    rw [← HNW.out] at O1
    rw [← HNR.out] at O2
    rw [← HNO.out] at O3
    have HO1 := Lib.hid O1
    have HO2 := Lib.hid O2
    have HO3 := Lib.hid O3
    clear O1 O2 O3
    go_upto_region 6 with (first | ((with_reducible refine wpList_gate ?_); first | ((with_reducible refine gate_load ?_ ?_); rfl; first | (refine ks_loadW KN 25 Tryz.underlying25 ?_) | (refine ks_load1 KN 22 Tryz.underlying22 ?_) | (refine ks_load1 KN 23 Tryz.underlying23 ?_) | (refine ks_load1 KN 60 Tryz.underlying60 ?_) | (refine ks_load1 KN 58 Tryz.underlying58 ?_) | (refine ks_load1 KN 3 Tryz.underlying3 ?_) | (refine ks_load1 KN 51 Tryz.underlying51 ?_)) | ((with_reducible refine gate_store ?_ ?_); rfl; first | (refine ks_store1 KN 22 ?_; clear KN; intro wx KN) | (refine ks_store1 KN 23 ?_; clear KN; intro wx KN) | (refine ks_store1 KN 60 ?_; clear KN; intro wx KN) | (refine ks_store1 KN 4 ?_; clear KN; intro wx KN) | (refine ks_storeW KN 63 ?_; clear KN; intro wx KN) | (refine ks_storeA KN 63 ?_; clear KN; intro wx KN)) | ((with_reducible refine gate_new ?_ ?_); rfl; first | (refine ks_boxA KN 25 (q := 1) ?_; clear KN; intro g1 wx hg1 KN) | (refine ks_boxA KN 65 (q := 40) ?_; clear KN; intro g40 wx hg40 KN))))
    (try go_frame)
    go_cut [7] (fun s7 wz => CutC w g1 #[.slice a1 nw c1, .int .i64 (sm : Int), .int .i64 sl, .slice a2 no c2, .slice a3 no c3] nw (.slice a1 nw c1) (sm : Int) sl (.slice a2 no c2) (.slice a3 no c3) (ol1 ++ (ol2 ++ ol3)) s7 wz)
    case first =>
      replace KN := KN.drew
      refine wp_region_held_drew (S := (fun w' => BlkT w' g1 #[.slice a1 nw c1, .int .i64 (sm : Int), .int .i64 sl, .slice a2 no c2, .slice a3 no c3] 25)) (by kernel_rfl) ?cbhS (fun hHeld => ?cbrest)
      case cbhS => exact KN.at_ (by repeat (first | exact Has.here | refine Has.there ?_))
      refine wpAnyH_take (i := 0) (oi := ⟨some 33, _, _, _, _, _⟩) (v := (.agg #[.slice a1 nw c1, .int .i64 (sm : Int), .int .i64 sl, .slice a2 no c2, .slice a3 no c3])) rfl (by kernel_rfl) (by kernel_rfl) (by kernel_rfl) (fun _ _ _ h => h) (kn_yieldsN (by rfl) 25 _ rfl g1 0 rfl _ 25 (fun _ h => h) #[.slice a1 nw c1, .int .i64 (sm : Int), .int .i64 sl, .slice a2 no c2, .slice a3 no c3] rfl _ Tryz.underlying25 rfl (by kernel_rfl)) hHeld ?cbr0
      (try simp only [Act.put, List.setIfInBounds_toArray, List.set_cons_zero, List.set_cons_succ])
      refine wpAnyH_take (i := 1) (oi := ⟨some 34, _, _, _, _, _⟩) (v := ?cbv1) rfl (by kernel_rfl) (by kernel_rfl) (by kernel_rfl) (fun _ _ _ h => h) (Or.inl ⟨by rfl, ?cbhy1⟩) hHeld ?cbr1
      case cbhy1 => (intro w hSw; (try dsimp only at hSw); go_simp; (try with_reducible rfl))
      (try simp only [Act.put, List.setIfInBounds_toArray, List.set_cons_zero, List.set_cons_succ])
      refine wpAnyH_take (i := 3) (oi := ⟨some 36, _, _, _, _, _⟩) (v := ?cbv3) rfl (by kernel_rfl) (by kernel_rfl) (by kernel_rfl) (fun _ _ _ h => h) (Or.inl ⟨by rfl, ?cbhy3⟩) hHeld ?cbr3
      case cbhy3 => (intro w hSw; (try dsimp only at hSw); go_simp; (try with_reducible rfl))
      (try simp only [Act.put, List.setIfInBounds_toArray, List.set_cons_zero, List.set_cons_succ])
      refine wpAnyH_ready (rs := [2, 4, 5]) (by kernel_rfl) (by simp) ?cbc2_4_5
      refine (AllReadyH.cons (o := ⟨some 35, _, _, _, _, _⟩) rfl (fun K hK => ?cbst2) (AllReadyH.cons (o := ⟨some 37, _, _, _, _, _⟩) rfl (fun K hK => ?cbst4) (AllReadyH.cons (o := ⟨some 38, _, _, _, _, _⟩) rfl (fun K hK => ?cbst5) AllReadyH.nil)))
      case cbst2 =>
        (rw [if_pos (by rfl)]; refine wp_kn_make KN 58 _ _ rfl 4 1 1 Tryz.underlying58 bool_info nw nw .i64 .i64 rfl rfl (Nat.le_refl _) (by omega) (by unfold maxLen; omega) ?_; clear KN; intro gr wx rcs hgr hrc KN; have HRC := Lib.hid hrc; clear hrc)
        refine hK.out _ _ ?cb2xk2 (fun hHeld2 => ?cb2xm2)
        case cb2xk2 => exact KN.at_ (by repeat (first | exact Has.here | refine Has.there ?_))
        clear hK K hHeld
        have hHeld := hHeld2; clear hHeld2
        (try simp only [Act.put, List.setIfInBounds_toArray, List.set_cons_zero, List.set_cons_succ])
        refine wpAnyH_ready (rs := [4, 5]) (by kernel_rfl) (by simp) ?cb2xc4_5
        refine (AllReadyH.cons (o := ⟨some 37, _, _, _, _, _⟩) rfl (fun K hK => ?cb2xst4) (AllReadyH.cons (o := ⟨some 38, _, _, _, _, _⟩) rfl (fun K hK => ?cb2xst5) AllReadyH.nil))
        case cb2xst4 =>
          (rw [if_pos (by rfl)]; refine wp_kn_make KN 58 _ _ rfl 4 1 1 Tryz.underlying58 bool_info nw nw .i64 .i64 rfl rfl (Nat.le_refl _) (by omega) (by unfold maxLen; omega) ?_; clear KN; intro gd wx dcs hgd hdc KN; have HDC := Lib.hid hdc; clear hdc)
          refine hK.out _ _ ?cb2x4xk4 (fun hHeld2 => ?cb2x4xm4)
          case cb2x4xk4 => exact KN.at_ (by repeat (first | exact Has.here | refine Has.there ?_))
          clear hK K hHeld
          have hHeld := hHeld2; clear hHeld2
          (try simp only [Act.put, List.setIfInBounds_toArray, List.set_cons_zero, List.set_cons_succ])
          refine wpAnyH_ready (rs := [5]) (by kernel_rfl) (by simp) ?cb2x4xc5
          refine AllReadyH.cons (o := ⟨some 38, _, _, _, _, _⟩) rfl (fun K hK => ?cb2x4xst5) AllReadyH.nil
          (rw [if_pos (by rfl)]; refine wp_kn_newMap KN 59 rfl ?_; clear KN; intro gm wx hgm KN)
          refine hK.out _ _ ?cb2x4xk5 (fun hHeld2 => ?cb2x4xm5)
          case cb2x4xk5 => exact KN.at_ (by repeat (first | exact Has.here | refine Has.there ?_))
          clear hK K hHeld
          have hHeld := hHeld2; clear hHeld2
          (try simp only [Act.put, List.setIfInBounds_toArray, List.set_cons_zero, List.set_cons_succ])
          refine wpAnyH_take (i := 6) (oi := ⟨some 39, _, _, _, _, _⟩) (v := (.agg (cluA (.slice a1 nw c1) (sm : Int) sl (.slice a2 no c2) (.slice a3 no c3) (.slice none 0 0) nw gr gd gm))) rfl (by kernel_rfl) (by kernel_rfl) (by kernel_rfl) (fun _ _ _ h => h) (yields_built (by rfl) 65 #[(0, .tmp 33), (2, .tmp 35), (3, .tmp 37), (4, .tmp 38)] rfl _ (by kernel_rfl)) hHeld ?cb2x4xr6
          (try simp only [Act.put, List.setIfInBounds_toArray, List.set_cons_zero, List.set_cons_succ])
          refine wpAnyH_ready (rs := [7]) (by kernel_rfl) (by simp) ?cb2x4xc7
          refine AllReadyH.cons (o := ⟨some 40, _, _, _, _, _⟩) rfl (fun K hK => ?cb2x4xst7) AllReadyH.nil
          (rw [if_pos (by rfl)]; refine wp_kn_box KN 65 _ rfl 40 rfl _ rfl (cluA (.slice a1 nw c1) (sm : Int) sl (.slice a2 no c2) (.slice a3 no c3) (.slice none 0 0) nw gr gd gm) rfl ?_; clear KN; intro gc wx hgc KN)
          refine hK.out _ _ ?cb2x4xk7 (fun hHeld2 => ?cb2x4xm7)
          case cb2x4xk7 => exact KN.at_ (by repeat (first | exact Has.here | refine Has.there ?_))
          clear hK K hHeld
          have hHeld := hHeld2; clear hHeld2
          (try simp only [Act.put, List.setIfInBounds_toArray, List.set_cons_zero, List.set_cons_succ])
          refine wpAnyH_take (i := 8) (oi := ⟨some 7, _, _, _, _, _⟩) (v := ?cb2x4xv8) rfl (by kernel_rfl) (by kernel_rfl) (by kernel_rfl) (fun _ _ _ h => h) (Or.inl ⟨by rfl, ?cb2x4xhy8⟩) hHeld ?cb2x4xr8
          case cb2x4xhy8 => (intro w hSw; (try dsimp only at hSw); go_simp; (try with_reducible rfl))
          (try simp only [Act.put, List.setIfInBounds_toArray, List.set_cons_zero, List.set_cons_succ])
          refine wpAnyH_done (by kernel_rfl) ?cb2x4xdone _
          go_wp2_with fail
          go_meet
          case rel =>
          have h1 := HRC.out
          rw [bool_zero] at h1
          have hm1 := made_one (.bool false) nw
          rw [← h1] at hm1
          have h2 := HDC.out
          rw [bool_zero] at h2
          have hm2 := made_one (.bool false) nw
          rw [← h2] at hm2
          refine ⟨gc, gr, gd, gm, rcs, dcs, rfl, hm1, hm2, KN.perm ?_⟩
          exact List.Perm.cons _ (by first | exact .refl _ | exact .swap _ _ _ | exact .cons _ (.swap _ _ _) | exact (List.Perm.swap _ _ _).trans (.cons _ (.swap _ _ _)) | exact (List.Perm.cons _ (.swap _ _ _)).trans (.swap _ _ _) | exact ((List.Perm.swap _ _ _).trans (.cons _ (.swap _ _ _))).trans (.swap _ _ _))
        case cb2xst5 =>
          (rw [if_pos (by rfl)]; refine wp_kn_newMap KN 59 rfl ?_; clear KN; intro gm wx hgm KN)
          refine hK.out _ _ ?cb2x5xk5 (fun hHeld2 => ?cb2x5xm5)
          case cb2x5xk5 => exact KN.at_ (by repeat (first | exact Has.here | refine Has.there ?_))
          clear hK K hHeld
          have hHeld := hHeld2; clear hHeld2
          (try simp only [Act.put, List.setIfInBounds_toArray, List.set_cons_zero, List.set_cons_succ])
          refine wpAnyH_ready (rs := [4]) (by kernel_rfl) (by simp) ?cb2x5xc4
          refine AllReadyH.cons (o := ⟨some 37, _, _, _, _, _⟩) rfl (fun K hK => ?cb2x5xst4) AllReadyH.nil
          (rw [if_pos (by rfl)]; refine wp_kn_make KN 58 _ _ rfl 4 1 1 Tryz.underlying58 bool_info nw nw .i64 .i64 rfl rfl (Nat.le_refl _) (by omega) (by unfold maxLen; omega) ?_; clear KN; intro gd wx dcs hgd hdc KN; have HDC := Lib.hid hdc; clear hdc)
          refine hK.out _ _ ?cb2x5xk4 (fun hHeld2 => ?cb2x5xm4)
          case cb2x5xk4 => exact KN.at_ (by repeat (first | exact Has.here | refine Has.there ?_))
          clear hK K hHeld
          have hHeld := hHeld2; clear hHeld2
          (try simp only [Act.put, List.setIfInBounds_toArray, List.set_cons_zero, List.set_cons_succ])
          refine wpAnyH_take (i := 6) (oi := ⟨some 39, _, _, _, _, _⟩) (v := (.agg (cluA (.slice a1 nw c1) (sm : Int) sl (.slice a2 no c2) (.slice a3 no c3) (.slice none 0 0) nw gr gd gm))) rfl (by kernel_rfl) (by kernel_rfl) (by kernel_rfl) (fun _ _ _ h => h) (yields_built (by rfl) 65 #[(0, .tmp 33), (2, .tmp 35), (3, .tmp 37), (4, .tmp 38)] rfl _ (by kernel_rfl)) hHeld ?cb2x5xr6
          (try simp only [Act.put, List.setIfInBounds_toArray, List.set_cons_zero, List.set_cons_succ])
          refine wpAnyH_ready (rs := [7]) (by kernel_rfl) (by simp) ?cb2x5xc7
          refine AllReadyH.cons (o := ⟨some 40, _, _, _, _, _⟩) rfl (fun K hK => ?cb2x5xst7) AllReadyH.nil
          (rw [if_pos (by rfl)]; refine wp_kn_box KN 65 _ rfl 40 rfl _ rfl (cluA (.slice a1 nw c1) (sm : Int) sl (.slice a2 no c2) (.slice a3 no c3) (.slice none 0 0) nw gr gd gm) rfl ?_; clear KN; intro gc wx hgc KN)
          refine hK.out _ _ ?cb2x5xk7 (fun hHeld2 => ?cb2x5xm7)
          case cb2x5xk7 => exact KN.at_ (by repeat (first | exact Has.here | refine Has.there ?_))
          clear hK K hHeld
          have hHeld := hHeld2; clear hHeld2
          (try simp only [Act.put, List.setIfInBounds_toArray, List.set_cons_zero, List.set_cons_succ])
          refine wpAnyH_take (i := 8) (oi := ⟨some 7, _, _, _, _, _⟩) (v := ?cb2x5xv8) rfl (by kernel_rfl) (by kernel_rfl) (by kernel_rfl) (fun _ _ _ h => h) (Or.inl ⟨by rfl, ?cb2x5xhy8⟩) hHeld ?cb2x5xr8
          case cb2x5xhy8 => (intro w hSw; (try dsimp only at hSw); go_simp; (try with_reducible rfl))
          (try simp only [Act.put, List.setIfInBounds_toArray, List.set_cons_zero, List.set_cons_succ])
          refine wpAnyH_done (by kernel_rfl) ?cb2x5xdone _
          go_wp2_with fail
          go_meet
          case rel =>
          have h1 := HRC.out
          rw [bool_zero] at h1
          have hm1 := made_one (.bool false) nw
          rw [← h1] at hm1
          have h2 := HDC.out
          rw [bool_zero] at h2
          have hm2 := made_one (.bool false) nw
          rw [← h2] at hm2
          refine ⟨gc, gr, gd, gm, rcs, dcs, rfl, hm1, hm2, KN.perm ?_⟩
          exact List.Perm.cons _ (by first | exact .refl _ | exact .swap _ _ _ | exact .cons _ (.swap _ _ _) | exact (List.Perm.swap _ _ _).trans (.cons _ (.swap _ _ _)) | exact (List.Perm.cons _ (.swap _ _ _)).trans (.swap _ _ _) | exact ((List.Perm.swap _ _ _).trans (.cons _ (.swap _ _ _))).trans (.swap _ _ _))
      case cbst4 =>
        (rw [if_pos (by rfl)]; refine wp_kn_make KN 58 _ _ rfl 4 1 1 Tryz.underlying58 bool_info nw nw .i64 .i64 rfl rfl (Nat.le_refl _) (by omega) (by unfold maxLen; omega) ?_; clear KN; intro gd wx dcs hgd hdc KN; have HDC := Lib.hid hdc; clear hdc)
        refine hK.out _ _ ?cb4xk4 (fun hHeld2 => ?cb4xm4)
        case cb4xk4 => exact KN.at_ (by repeat (first | exact Has.here | refine Has.there ?_))
        clear hK K hHeld
        have hHeld := hHeld2; clear hHeld2
        (try simp only [Act.put, List.setIfInBounds_toArray, List.set_cons_zero, List.set_cons_succ])
        refine wpAnyH_ready (rs := [2, 5]) (by kernel_rfl) (by simp) ?cb4xc2_5
        refine (AllReadyH.cons (o := ⟨some 35, _, _, _, _, _⟩) rfl (fun K hK => ?cb4xst2) (AllReadyH.cons (o := ⟨some 38, _, _, _, _, _⟩) rfl (fun K hK => ?cb4xst5) AllReadyH.nil))
        case cb4xst2 =>
          (rw [if_pos (by rfl)]; refine wp_kn_make KN 58 _ _ rfl 4 1 1 Tryz.underlying58 bool_info nw nw .i64 .i64 rfl rfl (Nat.le_refl _) (by omega) (by unfold maxLen; omega) ?_; clear KN; intro gr wx rcs hgr hrc KN; have HRC := Lib.hid hrc; clear hrc)
          refine hK.out _ _ ?cb4x2xk2 (fun hHeld2 => ?cb4x2xm2)
          case cb4x2xk2 => exact KN.at_ (by repeat (first | exact Has.here | refine Has.there ?_))
          clear hK K hHeld
          have hHeld := hHeld2; clear hHeld2
          (try simp only [Act.put, List.setIfInBounds_toArray, List.set_cons_zero, List.set_cons_succ])
          refine wpAnyH_ready (rs := [5]) (by kernel_rfl) (by simp) ?cb4x2xc5
          refine AllReadyH.cons (o := ⟨some 38, _, _, _, _, _⟩) rfl (fun K hK => ?cb4x2xst5) AllReadyH.nil
          (rw [if_pos (by rfl)]; refine wp_kn_newMap KN 59 rfl ?_; clear KN; intro gm wx hgm KN)
          refine hK.out _ _ ?cb4x2xk5 (fun hHeld2 => ?cb4x2xm5)
          case cb4x2xk5 => exact KN.at_ (by repeat (first | exact Has.here | refine Has.there ?_))
          clear hK K hHeld
          have hHeld := hHeld2; clear hHeld2
          (try simp only [Act.put, List.setIfInBounds_toArray, List.set_cons_zero, List.set_cons_succ])
          refine wpAnyH_take (i := 6) (oi := ⟨some 39, _, _, _, _, _⟩) (v := (.agg (cluA (.slice a1 nw c1) (sm : Int) sl (.slice a2 no c2) (.slice a3 no c3) (.slice none 0 0) nw gr gd gm))) rfl (by kernel_rfl) (by kernel_rfl) (by kernel_rfl) (fun _ _ _ h => h) (yields_built (by rfl) 65 #[(0, .tmp 33), (2, .tmp 35), (3, .tmp 37), (4, .tmp 38)] rfl _ (by kernel_rfl)) hHeld ?cb4x2xr6
          (try simp only [Act.put, List.setIfInBounds_toArray, List.set_cons_zero, List.set_cons_succ])
          refine wpAnyH_ready (rs := [7]) (by kernel_rfl) (by simp) ?cb4x2xc7
          refine AllReadyH.cons (o := ⟨some 40, _, _, _, _, _⟩) rfl (fun K hK => ?cb4x2xst7) AllReadyH.nil
          (rw [if_pos (by rfl)]; refine wp_kn_box KN 65 _ rfl 40 rfl _ rfl (cluA (.slice a1 nw c1) (sm : Int) sl (.slice a2 no c2) (.slice a3 no c3) (.slice none 0 0) nw gr gd gm) rfl ?_; clear KN; intro gc wx hgc KN)
          refine hK.out _ _ ?cb4x2xk7 (fun hHeld2 => ?cb4x2xm7)
          case cb4x2xk7 => exact KN.at_ (by repeat (first | exact Has.here | refine Has.there ?_))
          clear hK K hHeld
          have hHeld := hHeld2; clear hHeld2
          (try simp only [Act.put, List.setIfInBounds_toArray, List.set_cons_zero, List.set_cons_succ])
          refine wpAnyH_take (i := 8) (oi := ⟨some 7, _, _, _, _, _⟩) (v := ?cb4x2xv8) rfl (by kernel_rfl) (by kernel_rfl) (by kernel_rfl) (fun _ _ _ h => h) (Or.inl ⟨by rfl, ?cb4x2xhy8⟩) hHeld ?cb4x2xr8
          case cb4x2xhy8 => (intro w hSw; (try dsimp only at hSw); go_simp; (try with_reducible rfl))
          (try simp only [Act.put, List.setIfInBounds_toArray, List.set_cons_zero, List.set_cons_succ])
          refine wpAnyH_done (by kernel_rfl) ?cb4x2xdone _
          go_wp2_with fail
          go_meet
          case rel =>
          have h1 := HRC.out
          rw [bool_zero] at h1
          have hm1 := made_one (.bool false) nw
          rw [← h1] at hm1
          have h2 := HDC.out
          rw [bool_zero] at h2
          have hm2 := made_one (.bool false) nw
          rw [← h2] at hm2
          refine ⟨gc, gr, gd, gm, rcs, dcs, rfl, hm1, hm2, KN.perm ?_⟩
          exact List.Perm.cons _ (by first | exact .refl _ | exact .swap _ _ _ | exact .cons _ (.swap _ _ _) | exact (List.Perm.swap _ _ _).trans (.cons _ (.swap _ _ _)) | exact (List.Perm.cons _ (.swap _ _ _)).trans (.swap _ _ _) | exact ((List.Perm.swap _ _ _).trans (.cons _ (.swap _ _ _))).trans (.swap _ _ _))
        case cb4xst5 =>
          (rw [if_pos (by rfl)]; refine wp_kn_newMap KN 59 rfl ?_; clear KN; intro gm wx hgm KN)
          refine hK.out _ _ ?cb4x5xk5 (fun hHeld2 => ?cb4x5xm5)
          case cb4x5xk5 => exact KN.at_ (by repeat (first | exact Has.here | refine Has.there ?_))
          clear hK K hHeld
          have hHeld := hHeld2; clear hHeld2
          (try simp only [Act.put, List.setIfInBounds_toArray, List.set_cons_zero, List.set_cons_succ])
          refine wpAnyH_ready (rs := [2]) (by kernel_rfl) (by simp) ?cb4x5xc2
          refine AllReadyH.cons (o := ⟨some 35, _, _, _, _, _⟩) rfl (fun K hK => ?cb4x5xst2) AllReadyH.nil
          (rw [if_pos (by rfl)]; refine wp_kn_make KN 58 _ _ rfl 4 1 1 Tryz.underlying58 bool_info nw nw .i64 .i64 rfl rfl (Nat.le_refl _) (by omega) (by unfold maxLen; omega) ?_; clear KN; intro gr wx rcs hgr hrc KN; have HRC := Lib.hid hrc; clear hrc)
          refine hK.out _ _ ?cb4x5xk2 (fun hHeld2 => ?cb4x5xm2)
          case cb4x5xk2 => exact KN.at_ (by repeat (first | exact Has.here | refine Has.there ?_))
          clear hK K hHeld
          have hHeld := hHeld2; clear hHeld2
          (try simp only [Act.put, List.setIfInBounds_toArray, List.set_cons_zero, List.set_cons_succ])
          refine wpAnyH_take (i := 6) (oi := ⟨some 39, _, _, _, _, _⟩) (v := (.agg (cluA (.slice a1 nw c1) (sm : Int) sl (.slice a2 no c2) (.slice a3 no c3) (.slice none 0 0) nw gr gd gm))) rfl (by kernel_rfl) (by kernel_rfl) (by kernel_rfl) (fun _ _ _ h => h) (yields_built (by rfl) 65 #[(0, .tmp 33), (2, .tmp 35), (3, .tmp 37), (4, .tmp 38)] rfl _ (by kernel_rfl)) hHeld ?cb4x5xr6
          (try simp only [Act.put, List.setIfInBounds_toArray, List.set_cons_zero, List.set_cons_succ])
          refine wpAnyH_ready (rs := [7]) (by kernel_rfl) (by simp) ?cb4x5xc7
          refine AllReadyH.cons (o := ⟨some 40, _, _, _, _, _⟩) rfl (fun K hK => ?cb4x5xst7) AllReadyH.nil
          (rw [if_pos (by rfl)]; refine wp_kn_box KN 65 _ rfl 40 rfl _ rfl (cluA (.slice a1 nw c1) (sm : Int) sl (.slice a2 no c2) (.slice a3 no c3) (.slice none 0 0) nw gr gd gm) rfl ?_; clear KN; intro gc wx hgc KN)
          refine hK.out _ _ ?cb4x5xk7 (fun hHeld2 => ?cb4x5xm7)
          case cb4x5xk7 => exact KN.at_ (by repeat (first | exact Has.here | refine Has.there ?_))
          clear hK K hHeld
          have hHeld := hHeld2; clear hHeld2
          (try simp only [Act.put, List.setIfInBounds_toArray, List.set_cons_zero, List.set_cons_succ])
          refine wpAnyH_take (i := 8) (oi := ⟨some 7, _, _, _, _, _⟩) (v := ?cb4x5xv8) rfl (by kernel_rfl) (by kernel_rfl) (by kernel_rfl) (fun _ _ _ h => h) (Or.inl ⟨by rfl, ?cb4x5xhy8⟩) hHeld ?cb4x5xr8
          case cb4x5xhy8 => (intro w hSw; (try dsimp only at hSw); go_simp; (try with_reducible rfl))
          (try simp only [Act.put, List.setIfInBounds_toArray, List.set_cons_zero, List.set_cons_succ])
          refine wpAnyH_done (by kernel_rfl) ?cb4x5xdone _
          go_wp2_with fail
          go_meet
          case rel =>
          have h1 := HRC.out
          rw [bool_zero] at h1
          have hm1 := made_one (.bool false) nw
          rw [← h1] at hm1
          have h2 := HDC.out
          rw [bool_zero] at h2
          have hm2 := made_one (.bool false) nw
          rw [← h2] at hm2
          refine ⟨gc, gr, gd, gm, rcs, dcs, rfl, hm1, hm2, KN.perm ?_⟩
          exact List.Perm.cons _ (by first | exact .refl _ | exact .swap _ _ _ | exact .cons _ (.swap _ _ _) | exact (List.Perm.swap _ _ _).trans (.cons _ (.swap _ _ _)) | exact (List.Perm.cons _ (.swap _ _ _)).trans (.swap _ _ _) | exact ((List.Perm.swap _ _ _).trans (.cons _ (.swap _ _ _))).trans (.swap _ _ _))
      case cbst5 =>
        (rw [if_pos (by rfl)]; refine wp_kn_newMap KN 59 rfl ?_; clear KN; intro gm wx hgm KN)
        refine hK.out _ _ ?cb5xk5 (fun hHeld2 => ?cb5xm5)
        case cb5xk5 => exact KN.at_ (by repeat (first | exact Has.here | refine Has.there ?_))
        clear hK K hHeld
        have hHeld := hHeld2; clear hHeld2
        (try simp only [Act.put, List.setIfInBounds_toArray, List.set_cons_zero, List.set_cons_succ])
        refine wpAnyH_ready (rs := [2, 4]) (by kernel_rfl) (by simp) ?cb5xc2_4
        refine (AllReadyH.cons (o := ⟨some 35, _, _, _, _, _⟩) rfl (fun K hK => ?cb5xst2) (AllReadyH.cons (o := ⟨some 37, _, _, _, _, _⟩) rfl (fun K hK => ?cb5xst4) AllReadyH.nil))
        case cb5xst2 =>
          (rw [if_pos (by rfl)]; refine wp_kn_make KN 58 _ _ rfl 4 1 1 Tryz.underlying58 bool_info nw nw .i64 .i64 rfl rfl (Nat.le_refl _) (by omega) (by unfold maxLen; omega) ?_; clear KN; intro gr wx rcs hgr hrc KN; have HRC := Lib.hid hrc; clear hrc)
          refine hK.out _ _ ?cb5x2xk2 (fun hHeld2 => ?cb5x2xm2)
          case cb5x2xk2 => exact KN.at_ (by repeat (first | exact Has.here | refine Has.there ?_))
          clear hK K hHeld
          have hHeld := hHeld2; clear hHeld2
          (try simp only [Act.put, List.setIfInBounds_toArray, List.set_cons_zero, List.set_cons_succ])
          refine wpAnyH_ready (rs := [4]) (by kernel_rfl) (by simp) ?cb5x2xc4
          refine AllReadyH.cons (o := ⟨some 37, _, _, _, _, _⟩) rfl (fun K hK => ?cb5x2xst4) AllReadyH.nil
          (rw [if_pos (by rfl)]; refine wp_kn_make KN 58 _ _ rfl 4 1 1 Tryz.underlying58 bool_info nw nw .i64 .i64 rfl rfl (Nat.le_refl _) (by omega) (by unfold maxLen; omega) ?_; clear KN; intro gd wx dcs hgd hdc KN; have HDC := Lib.hid hdc; clear hdc)
          refine hK.out _ _ ?cb5x2xk4 (fun hHeld2 => ?cb5x2xm4)
          case cb5x2xk4 => exact KN.at_ (by repeat (first | exact Has.here | refine Has.there ?_))
          clear hK K hHeld
          have hHeld := hHeld2; clear hHeld2
          (try simp only [Act.put, List.setIfInBounds_toArray, List.set_cons_zero, List.set_cons_succ])
          refine wpAnyH_take (i := 6) (oi := ⟨some 39, _, _, _, _, _⟩) (v := (.agg (cluA (.slice a1 nw c1) (sm : Int) sl (.slice a2 no c2) (.slice a3 no c3) (.slice none 0 0) nw gr gd gm))) rfl (by kernel_rfl) (by kernel_rfl) (by kernel_rfl) (fun _ _ _ h => h) (yields_built (by rfl) 65 #[(0, .tmp 33), (2, .tmp 35), (3, .tmp 37), (4, .tmp 38)] rfl _ (by kernel_rfl)) hHeld ?cb5x2xr6
          (try simp only [Act.put, List.setIfInBounds_toArray, List.set_cons_zero, List.set_cons_succ])
          refine wpAnyH_ready (rs := [7]) (by kernel_rfl) (by simp) ?cb5x2xc7
          refine AllReadyH.cons (o := ⟨some 40, _, _, _, _, _⟩) rfl (fun K hK => ?cb5x2xst7) AllReadyH.nil
          (rw [if_pos (by rfl)]; refine wp_kn_box KN 65 _ rfl 40 rfl _ rfl (cluA (.slice a1 nw c1) (sm : Int) sl (.slice a2 no c2) (.slice a3 no c3) (.slice none 0 0) nw gr gd gm) rfl ?_; clear KN; intro gc wx hgc KN)
          refine hK.out _ _ ?cb5x2xk7 (fun hHeld2 => ?cb5x2xm7)
          case cb5x2xk7 => exact KN.at_ (by repeat (first | exact Has.here | refine Has.there ?_))
          clear hK K hHeld
          have hHeld := hHeld2; clear hHeld2
          (try simp only [Act.put, List.setIfInBounds_toArray, List.set_cons_zero, List.set_cons_succ])
          refine wpAnyH_take (i := 8) (oi := ⟨some 7, _, _, _, _, _⟩) (v := ?cb5x2xv8) rfl (by kernel_rfl) (by kernel_rfl) (by kernel_rfl) (fun _ _ _ h => h) (Or.inl ⟨by rfl, ?cb5x2xhy8⟩) hHeld ?cb5x2xr8
          case cb5x2xhy8 => (intro w hSw; (try dsimp only at hSw); go_simp; (try with_reducible rfl))
          (try simp only [Act.put, List.setIfInBounds_toArray, List.set_cons_zero, List.set_cons_succ])
          refine wpAnyH_done (by kernel_rfl) ?cb5x2xdone _
          go_wp2_with fail
          go_meet
          case rel =>
          have h1 := HRC.out
          rw [bool_zero] at h1
          have hm1 := made_one (.bool false) nw
          rw [← h1] at hm1
          have h2 := HDC.out
          rw [bool_zero] at h2
          have hm2 := made_one (.bool false) nw
          rw [← h2] at hm2
          refine ⟨gc, gr, gd, gm, rcs, dcs, rfl, hm1, hm2, KN.perm ?_⟩
          exact List.Perm.cons _ (by first | exact .refl _ | exact .swap _ _ _ | exact .cons _ (.swap _ _ _) | exact (List.Perm.swap _ _ _).trans (.cons _ (.swap _ _ _)) | exact (List.Perm.cons _ (.swap _ _ _)).trans (.swap _ _ _) | exact ((List.Perm.swap _ _ _).trans (.cons _ (.swap _ _ _))).trans (.swap _ _ _))
        case cb5xst4 =>
          (rw [if_pos (by rfl)]; refine wp_kn_make KN 58 _ _ rfl 4 1 1 Tryz.underlying58 bool_info nw nw .i64 .i64 rfl rfl (Nat.le_refl _) (by omega) (by unfold maxLen; omega) ?_; clear KN; intro gd wx dcs hgd hdc KN; have HDC := Lib.hid hdc; clear hdc)
          refine hK.out _ _ ?cb5x4xk4 (fun hHeld2 => ?cb5x4xm4)
          case cb5x4xk4 => exact KN.at_ (by repeat (first | exact Has.here | refine Has.there ?_))
          clear hK K hHeld
          have hHeld := hHeld2; clear hHeld2
          (try simp only [Act.put, List.setIfInBounds_toArray, List.set_cons_zero, List.set_cons_succ])
          refine wpAnyH_ready (rs := [2]) (by kernel_rfl) (by simp) ?cb5x4xc2
          refine AllReadyH.cons (o := ⟨some 35, _, _, _, _, _⟩) rfl (fun K hK => ?cb5x4xst2) AllReadyH.nil
          (rw [if_pos (by rfl)]; refine wp_kn_make KN 58 _ _ rfl 4 1 1 Tryz.underlying58 bool_info nw nw .i64 .i64 rfl rfl (Nat.le_refl _) (by omega) (by unfold maxLen; omega) ?_; clear KN; intro gr wx rcs hgr hrc KN; have HRC := Lib.hid hrc; clear hrc)
          refine hK.out _ _ ?cb5x4xk2 (fun hHeld2 => ?cb5x4xm2)
          case cb5x4xk2 => exact KN.at_ (by repeat (first | exact Has.here | refine Has.there ?_))
          clear hK K hHeld
          have hHeld := hHeld2; clear hHeld2
          (try simp only [Act.put, List.setIfInBounds_toArray, List.set_cons_zero, List.set_cons_succ])
          refine wpAnyH_take (i := 6) (oi := ⟨some 39, _, _, _, _, _⟩) (v := (.agg (cluA (.slice a1 nw c1) (sm : Int) sl (.slice a2 no c2) (.slice a3 no c3) (.slice none 0 0) nw gr gd gm))) rfl (by kernel_rfl) (by kernel_rfl) (by kernel_rfl) (fun _ _ _ h => h) (yields_built (by rfl) 65 #[(0, .tmp 33), (2, .tmp 35), (3, .tmp 37), (4, .tmp 38)] rfl _ (by kernel_rfl)) hHeld ?cb5x4xr6
          (try simp only [Act.put, List.setIfInBounds_toArray, List.set_cons_zero, List.set_cons_succ])
          refine wpAnyH_ready (rs := [7]) (by kernel_rfl) (by simp) ?cb5x4xc7
          refine AllReadyH.cons (o := ⟨some 40, _, _, _, _, _⟩) rfl (fun K hK => ?cb5x4xst7) AllReadyH.nil
          (rw [if_pos (by rfl)]; refine wp_kn_box KN 65 _ rfl 40 rfl _ rfl (cluA (.slice a1 nw c1) (sm : Int) sl (.slice a2 no c2) (.slice a3 no c3) (.slice none 0 0) nw gr gd gm) rfl ?_; clear KN; intro gc wx hgc KN)
          refine hK.out _ _ ?cb5x4xk7 (fun hHeld2 => ?cb5x4xm7)
          case cb5x4xk7 => exact KN.at_ (by repeat (first | exact Has.here | refine Has.there ?_))
          clear hK K hHeld
          have hHeld := hHeld2; clear hHeld2
          (try simp only [Act.put, List.setIfInBounds_toArray, List.set_cons_zero, List.set_cons_succ])
          refine wpAnyH_take (i := 8) (oi := ⟨some 7, _, _, _, _, _⟩) (v := ?cb5x4xv8) rfl (by kernel_rfl) (by kernel_rfl) (by kernel_rfl) (fun _ _ _ h => h) (Or.inl ⟨by rfl, ?cb5x4xhy8⟩) hHeld ?cb5x4xr8
          case cb5x4xhy8 => (intro w hSw; (try dsimp only at hSw); go_simp; (try with_reducible rfl))
          (try simp only [Act.put, List.setIfInBounds_toArray, List.set_cons_zero, List.set_cons_succ])
          refine wpAnyH_done (by kernel_rfl) ?cb5x4xdone _
          go_wp2_with fail
          go_meet
          case rel =>
          have h1 := HRC.out
          rw [bool_zero] at h1
          have hm1 := made_one (.bool false) nw
          rw [← h1] at hm1
          have h2 := HDC.out
          rw [bool_zero] at h2
          have hm2 := made_one (.bool false) nw
          rw [← h2] at hm2
          refine ⟨gc, gr, gd, gm, rcs, dcs, rfl, hm1, hm2, KN.perm ?_⟩
          exact List.Perm.cons _ (by first | exact .refl _ | exact .swap _ _ _ | exact .cons _ (.swap _ _ _) | exact (List.Perm.swap _ _ _).trans (.cons _ (.swap _ _ _)) | exact (List.Perm.cons _ (.swap _ _ _)).trans (.swap _ _ _) | exact ((List.Perm.swap _ _ _).trans (.cons _ (.swap _ _ _))).trans (.swap _ _ _))
    case rest =>
      obtain ⟨gc, gr, gd, gm, rcs, dcs, rfl, hrc, hdc, KN⟩ := hcut
      have HKN : Hid (∀ (wx : World) (k : Nat), k < nw → Row wx (.slice a1 nw c1) 1 (intRows c.ws) → Row wx (.slice a2 no c2) 3 (regRows c.rs) → Row wx (.slice a3 no c3) 1 (intRows c.os) → Calls Tryz.prog 16 #[.int .i64 (k : Int), .agg #[.slice a1 nw c1, .int .i64 (sm : Int), .int .i64 sl, .slice a2 no c2, .slice a3 no c3]] wx (KOut wx (k : Int) (if (k : Int) < (sm : Int) then 1 else 0) (if (k : Int) < (sm : Int) then upto sm else []) (if (k : Int) < (sm : Int) then c.os else []))) := Lib.hid fun wx k hk h1 h2 h3 => by
        rw [HNW.out] at h1 ⊢
        rw [HNR.out] at h2
        rw [HNO.out] at h3
        rw [show (.slice a2 no c2 : Value) = .slice a2 c.rs.length c2 from by rw [HNR.out], show (.slice a3 no c3 : Value) = .slice a3 c.os.length c3 from by rw [HNO.out]]
        have q := KNew_any k (c := c) ⟨h1, h2, h3, HC.out.ist, HC.out.isl, HC.out.irs, HC.out.ios⟩ HV.out (by rw [← HNW.out]; exact hk)
        rw [← HST.out, ← HSL.out, Int.toNat_natCast] at q
        exact q
      have HD := Lib.hid hdc
      have hrs := hrc.1
      clear hrc hdc
      have KN2 := KN.perm (l' := (gc, At (cluA (.slice a1 nw c1) (sm : Int) sl (.slice a2 no c2) (.slice a3 no c3) (.slice none 0 0) nw gr gd gm) 65) :: (gr, At rcs 4) :: (gd, At dcs 4) :: (gm, MapIs [] 0) :: (g1, At #[.slice a1 nw c1, .int .i64 (sm : Int), .int .i64 sl, .slice a2 no c2, .slice a3 no c3] 25) :: ((ol1 ++ (ol2 ++ ol3)) ++ ([] ++ []))) (by simp)
      clear KN
      go_wp2_with fail
      go_loopw [42] (fun i wr => CLoop w gc gr gd gm g1 (.slice a1 nw c1) (sm : Int) sl (.slice a2 no c2) (.slice a3 no c3) nw sm #[.slice a1 nw c1, .int .i64 (sm : Int), .int .i64 sl, .slice a2 no c2, .slice a3 no c3] dcs (ol1 ++ (ol2 ++ ol3)) c.os i wr) (fun i _ => nw - (intOf i).toNat)
      case atStart => exact ⟨0, .slice none 0 0, [], [], [], rcs, rfl, Nat.zero_le _, .nil, rfl, hrs, fun j hj => absurd hj (Nat.not_lt_zero j), .inl ⟨rfl, rfl⟩, KN2⟩
      case round =>
        clear KN2
        obtain ⟨k, vk, L, ok, ex, rcs, rfl, hk, OW, hL, hrs, hrf, hex, KN⟩ := hrel
        have HO := Lib.hid OW
        have HL := Lib.hid hL
        have HRS := Lib.hid hrs
        have HRF := Lib.hid hrf
        have HEX := Lib.hid hex
        obtain ⟨xa, xn, xc, rfl⟩ := OW.form3
        by_cases hlt : k < nw
        · have HRF2 := Lib.hid (run_set hrs hlt hrf)
          clear OW hL hrs hrf hex
          by_cases hk0 : k = 0
          · have HEE : Hid (ex = []) := Lib.hid (by
              rcases HEX.out with ⟨_, h⟩ | ⟨h, _⟩
              · exact h
              · omega)
            have HS0 : Hid ((k : Int) < (sm : Int)) := Lib.hid (by omega)
            have HK0 := Lib.hid hk0
            have HL0 : Hid (L = []) := Lib.hid (List.eq_nil_of_length_eq_zero (by rw [HL.out, hk0]))
            rw [HEE.out] at KN
            clear hk0
            go_upto_region 11 with (first | (go_at_call 16; refine (HKN.out _ k hlt (HO1.out.row (f := fun o => o) (KN.sub (sub_c5 (sub_1 _ _ _ _))) .id) (HO2.out.row (f := fun o => o) (KN.sub (sub_c5 (sub_2 _ _ _ _))) .id) (HO3.out.row (f := fun o => o) (KN.sub (sub_c5 (sub_3 _ _ _ _))) .id)).mono ?_; rw [if_pos HS0.out, if_pos HS0.out, if_pos HS0.out]; rintro e wx ⟨gk, gy, ka, rg, m, o, sl', om, oo, rfl, hka, O1, O2, K2⟩; have HKA := Lib.hid hka; have HM1 := Lib.hid O1; have HM2 := Lib.hid O2; replace KN := KN.call0 K2; clear K2 O1 O2 hka) | ((with_reducible refine wpList_gate ?_); first | ((with_reducible refine gate_load ?_ ?_); rfl; first | (refine ks_loadW KN 25 Tryz.underlying25 ?_) | (refine ks_load1 KN 22 Tryz.underlying22 ?_) | (refine ks_load1 KN 23 Tryz.underlying23 ?_) | (refine ks_load1 KN 60 Tryz.underlying60 ?_) | (refine ks_load1 KN 58 Tryz.underlying58 ?_) | (refine ks_load1 KN 3 Tryz.underlying3 ?_) | (refine ks_load1 KN 51 Tryz.underlying51 ?_)) | ((with_reducible refine gate_store ?_ ?_); rfl; first | (refine ks_store1 KN 22 ?_; clear KN; intro wx KN) | (refine ks_store1 KN 23 ?_; clear KN; intro wx KN) | (refine ks_store1 KN 60 ?_; clear KN; intro wx KN) | (refine ks_store1 KN 4 ?_; clear KN; intro wx KN) | (refine ks_storeW KN 63 ?_; clear KN; intro wx KN) | (refine ks_storeA KN 63 ?_; clear KN; intro wx KN)) | ((with_reducible refine gate_new ?_ ?_); rfl; first | (refine ks_boxA KN 25 (q := 1) ?_; clear KN; intro g1 wx hg1 KN) | (refine ks_boxA KN 65 (q := 40) ?_; clear KN; intro g40 wx hg40 KN))))
            (try go_frame)
            replace KN := KN.perm (l' := (gc, At (cluA (.slice a1 nw c1) (sm : Int) sl (.slice a2 no c2) (.slice a3 no c3) (.slice xa xn xc) nw gr gd gm) 65) :: (gr, At rcs 4) :: (gd, At dcs 4) :: (gm, MapIs [] 0) :: (g1, At #[.slice a1 nw c1, .int .i64 (sm : Int), .int .i64 sl, .slice a2 no c2, .slice a3 no c3] 25) :: ((ol1 ++ (ol2 ++ ol3)) ++ (((gk, At ka 95) :: (gy, At (syncN (k : Int) rg sl' 1 m o) 146) :: (om ++ oo)) ++ ok))) (List.perm_append_comm.trans (.cons _ (.cons _ (.cons _ (.cons _ (.cons _ (perm_new _ _ _)))))))
            go_upto_region 12 with (first | ((with_reducible refine wpList_gate ?_); first | (refine wpList_kn_lit KN (by rfl) 60 51 1 _ rfl 57 rfl Tryz.underlying60 #[.pointer (some ⟨gk, 0, none⟩)] (by kernel_rfl) ?_; clear KN; intro g57 wx hg57 KN) | (at_builtin; refine wpList_kn_append1 KN HO.out (by rfl) _ _ 60 rfl 8 Tryz.underlying60 kp_info (by decide) rfl 1 rfl rfl (by kernel_rfl) (by rw [HL.out]; unfold maxLen; omega) (by rw [HL.out]; omega) (f := fun o => (gc, _) :: (gr, _) :: (gd, _) :: (gm, _) :: (g1, _) :: ((ol1 ++ (ol2 ++ ol3)) ++ (((gk, _) :: (gy, _) :: (om ++ oo)) ++ o))) (.cons _ (.cons _ (.cons _ (.cons _ (.cons _ (.app (.app .id _) _)))))) rfl ?_; clear KN; intro v58 wx ok2 OW58 KN; have HO58 := Lib.hid OW58; obtain ⟨ya, yn, yc, rfl⟩ := OW58.form3; clear OW58) | ((with_reducible refine gate_load ?_ ?_); rfl; first | (refine ks_loadW KN 25 Tryz.underlying25 ?_) | (refine ks_load1 KN 22 Tryz.underlying22 ?_) | (refine ks_load1 KN 23 Tryz.underlying23 ?_) | (refine ks_load1 KN 60 Tryz.underlying60 ?_) | (refine ks_load1 KN 58 Tryz.underlying58 ?_) | (refine ks_load1 KN 3 Tryz.underlying3 ?_) | (refine ks_load1 KN 51 Tryz.underlying51 ?_)) | ((with_reducible refine gate_store ?_ ?_); rfl; first | (refine ks_store1 KN 22 ?_; clear KN; intro wx KN) | (refine ks_store1 KN 23 ?_; clear KN; intro wx KN) | (refine ks_store1 KN 60 ?_; clear KN; intro wx KN) | (refine ks_store1 KN 4 ?_; clear KN; intro wx KN) | (refine ks_storeW KN 63 ?_; clear KN; intro wx KN) | (refine ks_storeA KN 63 ?_; clear KN; intro wx KN)) | ((with_reducible refine gate_new ?_ ?_); rfl; first | (refine ks_boxA KN 25 (q := 1) ?_; clear KN; intro g1 wx hg1 KN) | (refine ks_boxA KN 65 (q := 40) ?_; clear KN; intro g40 wx hg40 KN))))
            (try go_frame)
            replace KN := KN.drew
            replace KN := KN.as_ gc (cluA (.slice a1 nw c1) (sm : Int) sl (.slice a2 no c2) (.slice a3 no c3) (.slice ya yn yc) nw gr gd gm) (by repeat (first | exact Repl.here | apply Repl.there)) (by kernel_rfl)
            refine wp_region_held_drew (S := (fun w' => BlkT w' gc (cluA (.slice a1 nw c1) (sm : Int) sl (.slice a2 no c2) (.slice a3 no c3) (.slice ya yn yc) nw gr gd gm) 65 ∧ BlkT w' g1 #[.slice a1 nw c1, .int .i64 (sm : Int), .int .i64 sl, .slice a2 no c2, .slice a3 no c3] 25)) (by kernel_rfl) ?cxhS (fun hHeld => ?cxrest)
            case cxhS => exact ⟨KN.at_ (by repeat (first | exact Has.here | refine Has.there ?_)), KN.at_ (by repeat (first | exact Has.here | refine Has.there ?_))⟩
            refine wpAnyH_take (i := 0) (oi := ⟨some 61, _, _, _, _, _⟩) (v := ?cxv0) rfl (by kernel_rfl) (by kernel_rfl) (by kernel_rfl) (fun _ _ _ h => h) (Or.inl ⟨by rfl, ?cxhy0⟩) hHeld ?cxr0
            case cxhy0 => (intro w hSw; (try dsimp only at hSw); go_simp; (try with_reducible rfl))
            (try simp only [Act.put, List.setIfInBounds_toArray, List.set_cons_zero, List.set_cons_succ])
            refine wpAnyH_take (i := 1) (oi := ⟨some 62, _, _, _, _, _⟩) (v := ?cxv1) rfl (by kernel_rfl) (by kernel_rfl) (by kernel_rfl) (fun _ _ _ h => h) (Or.inl ⟨by rfl, ?cxhy1⟩) hHeld ?cxr1
            case cxhy1 => (intro w hSw; (try dsimp only at hSw); go_simp; (try with_reducible rfl))
            (try simp only [Act.put, List.setIfInBounds_toArray, List.set_cons_zero, List.set_cons_succ])
            refine wpAnyH_take (i := 2) (oi := ⟨some 63, _, _, _, _, _⟩) (v := ?cxv2) rfl (by kernel_rfl) (by kernel_rfl) (by kernel_rfl) (fun _ _ _ h => h) (Or.inl ⟨by rfl, ?cxhy2⟩) hHeld ?cxr2
            case cxhy2 => (intro w hSw; (try dsimp only at hSw); go_simp; (try with_reducible rfl))
            (try simp only [Act.put, List.setIfInBounds_toArray, List.set_cons_zero, List.set_cons_succ])
            refine wpAnyH_take (i := 3) (oi := ⟨some 64, _, _, _, _, _⟩) (v := (.slice (some ⟨gr, 0, none⟩) nw nw)) rfl (by kernel_rfl) (by kernel_rfl) (by kernel_rfl) (fun _ _ _ h => h) (kn_yields1 (by rfl) 58 _ rfl gc 6 rfl _ 65 (fun _ h => h.1) _ rfl _ Tryz.underlying58 rfl) hHeld ?cxr3
            (try simp only [Act.put, List.setIfInBounds_toArray, List.set_cons_zero, List.set_cons_succ])
            refine wpAnyH_take (i := 4) (oi := ⟨some 65, _, _, _, _, _⟩) (v := ?cxv4) rfl (by kernel_rfl) (by kernel_rfl) (by kernel_rfl) (fun _ _ _ h => h) (Or.inl ⟨by rfl, ?cxhy4⟩) hHeld ?cxr4
            case cxhy4 => (intro w hSw; (try dsimp only at hSw); go_simp; (try with_reducible rfl))
            (try simp only [Act.put, List.setIfInBounds_toArray, List.set_cons_zero, List.set_cons_succ])
            refine wpAnyH_take (i := 5) (oi := ⟨some 66, _, _, _, _, _⟩) (v := ?cxv5) rfl (by kernel_rfl) (by kernel_rfl) (by kernel_rfl) (fun _ _ _ h => h) (Or.inl ⟨by rfl, ?cxhy5⟩) hHeld ?cxr5
            case cxhy5 => (intro w hSw; (try dsimp only at hSw); go_simp; (try with_reducible rfl))
            (try simp only [Act.put, List.setIfInBounds_toArray, List.set_cons_zero, List.set_cons_succ])
            refine wpAnyH_take (i := 6) (oi := ⟨some 67, _, _, _, _, _⟩) (v := ?cxv6) rfl (by kernel_rfl) (by kernel_rfl) (by kernel_rfl) (fun _ _ _ h => h) (Or.inl ⟨by rfl, ?cxhy6⟩) hHeld ?cxr6
            case cxhy6 => (intro w hSw; (try dsimp only at hSw); go_simp; (try with_reducible rfl))
            (try simp only [Act.put, List.setIfInBounds_toArray, List.set_cons_zero, List.set_cons_succ])
            refine wpAnyH_take (i := 7) (oi := ⟨some 68, _, _, _, _, _⟩) (v := (.int .i64 (sm : Int))) rfl (by kernel_rfl) (by kernel_rfl) (by kernel_rfl) (fun _ _ _ h => h) (kn_yields1 (by rfl) 3 _ rfl g1 1 rfl _ 25 (fun _ h => h.2) _ rfl _ Tryz.underlying3 rfl) hHeld ?cxr7
            (try simp only [Act.put, List.setIfInBounds_toArray, List.set_cons_zero, List.set_cons_succ])
            refine wpAnyH_take (i := 8) (oi := ⟨some 69, _, _, _, _, _⟩) (v := ?cxv8) rfl (by kernel_rfl) (by kernel_rfl) (by kernel_rfl) (fun _ _ _ h => h) (Or.inl ⟨by rfl, ?cxhy8⟩) hHeld ?cxr8
            case cxhy8 => (intro w hSw; (try dsimp only at hSw); go_simp; (try with_reducible rfl))
            (try simp only [Act.put, List.setIfInBounds_toArray, List.set_cons_zero, List.set_cons_succ])
            refine wpAnyH_take (i := 9) (oi := ⟨some 70, _, _, _, _, _⟩) (v := ?cxv9) rfl (by kernel_rfl) (by kernel_rfl) (by kernel_rfl) (fun _ _ _ h => h) (Or.inl ⟨by rfl, ?cxhy9⟩) hHeld ?cxr9
            case cxhy9 => (intro w hSw; (try dsimp only at hSw); go_simp; (try with_reducible rfl))
            (try simp only [Act.put, List.setIfInBounds_toArray, List.set_cons_zero, List.set_cons_succ])
            refine wpAnyH_ready (rs := [10]) (by kernel_rfl) (by simp) ?cxc10
            refine AllReadyH.cons (o := ⟨none, _, _, _, _, _⟩) rfl (fun K hK => ?cxst10) AllReadyH.nil
            (rw [if_pos (by rfl)]; refine wp_kn_store1 KN 4 _ _ rfl gr k rfl (.bool (decide (k < sm))) rfl rfl _ 4 (by repeat (first | exact Repl.here | apply Repl.there)) (by rw [HRS.out]; omega) (by kernel_rfl) (by rfl) ?_; clear KN; intro wx KN)
            refine hK.out _ _ ?cxk10 (fun hHeld2 => ?cxm10)
            case cxk10 => exact ⟨KN.at_ (by repeat (first | exact Has.here | refine Has.there ?_)), KN.at_ (by repeat (first | exact Has.here | refine Has.there ?_))⟩
            clear hK K hHeld
            have hHeld := hHeld2; clear hHeld2
            (try simp only [Act.put, List.setIfInBounds_toArray, List.set_cons_zero, List.set_cons_succ])
            refine wpAnyH_done (by kernel_rfl) ?cxdone _
            have HEX2 : Hid (CExtra sm c.os (k + 1) (L ++ [[.pointer (some ⟨gk, 0, none⟩)]]) ((gk, At ka 95) :: (gy, At (syncN (k : Int) rg sl' 1 m o) 146) :: (om ++ oo))) := Lib.hid (.inr ⟨Nat.succ_pos _, gk, gy, ka, rg, m, o, sl', om, oo, by rw [HL0.out]; rfl, HKA.out, HM1.out, HM2.out, by rw [HK0.out]; rfl⟩)
            go_wp2_with fail
            go_roundw
            case rel => exact ⟨k + 1, _, L ++ [[.pointer (some ⟨gk, 0, none⟩)]], ok2, _, _, by go_num, by omega, HO58.out, by rw [List.length_append, HL.out]; rfl, by rw [Array.size_setIfInBounds]; exact HRS.out, HRF2.out, HEX2.out, KN⟩
            case measure => simp [intOf]; omega
          · have HEX2 := Lib.hid (fun r => HEX.out.snoc hk0 r)
            clear hk0
            go_upto_region 11 with (first | (go_at_call 16; refine (HKN.out _ k hlt (HO1.out.row (f := fun o => o) (KN.sub (sub_c5 (sub_1 _ _ _ _))) .id) (HO2.out.row (f := fun o => o) (KN.sub (sub_c5 (sub_2 _ _ _ _))) .id) (HO3.out.row (f := fun o => o) (KN.sub (sub_c5 (sub_3 _ _ _ _))) .id)).mono ?_; rintro e wx ⟨gk, gy, ka, rg, m, o, sl', om, oo, rfl, _, _, _, K2⟩; replace KN := KN.below K2.toBelow; clear K2) | ((with_reducible refine wpList_gate ?_); first | ((with_reducible refine gate_load ?_ ?_); rfl; first | (refine ks_loadW KN 25 Tryz.underlying25 ?_) | (refine ks_load1 KN 22 Tryz.underlying22 ?_) | (refine ks_load1 KN 23 Tryz.underlying23 ?_) | (refine ks_load1 KN 60 Tryz.underlying60 ?_) | (refine ks_load1 KN 58 Tryz.underlying58 ?_) | (refine ks_load1 KN 3 Tryz.underlying3 ?_) | (refine ks_load1 KN 51 Tryz.underlying51 ?_)) | ((with_reducible refine gate_store ?_ ?_); rfl; first | (refine ks_store1 KN 22 ?_; clear KN; intro wx KN) | (refine ks_store1 KN 23 ?_; clear KN; intro wx KN) | (refine ks_store1 KN 60 ?_; clear KN; intro wx KN) | (refine ks_store1 KN 4 ?_; clear KN; intro wx KN) | (refine ks_storeW KN 63 ?_; clear KN; intro wx KN) | (refine ks_storeA KN 63 ?_; clear KN; intro wx KN)) | ((with_reducible refine gate_new ?_ ?_); rfl; first | (refine ks_boxA KN 25 (q := 1) ?_; clear KN; intro g1 wx hg1 KN) | (refine ks_boxA KN 65 (q := 40) ?_; clear KN; intro g40 wx hg40 KN))))
            (try go_frame)
            go_upto_region 12 with (first | ((with_reducible refine wpList_gate ?_); first | (refine wpList_kn_lit KN (by rfl) 60 51 1 _ rfl 57 rfl Tryz.underlying60 #[.pointer (some ⟨gk, 0, none⟩)] (by kernel_rfl) ?_; clear KN; intro g57 wx hg57 KN) | (at_builtin; refine wpList_kn_append1 KN HO.out (by rfl) _ _ 60 rfl 8 Tryz.underlying60 kp_info (by decide) rfl 1 rfl rfl (by kernel_rfl) (by rw [HL.out]; unfold maxLen; omega) (by rw [HL.out]; omega) (f := fun o => (gc, _) :: (gr, _) :: (gd, _) :: (gm, _) :: (g1, _) :: ((ol1 ++ (ol2 ++ ol3)) ++ (ex ++ o))) (.cons _ (.cons _ (.cons _ (.cons _ (.cons _ (.app (.app .id _) _)))))) rfl ?_; clear KN; intro v58 wx ok2 OW58 KN; have HO58 := Lib.hid OW58; obtain ⟨ya, yn, yc, rfl⟩ := OW58.form3; clear OW58) | ((with_reducible refine gate_load ?_ ?_); rfl; first | (refine ks_loadW KN 25 Tryz.underlying25 ?_) | (refine ks_load1 KN 22 Tryz.underlying22 ?_) | (refine ks_load1 KN 23 Tryz.underlying23 ?_) | (refine ks_load1 KN 60 Tryz.underlying60 ?_) | (refine ks_load1 KN 58 Tryz.underlying58 ?_) | (refine ks_load1 KN 3 Tryz.underlying3 ?_) | (refine ks_load1 KN 51 Tryz.underlying51 ?_)) | ((with_reducible refine gate_store ?_ ?_); rfl; first | (refine ks_store1 KN 22 ?_; clear KN; intro wx KN) | (refine ks_store1 KN 23 ?_; clear KN; intro wx KN) | (refine ks_store1 KN 60 ?_; clear KN; intro wx KN) | (refine ks_store1 KN 4 ?_; clear KN; intro wx KN) | (refine ks_storeW KN 63 ?_; clear KN; intro wx KN) | (refine ks_storeA KN 63 ?_; clear KN; intro wx KN)) | ((with_reducible refine gate_new ?_ ?_); rfl; first | (refine ks_boxA KN 25 (q := 1) ?_; clear KN; intro g1 wx hg1 KN) | (refine ks_boxA KN 65 (q := 40) ?_; clear KN; intro g40 wx hg40 KN))))
            (try go_frame)
            replace KN := KN.drew
            replace KN := KN.as_ gc (cluA (.slice a1 nw c1) (sm : Int) sl (.slice a2 no c2) (.slice a3 no c3) (.slice ya yn yc) nw gr gd gm) (by repeat (first | exact Repl.here | apply Repl.there)) (by kernel_rfl)
            refine wp_region_held_drew (S := (fun w' => BlkT w' gc (cluA (.slice a1 nw c1) (sm : Int) sl (.slice a2 no c2) (.slice a3 no c3) (.slice ya yn yc) nw gr gd gm) 65 ∧ BlkT w' g1 #[.slice a1 nw c1, .int .i64 (sm : Int), .int .i64 sl, .slice a2 no c2, .slice a3 no c3] 25)) (by kernel_rfl) ?cyhS (fun hHeld => ?cyrest)
            case cyhS => exact ⟨KN.at_ (by repeat (first | exact Has.here | refine Has.there ?_)), KN.at_ (by repeat (first | exact Has.here | refine Has.there ?_))⟩
            refine wpAnyH_take (i := 0) (oi := ⟨some 61, _, _, _, _, _⟩) (v := ?cyv0) rfl (by kernel_rfl) (by kernel_rfl) (by kernel_rfl) (fun _ _ _ h => h) (Or.inl ⟨by rfl, ?cyhy0⟩) hHeld ?cyr0
            case cyhy0 => (intro w hSw; (try dsimp only at hSw); go_simp; (try with_reducible rfl))
            (try simp only [Act.put, List.setIfInBounds_toArray, List.set_cons_zero, List.set_cons_succ])
            refine wpAnyH_take (i := 1) (oi := ⟨some 62, _, _, _, _, _⟩) (v := ?cyv1) rfl (by kernel_rfl) (by kernel_rfl) (by kernel_rfl) (fun _ _ _ h => h) (Or.inl ⟨by rfl, ?cyhy1⟩) hHeld ?cyr1
            case cyhy1 => (intro w hSw; (try dsimp only at hSw); go_simp; (try with_reducible rfl))
            (try simp only [Act.put, List.setIfInBounds_toArray, List.set_cons_zero, List.set_cons_succ])
            refine wpAnyH_take (i := 2) (oi := ⟨some 63, _, _, _, _, _⟩) (v := ?cyv2) rfl (by kernel_rfl) (by kernel_rfl) (by kernel_rfl) (fun _ _ _ h => h) (Or.inl ⟨by rfl, ?cyhy2⟩) hHeld ?cyr2
            case cyhy2 => (intro w hSw; (try dsimp only at hSw); go_simp; (try with_reducible rfl))
            (try simp only [Act.put, List.setIfInBounds_toArray, List.set_cons_zero, List.set_cons_succ])
            refine wpAnyH_take (i := 3) (oi := ⟨some 64, _, _, _, _, _⟩) (v := (.slice (some ⟨gr, 0, none⟩) nw nw)) rfl (by kernel_rfl) (by kernel_rfl) (by kernel_rfl) (fun _ _ _ h => h) (kn_yields1 (by rfl) 58 _ rfl gc 6 rfl _ 65 (fun _ h => h.1) _ rfl _ Tryz.underlying58 rfl) hHeld ?cyr3
            (try simp only [Act.put, List.setIfInBounds_toArray, List.set_cons_zero, List.set_cons_succ])
            refine wpAnyH_take (i := 4) (oi := ⟨some 65, _, _, _, _, _⟩) (v := ?cyv4) rfl (by kernel_rfl) (by kernel_rfl) (by kernel_rfl) (fun _ _ _ h => h) (Or.inl ⟨by rfl, ?cyhy4⟩) hHeld ?cyr4
            case cyhy4 => (intro w hSw; (try dsimp only at hSw); go_simp; (try with_reducible rfl))
            (try simp only [Act.put, List.setIfInBounds_toArray, List.set_cons_zero, List.set_cons_succ])
            refine wpAnyH_take (i := 5) (oi := ⟨some 66, _, _, _, _, _⟩) (v := ?cyv5) rfl (by kernel_rfl) (by kernel_rfl) (by kernel_rfl) (fun _ _ _ h => h) (Or.inl ⟨by rfl, ?cyhy5⟩) hHeld ?cyr5
            case cyhy5 => (intro w hSw; (try dsimp only at hSw); go_simp; (try with_reducible rfl))
            (try simp only [Act.put, List.setIfInBounds_toArray, List.set_cons_zero, List.set_cons_succ])
            refine wpAnyH_take (i := 6) (oi := ⟨some 67, _, _, _, _, _⟩) (v := ?cyv6) rfl (by kernel_rfl) (by kernel_rfl) (by kernel_rfl) (fun _ _ _ h => h) (Or.inl ⟨by rfl, ?cyhy6⟩) hHeld ?cyr6
            case cyhy6 => (intro w hSw; (try dsimp only at hSw); go_simp; (try with_reducible rfl))
            (try simp only [Act.put, List.setIfInBounds_toArray, List.set_cons_zero, List.set_cons_succ])
            refine wpAnyH_take (i := 7) (oi := ⟨some 68, _, _, _, _, _⟩) (v := (.int .i64 (sm : Int))) rfl (by kernel_rfl) (by kernel_rfl) (by kernel_rfl) (fun _ _ _ h => h) (kn_yields1 (by rfl) 3 _ rfl g1 1 rfl _ 25 (fun _ h => h.2) _ rfl _ Tryz.underlying3 rfl) hHeld ?cyr7
            (try simp only [Act.put, List.setIfInBounds_toArray, List.set_cons_zero, List.set_cons_succ])
            refine wpAnyH_take (i := 8) (oi := ⟨some 69, _, _, _, _, _⟩) (v := ?cyv8) rfl (by kernel_rfl) (by kernel_rfl) (by kernel_rfl) (fun _ _ _ h => h) (Or.inl ⟨by rfl, ?cyhy8⟩) hHeld ?cyr8
            case cyhy8 => (intro w hSw; (try dsimp only at hSw); go_simp; (try with_reducible rfl))
            (try simp only [Act.put, List.setIfInBounds_toArray, List.set_cons_zero, List.set_cons_succ])
            refine wpAnyH_take (i := 9) (oi := ⟨some 70, _, _, _, _, _⟩) (v := ?cyv9) rfl (by kernel_rfl) (by kernel_rfl) (by kernel_rfl) (fun _ _ _ h => h) (Or.inl ⟨by rfl, ?cyhy9⟩) hHeld ?cyr9
            case cyhy9 => (intro w hSw; (try dsimp only at hSw); go_simp; (try with_reducible rfl))
            (try simp only [Act.put, List.setIfInBounds_toArray, List.set_cons_zero, List.set_cons_succ])
            refine wpAnyH_ready (rs := [10]) (by kernel_rfl) (by simp) ?cyc10
            refine AllReadyH.cons (o := ⟨none, _, _, _, _, _⟩) rfl (fun K hK => ?cyst10) AllReadyH.nil
            (rw [if_pos (by rfl)]; refine wp_kn_store1 KN 4 _ _ rfl gr k rfl (.bool (decide (k < sm))) rfl rfl _ 4 (by repeat (first | exact Repl.here | apply Repl.there)) (by rw [HRS.out]; omega) (by kernel_rfl) (by rfl) ?_; clear KN; intro wx KN)
            refine hK.out _ _ ?cyk10 (fun hHeld2 => ?cym10)
            case cyk10 => exact ⟨KN.at_ (by repeat (first | exact Has.here | refine Has.there ?_)), KN.at_ (by repeat (first | exact Has.here | refine Has.there ?_))⟩
            clear hK K hHeld
            have hHeld := hHeld2; clear hHeld2
            (try simp only [Act.put, List.setIfInBounds_toArray, List.set_cons_zero, List.set_cons_succ])
            refine wpAnyH_done (by kernel_rfl) ?cydone _
            go_wp2_with fail
            go_roundw
            case rel => exact ⟨k + 1, _, L ++ [[.pointer (some ⟨gk, 0, none⟩)]], ok2, _, _, by go_num, by omega, HO58.out, by rw [List.length_append, HL.out]; rfl, by rw [Array.size_setIfInBounds]; exact HRS.out, HRF2.out, HEX2.out _, KN⟩
            case measure => simp [intOf]; omega
        · obtain rfl : nw = k := by omega
          rcases hex with ⟨h, _⟩ | ⟨_, gk, gy, ka, rg, m, o, sl', om, oo, hL0, hka, O1, O2, rfl⟩
          · omega
          · obtain ⟨gkb, cap, hv, hnc, hcm, rfl⟩ := OW.pos (by rw [hL]; omega)
            simp only [Value.slice.injEq] at hv
            obtain ⟨rfl, hxn, rfl⟩ := hv
            rw [hL] at hxn
            subst hxn
            have HLEN := Lib.hid OW.len
            have HL0 := Lib.hid hL0
            have HKA := Lib.hid hka
            have HM1 := Lib.hid O1
            have HM2 := Lib.hid O2
            clear OW hL hrs hrf hL0 hka O1 O2 hnc
            replace KN := (KN.sub (l' := (gc, _) :: (gr, _) :: (gd, _) :: (gm, _) :: (gk, _) :: (gy, _) :: ((om ++ oo) ++ [(gkb, _)])) (.cons_cons _ (.cons_cons _ (.cons_cons _ (.cons_cons _ (.cons _ (List.sublist_append_right _ _))))))).perm (.cons _ (.cons _ (.cons _ (.cons _ (perm_last2 _ _ _ _)))))
            go_wp2_with (first | (go_at_call 19; refine (KView_any (KN.cell (g := gk) (o := 13) (by repeat (first | exact Has.here | refine Has.there ?_)) HKA.out) (KN.at_ (g := gy) (by repeat (first | exact Has.here | refine Has.there ?_))) (HM1.out.row (f := fun o => o) (KN.sub (sub_c7 (List.sublist_append_left _ _))) .id) (HM2.out.row (f := fun o => o) (KN.sub (sub_c7 (List.sublist_append_right _ _))) .id) (by rw [upto_len]; omega) (by rw [← HNO.out]; omega)).mono ?_; rintro e wx ⟨vm, vo, om2, oo2, rfl, O1, O2, K2⟩; obtain ⟨ma, mn, mc, rfl⟩ := O1.form3; obtain ⟨va, vn, vc, rfl⟩ := O2.form3; have HV1 := Lib.hid O1; replace KN := (KN.call0 K2).perm List.perm_append_comm; simp only [List.cons_append] at KN; clear K2 O1 O2) | ((with_reducible refine wpList_gate ?_); first | (refine wpList_kn_elem1 KN (by rfl) 51 _ rfl gkb 0 rfl (by repeat (first | exact Has.here | refine Has.there ?_)) HLEN.out 0 0 _ (.pointer (some ⟨gk, 0, none⟩)) HL0.out rfl rfl _ Tryz.underlying51 rfl ?_) | ((with_reducible refine gate_load ?_ ?_); rfl; first | (refine ks_loadW KN 25 Tryz.underlying25 ?_) | (refine ks_load1 KN 22 Tryz.underlying22 ?_) | (refine ks_load1 KN 23 Tryz.underlying23 ?_) | (refine ks_load1 KN 60 Tryz.underlying60 ?_) | (refine ks_load1 KN 58 Tryz.underlying58 ?_) | (refine ks_load1 KN 3 Tryz.underlying3 ?_) | (refine ks_load1 KN 51 Tryz.underlying51 ?_)) | ((with_reducible refine gate_store ?_ ?_); rfl; first | (refine ks_store1 KN 22 ?_; clear KN; intro wx KN) | (refine ks_store1 KN 23 ?_; clear KN; intro wx KN) | (refine ks_store1 KN 60 ?_; clear KN; intro wx KN) | (refine ks_store1 KN 4 ?_; clear KN; intro wx KN) | (refine ks_storeW KN 63 ?_; clear KN; intro wx KN) | (refine ks_storeA KN 63 ?_; clear KN; intro wx KN)) | ((with_reducible refine gate_new ?_ ?_); rfl; first | (refine ks_boxA KN 25 (q := 1) ?_; clear KN; intro g1 wx hg1 KN) | (refine ks_boxA KN 65 (q := 40) ?_; clear KN; intro g40 wx hg40 KN))))
            refine bodyPost_ret (results_tmp2 rfl _ _ _) rfl ?_
            replace KN := KN.as_ gc #[.slice a1 xn c1, .int .i64 (sm : Int), .int .i64 sl, .slice a2 no c2, .slice a3 no c3, .slice (some ⟨gkb, 0, none⟩) xn xc, .slice (some ⟨gr, 0, none⟩) xn xn, .slice (some ⟨gd, 0, none⟩) xn xn, .map (some gm), .int .i64 0, .slice none 0 0, .slice none 0 0, .slice none 0 0, .int .i64 1, .slice ma mn mc, .slice va vn vc] (by repeat (first | exact Repl.here | apply Repl.there)) (by kernel_rfl)
            obtain ⟨ob, hob, hmp⟩ := KN.own gm (MapIs [] 0) (by repeat (first | exact Has.here | refine Has.there ?_))
            have hmp : ob = .map #[] 0 := hmp
            subst hmp
            exact ⟨gc, gr, gd, gm, _, _, _, rfl, ⟨KN.cell (g := gc) (o := 5) (by repeat (first | exact Has.here | refine Has.there ?_)) rfl, KN.cell (g := gc) (o := 6) (by repeat (first | exact Has.here | refine Has.there ?_)) rfl, KN.cell (g := gc) (o := 7) (by repeat (first | exact Has.here | refine Has.there ?_)) rfl, KN.cell (g := gc) (o := 8) (by repeat (first | exact Has.here | refine Has.there ?_)) rfl, KN.cell (g := gc) (o := 9) (by repeat (first | exact Has.here | refine Has.there ?_)) rfl, KN.cell (g := gc) (o := 14) (by repeat (first | exact Has.here | refine Has.there ?_)) rfl,
              fun i hi => KN.cell (g := gr) (o := i) (by repeat (first | exact Has.here | refine Has.there ?_)) (HRF.out i hi), fun i hi => KN.cell (g := gd) (o := i) (by repeat (first | exact Has.here | refine Has.there ?_)) (HD.out.get hi), hob, HV1.out.row (f := fun o => o) (KN.sub (sub_c7 ((List.sublist_append_left om2 oo2).trans (List.sublist_append_right (om ++ oo) _)))) .id⟩, KN.toBelow⟩
end Go.Proofs.YtlhmeeidlhpodaaGreat
