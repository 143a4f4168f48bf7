/- Towards the law's sanity check: start, regions, copyView, New. -/
import Derived.Test.YtpjejaoobbancaaPkInc
import Derived.Test.YtpjejaoobbancaaPkMkRep
set_option linter.unusedVariables false
set_option linter.unusedSimpArgs false
set_option linter.unusedSectionVars false
namespace Go.Proofs.Ytpjejaoobbancaa
open Go.RowKit Go.BigFrame

def upto (n : Nat) : List Int := (List.range n).map fun (k : Nat) => (k : Int)
theorem upto_succ (n : Nat) : upto (n + 1) = upto n ++ [(n : Int)] := by unfold upto; rw [List.range_succ, List.map_append]; rfl
theorem upto_len (n : Nat) : (upto n).length = n := by simp [upto]
def StaR (n g2 g3 : Nat) (gs : Nat) (w : World) (i : Value) (wr : World) : Prop :=
  ∃ (k : Nat) (vm : Value) (om : Ents), i = .int .i64 (k : Int) ∧ k ≤ n ∧ OwnT 3 1 vm (intRows (upto k)) om ∧ Kn [] w wr ((g3, At #[.int .i64 1, vm, .slice (some ⟨gs, 0, none⟩) 2 2] 30) :: (g2, At #[.int .i64 0, .slice none 0 0, .slice none 0 0] 30) :: (gs, At #[.int .i64 0, .int .i64 ((n : Int) - 1)] 3) :: om)
set_option maxRecDepth 100000 in
set_option maxHeartbeats 4000000 in
theorem start_any (n : Nat) (h1 : 1 ≤ n) (h2 : n ≤ 1000) (w : World) : Calls Try.prog 17 #[.int .i64 (n : Int)] w fun e w' => ∃ (vm : Value) (gs : Nat) (om : Ents), e = .returned (.agg #[.int .i64 1, vm, .slice (some ⟨gs, 0, none⟩) 2 2]) ∧ OwnT 3 1 vm (intRows (upto n)) om ∧
    Kn [] w w' ((gs, At #[.int .i64 0, .int .i64 ((n : Int) - 1)] 3) :: om) := by
  have KN := Kn.start w
  go_enter Try.func17, Try.ntmps17
  go_wp2_with (first | ((with_reducible refine wpList_gate ?_); first | (refine wpList_kn_lit KN (by rfl) 22 3 2 _ rfl 8 rfl Try.underlying22 #[.int .i64 0, .int .i64 ((n : Int) - 1)] (by kernel_rfl) ?_; clear KN; intro g8 wx hg8 KN) | ((with_reducible refine gate_load ?_ ?_); rfl; first | (refine ks_load1 KN 22 Try.underlying22 ?_) | (refine ks_loadW KN 30 Try.underlying30 ?_)) | ((with_reducible refine gate_store ?_ ?_); rfl; first | (refine ks_storeW KN 30 ?_; clear KN; intro wx KN) | (refine ks_storeA KN 30 ?_; clear KN; intro wx KN) | (refine ks_store1 KN 22 ?_; clear KN; intro wx KN)) | ((with_reducible refine gate_new ?_ ?_); rfl; first | (refine wpList_built rfl 30 #[(0, .const (.int .i64 1)), (2, .tmp 8)] rfl #[.int .i64 1, .slice none 0 0, .slice (some ⟨g8, 0, none⟩) 2 2] (by kernel_rfl) ?_) | (refine ks_alloc KN 30 (q := 2) #[.int .i64 0, .slice none 0 0, .slice none 0 0] ?_; clear KN; intro g2 wx hg2 KN) | (refine ks_alloc KN 30 (q := 3) #[.int .i64 0, .slice none 0 0, .slice none 0 0] ?_; clear KN; intro g3 wx hg3 KN))))
  replace KN := KN.perm (List.Perm.cons _ (List.Perm.swap _ _ _))
  go_loopw [4] (fun i wr => StaR n g2 g3 g8 w i wr) (fun i _ => n - (intOf i).toNat)
  case atStart => exact ⟨0, .slice none 0 0, [], rfl, Nat.zero_le _, .nil, KN⟩
  case round =>
    clear KN
    obtain ⟨k, vm, om, rfl, hk, OW, KN⟩ := hrel
    have HO := Lib.hid OW
    obtain ⟨xa, xn, xc, rfl⟩ := OW.form3
    clear OW
    by_cases hlt : k < n
    · go_wp2_with (first | ((with_reducible refine wpList_gate ?_); first | (refine wpList_kn_lit KN (by rfl) 22 3 1 _ rfl 19 rfl Try.underlying22 #[.int .i64 (k : Int)] (by kernel_rfl) ?_; clear KN; intro g19 wx hg19 KN) | (at_builtin; refine wpList_kn_appendR (f := fun o => (g3, _) :: (g2, _) :: (g8, _) :: (om ++ o)) KN .nil (by rfl) _ _ 22 rfl 8 Try.underlying22 int_info (by decide) rfl (.slice xa xn xc) rfl _ (HO.out.row (f := fun o => (g3, _) :: (g2, _) :: (g8, _) :: o) KN (.cons _ (.cons _ (.cons _ .id)))) (intRows_len _) (intRows_one _) (by rw [List.length_map, upto_len]; unfold maxLen; simp; omega) (by rw [List.length_map, upto_len]; simp; omega) (.cons _ (.cons _ (.cons _ (.app .id _)))) (by rw [List.append_nil]) ?_; clear KN; intro v17 wx ol17 OW17 KN; have HO17 := Lib.hid OW17; clear OW17) | (at_builtin; refine wpList_kn_append1 KN HO17.out (by rfl) _ _ 22 rfl 8 Try.underlying22 (by kernel_rfl) (by decide) rfl 1 rfl rfl (by kernel_rfl) (by rw [List.nil_append, List.length_map, upto_len]; unfold maxLen; omega) (by rw [List.nil_append, List.length_map, upto_len]; omega) (f := fun o => (g3, _) :: (g2, _) :: (g8, _) :: (om ++ o)) (.cons _ (.cons _ (.cons _ (.app .id _)))) rfl ?_; clear KN; intro v20 wx ol20 OW20 KN; obtain ⟨ya, yn, yc, rfl⟩ := OW20.form3; have HO20 := Lib.hid OW20; clear OW20) | ((with_reducible refine gate_load ?_ ?_); rfl; first | (refine ks_load1 KN 22 Try.underlying22 ?_) | (refine ks_loadW KN 30 Try.underlying30 ?_)) | ((with_reducible refine gate_store ?_ ?_); rfl; first | (refine ks_storeW KN 30 ?_; clear KN; intro wx KN) | (refine ks_storeA KN 30 ?_; clear KN; intro wx KN) | (refine ks_store1 KN 22 ?_; clear KN; intro wx KN)) | ((with_reducible refine gate_new ?_ ?_); rfl; first | (refine ks_alloc KN 30 (q := 2) #[.int .i64 0, .slice none 0 0, .slice none 0 0] ?_; clear KN; intro g2 wx hg2 KN) | (refine ks_alloc KN 30 (q := 3) #[.int .i64 0, .slice none 0 0, .slice none 0 0] ?_; clear KN; intro g3 wx hg3 KN))))
      replace KN := KN.as_ g3 #[.int .i64 1, .slice ya yn yc, .slice (some ⟨g8, 0, none⟩) 2 2] (by repeat (first | exact Repl.here | apply Repl.there)) (by kernel_rfl)
      go_roundw
      case rel => exact ⟨k + 1, _, ol20, by go_num, by omega, by rw [upto_succ, ← intRows_snoc]; exact HO20.out, KN.pick (List.Sublist.cons_cons _ (List.Sublist.cons_cons _ (List.Sublist.cons_cons _ (List.sublist_append_right _ _))))⟩
      case measure => simp [intOf]; omega
    · obtain rfl : k = n := by omega
      go_wp2_with (first | ((with_reducible refine wpList_gate ?_); first | ((with_reducible refine gate_load ?_ ?_); rfl; first | (refine ks_load1 KN 22 Try.underlying22 ?_) | (refine ks_loadW KN 30 Try.underlying30 ?_)) | ((with_reducible refine gate_store ?_ ?_); rfl; first | (refine ks_storeW KN 30 ?_; clear KN; intro wx KN) | (refine ks_storeA KN 30 ?_; clear KN; intro wx KN) | (refine ks_store1 KN 22 ?_; clear KN; intro wx KN)) | ((with_reducible refine gate_new ?_ ?_); rfl; first | (refine ks_alloc KN 30 (q := 2) #[.int .i64 0, .slice none 0 0, .slice none 0 0] ?_; clear KN; intro g2 wx hg2 KN) | (refine ks_alloc KN 30 (q := 3) #[.int .i64 0, .slice none 0 0, .slice none 0 0] ?_; clear KN; intro g3 wx hg3 KN))))
      refine bodyPost_ret (results_cell_row (p := 2) Try.results17 _ _ g2 30 #[.int .i64 1, .slice xa xn xc, .slice (some ⟨g8, 0, none⟩) 2 2] (0, 0) _ rfl (KN.at_ (by repeat (first | exact Has.here | refine Has.there ?_))) Try.underlying30 rfl (by kernel_rfl)) rfl ?_
      exact ⟨_, g8, om, rfl, HO.out, (KN.drop .here).drop .here⟩
def regA : Array Value := #[.int .i64 0, .int .i64 15, .bool false, .int .i64 32768, .int .i64 15, .bool false]
set_option maxRecDepth 100000 in
theorem regions_any (w : World) : Calls Try.prog 18 #[] w fun e w' => ∃ g, e = .returned (.slice (some ⟨g, 0, none⟩) 2 2) ∧ Kn [] w w' [(g, At regA 91)] := by
  have KN := Kn.start w
  go_enter Try.func18, Try.ntmps18
  go_wp2_with (first | ((with_reducible refine wpList_gate ?_); first | (refine wpList_kn_lit KN (by rfl) 51 91 2 _ rfl 3 rfl Try.underlying51 regA (by kernel_rfl) ?_; clear KN; intro g3 wx hg3 KN) | ((with_reducible refine gate_new ?_ ?_); rfl; first | (refine wpList_built rfl 91 #[(1, .const (.int .i64 15))] rfl #[.int .i64 0, .int .i64 15, .bool false] (by kernel_rfl) ?_) | (refine wpList_built rfl 91 #[(0, .const (.int .i64 32768)), (1, .const (.int .i64 15))] rfl #[.int .i64 32768, .int .i64 15, .bool false] (by kernel_rfl) ?_))))
  go_ret
  exact ⟨g3, rfl, KN⟩
theorem region_info : (Try.prog.info? 91).map (fun i => (i.size, i.bytes, i.zero.map (·.cells.size))) = some (3, 24, some 3) := by kernel_rfl
set_option maxRecDepth 100000 in
theorem CloneRegion_any {w : World} {g : Nat} (h : BlkT w g regA 91) : Calls Try.prog 41 #[.slice (some ⟨g, 0, none⟩) 2 2] w fun e w' => ∃ a n c, e = .returned (.slice a n c) ∧ Below w.heap.size w w' := by
  have KN := Kn.start w
  have hrow : Row w (.slice (some ⟨g, 0, none⟩) 2 2) 3 [[.int .i64 0, .int .i64 15, .bool false], [.int .i64 32768, .int .i64 15, .bool false]] := Row.of_blk h rfl (by simp) rfl (by decide) (by decide)
  have HR := Lib.hid hrow
  clear hrow
  have hq : ∀ w, Sem.run Try.prog (binOp .eql 51 (.slice (some ⟨g, 0, none⟩) 2 2) (.slice none 0 0)) w = .ok (.bool false) w := fun w => Lib.run_eql_slice_nil w _ _ (some ⟨g, 0, none⟩) 2 2 0 0 Try.underlying51
  go_enter Try.func41, Try.ntmps41
  go_wp2_with (first | ((with_reducible refine wpList_gate ?_); first | (at_builtin; refine wpList_kn_appendR (f := fun o => o) KN (.blk (L := []) (cap := 0) (by decide) (by decide) (by simp)) (by rfl) _ _ 51 rfl 24 Try.underlying51 region_info (by decide) rfl _ rfl _ (HR.out.below KN.toBelow) (by simp) (by intro c hc u hu; simp at hc; rcases hc with rfl | rfl <;> (simp at hu; rcases hu with rfl | rfl | rfl <;> rfl)) (by decide) (by decide) .id rfl ?_; clear KN; intro v7 wx ol7 OW7 KN; obtain ⟨ya, yn, yc, rfl⟩ := OW7.form3; clear OW7) | ((with_reducible refine gate_new ?_ ?_); rfl; first | (refine wpList_kn_buildSlice KN (by rfl) 51 0 _ rfl 5 rfl 91 #[] (by kernel_rfl) ?_; clear KN; intro g5 wx hg5 KN; replace KN : Kn [] w wx [(g5, CapAt 91 3 0 [])] := KN.weak (fun o ho => ⟨#[], ho, rfl, rfl⟩) Repl.here))))
  go_ret
  exact ⟨_, _, _, rfl, KN.toBelow⟩
set_option maxRecDepth 100000 in
set_option maxHeartbeats 8000000 in
theorem copyView_any {w : World} {num : Int} {vm vo : Value} {mem own : List Int} (hm : Row w vm 1 (intRows mem)) (ho : Row w vo 1 (intRows own)) (h1 : mem.length ≤ 1000000) (h2 : own.length ≤ 1000000) :
    Calls Try.prog 40 #[.agg #[.int .i64 num, vm, vo]] w fun e w' => ∃ (ma : Option Addr) (mn mc : Nat) (oa : Option Addr) (on oc : Nat) (om oo : Ents), e = .returned (.agg #[.int .i64 num, .slice ma mn mc, .slice oa on oc]) ∧ OwnT 3 1 (.slice ma mn mc) (intRows mem) om ∧ OwnT 3 1 (.slice oa on oc) (intRows own) oo ∧ Kn [] w w' (om ++ oo) := by
  have KN := Kn.start w
  have HM := Lib.hid hm
  have HO := Lib.hid ho
  have H1 := Lib.hid h1
  have H2 := Lib.hid h2
  obtain ⟨xa, xc, rfl, _⟩ := ints_form hm
  obtain ⟨ya, yc, rfl, _⟩ := ints_form ho
  clear hm ho h1 h2
  go_enter Try.func40, Try.ntmps40
  go_upto_region 1 with (first | ((with_reducible refine wpList_gate ?_); first | ((with_reducible refine gate_load ?_ ?_); rfl; first | (refine ks_load1 KN 22 Try.underlying22 ?_) | (refine ks_loadW KN 30 Try.underlying30 ?_)) | ((with_reducible refine gate_store ?_ ?_); rfl; first | (refine ks_store1 KN 22 ?_; clear KN; intro wx KN) | (refine ks_storeW KN 30 ?_; clear KN; intro wx KN) | (refine ks_storeA KN 30 ?_; clear KN; intro wx KN)) | ((with_reducible refine gate_new ?_ ?_); rfl; first | (refine ks_boxA KN 30 (q := 1) ?_; clear KN; intro g1 wx hg1 KN) | (refine ks_alloc KN 30 (q := 2) #[.int .i64 0, .slice none 0 0, .slice none 0 0] ?_; clear KN; intro g2 wx hg2 KN))))
  (try go_frame)
  replace KN := KN.drew
  obtain ⟨mn0, hmn⟩ : ∃ n, n = mem.length := ⟨_, rfl⟩
  obtain ⟨on0, hon⟩ : ∃ n, n = own.length := ⟨_, rfl⟩
  rw [← hmn] at KN HM
  rw [← hon] at KN HO
  rw [← hmn, ← hon]
  clear hmn hon
  refine wp_region_held_drew (S := (fun _ => True)) (by kernel_rfl) ?cvhS (fun hHeld => ?cvrest)
  case cvhS => exact trivial
  refine wpAnyH_take (i := 0) (oi := ⟨some 3, _, _, _, _, _⟩) (v := ?cvv0) rfl (by kernel_rfl) (by kernel_rfl) (by kernel_rfl) (fun _ _ _ h => h) (Or.inl ⟨by rfl, ?cvhy0⟩) hHeld ?cvr0
  case cvhy0 => (intro w hSw; (try dsimp only at hSw); go_simp; (try with_reducible rfl))
  (try simp only [Act.put, List.setIfInBounds_toArray, List.set_cons_zero, List.set_cons_succ])
  refine wpAnyH_take (i := 3) (oi := ⟨some 6, _, _, _, _, _⟩) (v := ?cvv3) rfl (by kernel_rfl) (by kernel_rfl) (by kernel_rfl) (fun _ _ _ h => h) (Or.inl ⟨by rfl, ?cvhy3⟩) hHeld ?cvr3
  case cvhy3 => (intro w hSw; (try dsimp only at hSw); go_simp; (try with_reducible rfl))
  (try simp only [Act.put, List.setIfInBounds_toArray, List.set_cons_zero, List.set_cons_succ])
  refine wpAnyH_ready (rs := [1, 4]) (by kernel_rfl) (by simp) ?cvc1_4
  refine (AllReadyH.cons (o := ⟨some 4, _, _, _, _, _⟩) rfl (fun K hK => ?cvst1) (AllReadyH.cons (o := ⟨some 7, _, _, _, _, _⟩) rfl (fun K hK => ?cvst4) AllReadyH.nil))
  case cvst1 =>
    (rw [if_pos (by rfl)]; refine wp_kn_load1 KN 22 _ rfl g1 1 rfl _ 30 (by repeat (first | exact Has.here | refine Has.there ?_)) (.slice xa mn0 xc) rfl _ Try.underlying22 rfl ?_)
    refine hK.out _ _ ?cv1xk1 (fun hHeld2 => ?cv1xm1)
    case cv1xk1 => exact trivial
    clear hK K hHeld
    have hHeld := hHeld2; clear hHeld2
    (try simp only [Act.put, List.setIfInBounds_toArray, List.set_cons_zero, List.set_cons_succ])
    refine wpAnyH_ready (rs := [2, 4]) (by kernel_rfl) (by simp) ?cv1xc2_4
    refine (AllReadyH.cons (o := ⟨some 5, _, _, _, _, _⟩) rfl (fun K hK => ?cv1xst2) (AllReadyH.cons (o := ⟨some 7, _, _, _, _, _⟩) rfl (fun K hK => ?cv1xst4) AllReadyH.nil))
    case cv1xst2 =>
      go_simp
      (refine (Clone_any (HM.out.below KN.toBelow) H1.out).mono ?_; rintro e wx ⟨v1, ol1, rfl, O1, K2, _⟩; obtain ⟨ma, mn, mc, rfl⟩ := O1.form3; have HO1 := Lib.hid O1; replace KN := (KN.call0 K2).perm List.perm_append_comm; simp only [List.cons_append, List.nil_append] at KN; clear K2 O1)
      refine hK.out _ _ ?cv1x2xk2 (fun hHeld2 => ?cv1x2xm2)
      case cv1x2xk2 => exact trivial
      clear hK K hHeld
      have hHeld := hHeld2; clear hHeld2
      (try simp only [Act.put, List.setIfInBounds_toArray, List.set_cons_zero, List.set_cons_succ])
      refine wpAnyH_ready (rs := [4]) (by kernel_rfl) (by simp) ?cv1x2xc4
      refine AllReadyH.cons (o := ⟨some 7, _, _, _, _, _⟩) rfl (fun K hK => ?cv1x2xst4) AllReadyH.nil
      (rw [if_pos (by rfl)]; refine wp_kn_load1 KN 22 _ rfl g1 2 rfl _ 30 (by repeat (first | exact Has.here | refine Has.there ?_)) (.slice ya on0 yc) rfl _ Try.underlying22 rfl ?_)
      refine hK.out _ _ ?cv1x2xk4 (fun hHeld2 => ?cv1x2xm4)
      case cv1x2xk4 => exact trivial
      clear hK K hHeld
      have hHeld := hHeld2; clear hHeld2
      (try simp only [Act.put, List.setIfInBounds_toArray, List.set_cons_zero, List.set_cons_succ])
      refine wpAnyH_take (i := 6) (oi := ⟨some 9, _, _, _, _, _⟩) (v := ?cv1x2xv6) rfl (by kernel_rfl) (by kernel_rfl) (by kernel_rfl) (fun _ _ _ h => h) (Or.inl ⟨by rfl, ?cv1x2xhy6⟩) hHeld ?cv1x2xr6
      case cv1x2xhy6 => (intro w hSw; (try dsimp only at hSw); go_simp; (try with_reducible rfl))
      (try simp only [Act.put, List.setIfInBounds_toArray, List.set_cons_zero, List.set_cons_succ])
      refine wpAnyH_ready (rs := [5]) (by kernel_rfl) (by simp) ?cv1x2xc5
      refine AllReadyH.cons (o := ⟨some 8, _, _, _, _, _⟩) rfl (fun K hK => ?cv1x2xst5) AllReadyH.nil
      go_simp
      (refine (Clone_any (HO.out.below KN.toBelow) H2.out).mono ?_; rintro e wx ⟨v1, ol2, rfl, O1, K2, _⟩; obtain ⟨oa, on, oc, rfl⟩ := O1.form3; have HO2 := Lib.hid O1; replace KN := (KN.call0 K2).perm List.perm_append_comm; simp only [List.cons_append, List.nil_append] at KN; clear K2 O1)
      refine hK.out _ _ ?cv1x2xk5 (fun hHeld2 => ?cv1x2xm5)
      case cv1x2xk5 => exact trivial
      clear hK K hHeld
      have hHeld := hHeld2; clear hHeld2
      (try simp only [Act.put, List.setIfInBounds_toArray, List.set_cons_zero, List.set_cons_succ])
      refine wpAnyH_ready (rs := [7]) (by kernel_rfl) (by simp) ?cv1x2xc7
      refine AllReadyH.cons (o := ⟨none, _, _, _, _, _⟩) rfl (fun K hK => ?cv1x2xst7) AllReadyH.nil
      (rw [if_pos (by rfl)]; refine wp_kn_store1 KN 22 _ _ rfl g1 1 rfl (.slice ma mn mc) rfl rfl _ 30 (by repeat (first | exact Repl.here | apply Repl.there)) (by (try simp only [Array.size_setIfInBounds, putL_size]); first | exact Nat.le_of_ble_eq_true rfl | (simp; omega)) (by kernel_rfl) (by rfl) ?_; clear KN; intro wx KN)
      refine hK.out _ _ ?cv1x2xk7 (fun hHeld2 => ?cv1x2xm7)
      case cv1x2xk7 => exact trivial
      clear hK K hHeld
      have hHeld := hHeld2; clear hHeld2
      (try simp only [Act.put, List.setIfInBounds_toArray, List.set_cons_zero, List.set_cons_succ])
      refine wpAnyH_take (i := 8) (oi := ⟨some 10, _, _, _, _, _⟩) (v := ?cv1x2xv8) rfl (by kernel_rfl) (by kernel_rfl) (by kernel_rfl) (fun _ _ _ h => h) (Or.inl ⟨by rfl, ?cv1x2xhy8⟩) hHeld ?cv1x2xr8
      case cv1x2xhy8 => (intro w hSw; (try dsimp only at hSw); go_simp; (try with_reducible rfl))
      (try simp only [Act.put, List.setIfInBounds_toArray, List.set_cons_zero, List.set_cons_succ])
      refine wpAnyH_ready (rs := [9]) (by kernel_rfl) (by simp) ?cv1x2xc9
      refine AllReadyH.cons (o := ⟨none, _, _, _, _, _⟩) rfl (fun K hK => ?cv1x2xst9) AllReadyH.nil
      (rw [if_pos (by rfl)]; refine wp_kn_store1 KN 22 _ _ rfl g1 2 rfl (.slice oa on oc) rfl rfl _ 30 (by repeat (first | exact Repl.here | apply Repl.there)) (by (try simp only [Array.size_setIfInBounds, putL_size]); first | exact Nat.le_of_ble_eq_true rfl | (simp; omega)) (by kernel_rfl) (by rfl) ?_; clear KN; intro wx KN)
      refine hK.out _ _ ?cv1x2xk9 (fun hHeld2 => ?cv1x2xm9)
      case cv1x2xk9 => exact trivial
      clear hK K hHeld
      have hHeld := hHeld2; clear hHeld2
      (try simp only [Act.put, List.setIfInBounds_toArray, List.set_cons_zero, List.set_cons_succ])
      refine wpAnyH_done (by kernel_rfl) ?cv1x2xdone _
      replace KN := KN.as_ g1 #[.int .i64 num, .slice ma mn mc, .slice oa on oc] (by repeat (first | exact Repl.here | apply Repl.there)) (by kernel_rfl)
      go_wp2_with (first | ((with_reducible refine wpList_gate ?_); first | ((with_reducible refine gate_load ?_ ?_); rfl; first | (refine ks_load1 KN 22 Try.underlying22 ?_) | (refine ks_loadW KN 30 Try.underlying30 ?_)) | ((with_reducible refine gate_store ?_ ?_); rfl; first | (refine ks_store1 KN 22 ?_; clear KN; intro wx KN) | (refine ks_storeW KN 30 ?_; clear KN; intro wx KN) | (refine ks_storeA KN 30 ?_; clear KN; intro wx KN)) | ((with_reducible refine gate_new ?_ ?_); rfl; first | (refine ks_boxA KN 30 (q := 1) ?_; clear KN; intro g1 wx hg1 KN) | (refine ks_alloc KN 30 (q := 2) #[.int .i64 0, .slice none 0 0, .slice none 0 0] ?_; clear KN; intro g2 wx hg2 KN))))
      refine bodyPost_ret (results_cell_row (p := 2) Try.results40 _ _ g2 30 #[.int .i64 num, .slice ma mn mc, .slice oa on oc] (0, 0) _ rfl (KN.at_ (by repeat (first | exact Has.here | refine Has.there ?_))) Try.underlying30 rfl (by kernel_rfl)) rfl ?_
      exact ⟨_, _, _, _, _, _, ol1, ol2, rfl, HO1.out, HO2.out, (by first | exact (KN.drop .here).drop .here | exact ((KN.drop .here).drop .here).perm List.perm_append_comm)⟩
    case cv1xst4 =>
      (rw [if_pos (by rfl)]; refine wp_kn_load1 KN 22 _ rfl g1 2 rfl _ 30 (by repeat (first | exact Has.here | refine Has.there ?_)) (.slice ya on0 yc) rfl _ Try.underlying22 rfl ?_)
      refine hK.out _ _ ?cv1x4xk4 (fun hHeld2 => ?cv1x4xm4)
      case cv1x4xk4 => exact trivial
      clear hK K hHeld
      have hHeld := hHeld2; clear hHeld2
      (try simp only [Act.put, List.setIfInBounds_toArray, List.set_cons_zero, List.set_cons_succ])
      refine wpAnyH_ready (rs := [2]) (by kernel_rfl) (by simp) ?cv1x4xc2
      refine AllReadyH.cons (o := ⟨some 5, _, _, _, _, _⟩) rfl (fun K hK => ?cv1x4xst2) AllReadyH.nil
      go_simp
      (refine (Clone_any (HM.out.below KN.toBelow) H1.out).mono ?_; rintro e wx ⟨v1, ol1, rfl, O1, K2, _⟩; obtain ⟨ma, mn, mc, rfl⟩ := O1.form3; have HO1 := Lib.hid O1; replace KN := (KN.call0 K2).perm List.perm_append_comm; simp only [List.cons_append, List.nil_append] at KN; clear K2 O1)
      refine hK.out _ _ ?cv1x4xk2 (fun hHeld2 => ?cv1x4xm2)
      case cv1x4xk2 => exact trivial
      clear hK K hHeld
      have hHeld := hHeld2; clear hHeld2
      (try simp only [Act.put, List.setIfInBounds_toArray, List.set_cons_zero, List.set_cons_succ])
      refine wpAnyH_take (i := 6) (oi := ⟨some 9, _, _, _, _, _⟩) (v := ?cv1x4xv6) rfl (by kernel_rfl) (by kernel_rfl) (by kernel_rfl) (fun _ _ _ h => h) (Or.inl ⟨by rfl, ?cv1x4xhy6⟩) hHeld ?cv1x4xr6
      case cv1x4xhy6 => (intro w hSw; (try dsimp only at hSw); go_simp; (try with_reducible rfl))
      (try simp only [Act.put, List.setIfInBounds_toArray, List.set_cons_zero, List.set_cons_succ])
      refine wpAnyH_ready (rs := [5]) (by kernel_rfl) (by simp) ?cv1x4xc5
      refine AllReadyH.cons (o := ⟨some 8, _, _, _, _, _⟩) rfl (fun K hK => ?cv1x4xst5) AllReadyH.nil
      go_simp
      (refine (Clone_any (HO.out.below KN.toBelow) H2.out).mono ?_; rintro e wx ⟨v1, ol2, rfl, O1, K2, _⟩; obtain ⟨oa, on, oc, rfl⟩ := O1.form3; have HO2 := Lib.hid O1; replace KN := (KN.call0 K2).perm List.perm_append_comm; simp only [List.cons_append, List.nil_append] at KN; clear K2 O1)
      refine hK.out _ _ ?cv1x4xk5 (fun hHeld2 => ?cv1x4xm5)
      case cv1x4xk5 => exact trivial
      clear hK K hHeld
      have hHeld := hHeld2; clear hHeld2
      (try simp only [Act.put, List.setIfInBounds_toArray, List.set_cons_zero, List.set_cons_succ])
      refine wpAnyH_ready (rs := [7]) (by kernel_rfl) (by simp) ?cv1x4xc7
      refine AllReadyH.cons (o := ⟨none, _, _, _, _, _⟩) rfl (fun K hK => ?cv1x4xst7) AllReadyH.nil
      (rw [if_pos (by rfl)]; refine wp_kn_store1 KN 22 _ _ rfl g1 1 rfl (.slice ma mn mc) rfl rfl _ 30 (by repeat (first | exact Repl.here | apply Repl.there)) (by (try simp only [Array.size_setIfInBounds, putL_size]); first | exact Nat.le_of_ble_eq_true rfl | (simp; omega)) (by kernel_rfl) (by rfl) ?_; clear KN; intro wx KN)
      refine hK.out _ _ ?cv1x4xk7 (fun hHeld2 => ?cv1x4xm7)
      case cv1x4xk7 => exact trivial
      clear hK K hHeld
      have hHeld := hHeld2; clear hHeld2
      (try simp only [Act.put, List.setIfInBounds_toArray, List.set_cons_zero, List.set_cons_succ])
      refine wpAnyH_take (i := 8) (oi := ⟨some 10, _, _, _, _, _⟩) (v := ?cv1x4xv8) rfl (by kernel_rfl) (by kernel_rfl) (by kernel_rfl) (fun _ _ _ h => h) (Or.inl ⟨by rfl, ?cv1x4xhy8⟩) hHeld ?cv1x4xr8
      case cv1x4xhy8 => (intro w hSw; (try dsimp only at hSw); go_simp; (try with_reducible rfl))
      (try simp only [Act.put, List.setIfInBounds_toArray, List.set_cons_zero, List.set_cons_succ])
      refine wpAnyH_ready (rs := [9]) (by kernel_rfl) (by simp) ?cv1x4xc9
      refine AllReadyH.cons (o := ⟨none, _, _, _, _, _⟩) rfl (fun K hK => ?cv1x4xst9) AllReadyH.nil
      (rw [if_pos (by rfl)]; refine wp_kn_store1 KN 22 _ _ rfl g1 2 rfl (.slice oa on oc) rfl rfl _ 30 (by repeat (first | exact Repl.here | apply Repl.there)) (by (try simp only [Array.size_setIfInBounds, putL_size]); first | exact Nat.le_of_ble_eq_true rfl | (simp; omega)) (by kernel_rfl) (by rfl) ?_; clear KN; intro wx KN)
      refine hK.out _ _ ?cv1x4xk9 (fun hHeld2 => ?cv1x4xm9)
      case cv1x4xk9 => exact trivial
      clear hK K hHeld
      have hHeld := hHeld2; clear hHeld2
      (try simp only [Act.put, List.setIfInBounds_toArray, List.set_cons_zero, List.set_cons_succ])
      refine wpAnyH_done (by kernel_rfl) ?cv1x4xdone _
      replace KN := KN.as_ g1 #[.int .i64 num, .slice ma mn mc, .slice oa on oc] (by repeat (first | exact Repl.here | apply Repl.there)) (by kernel_rfl)
      go_wp2_with (first | ((with_reducible refine wpList_gate ?_); first | ((with_reducible refine gate_load ?_ ?_); rfl; first | (refine ks_load1 KN 22 Try.underlying22 ?_) | (refine ks_loadW KN 30 Try.underlying30 ?_)) | ((with_reducible refine gate_store ?_ ?_); rfl; first | (refine ks_store1 KN 22 ?_; clear KN; intro wx KN) | (refine ks_storeW KN 30 ?_; clear KN; intro wx KN) | (refine ks_storeA KN 30 ?_; clear KN; intro wx KN)) | ((with_reducible refine gate_new ?_ ?_); rfl; first | (refine ks_boxA KN 30 (q := 1) ?_; clear KN; intro g1 wx hg1 KN) | (refine ks_alloc KN 30 (q := 2) #[.int .i64 0, .slice none 0 0, .slice none 0 0] ?_; clear KN; intro g2 wx hg2 KN))))
      refine bodyPost_ret (results_cell_row (p := 2) Try.results40 _ _ g2 30 #[.int .i64 num, .slice ma mn mc, .slice oa on oc] (0, 0) _ rfl (KN.at_ (by repeat (first | exact Has.here | refine Has.there ?_))) Try.underlying30 rfl (by kernel_rfl)) rfl ?_
      exact ⟨_, _, _, _, _, _, ol1, ol2, rfl, HO1.out, HO2.out, (by first | exact (KN.drop .here).drop .here | exact ((KN.drop .here).drop .here).perm List.perm_append_comm)⟩
  case cvst4 =>
    (rw [if_pos (by rfl)]; refine wp_kn_load1 KN 22 _ rfl g1 2 rfl _ 30 (by repeat (first | exact Has.here | refine Has.there ?_)) (.slice ya on0 yc) rfl _ Try.underlying22 rfl ?_)
    refine hK.out _ _ ?cv4xk4 (fun hHeld2 => ?cv4xm4)
    case cv4xk4 => exact trivial
    clear hK K hHeld
    have hHeld := hHeld2; clear hHeld2
    (try simp only [Act.put, List.setIfInBounds_toArray, List.set_cons_zero, List.set_cons_succ])
    refine wpAnyH_ready (rs := [1]) (by kernel_rfl) (by simp) ?cv4xc1
    refine AllReadyH.cons (o := ⟨some 4, _, _, _, _, _⟩) rfl (fun K hK => ?cv4xst1) AllReadyH.nil
    (rw [if_pos (by rfl)]; refine wp_kn_load1 KN 22 _ rfl g1 1 rfl _ 30 (by repeat (first | exact Has.here | refine Has.there ?_)) (.slice xa mn0 xc) rfl _ Try.underlying22 rfl ?_)
    refine hK.out _ _ ?cv4xk1 (fun hHeld2 => ?cv4xm1)
    case cv4xk1 => exact trivial
    clear hK K hHeld
    have hHeld := hHeld2; clear hHeld2
    (try simp only [Act.put, List.setIfInBounds_toArray, List.set_cons_zero, List.set_cons_succ])
    refine wpAnyH_ready (rs := [2]) (by kernel_rfl) (by simp) ?cv4xc2
    refine AllReadyH.cons (o := ⟨some 5, _, _, _, _, _⟩) rfl (fun K hK => ?cv4xst2) AllReadyH.nil
    go_simp
    (refine (Clone_any (HM.out.below KN.toBelow) H1.out).mono ?_; rintro e wx ⟨v1, ol1, rfl, O1, K2, _⟩; obtain ⟨ma, mn, mc, rfl⟩ := O1.form3; have HO1 := Lib.hid O1; replace KN := (KN.call0 K2).perm List.perm_append_comm; simp only [List.cons_append, List.nil_append] at KN; clear K2 O1)
    refine hK.out _ _ ?cv4xk2 (fun hHeld2 => ?cv4xm2)
    case cv4xk2 => exact trivial
    clear hK K hHeld
    have hHeld := hHeld2; clear hHeld2
    (try simp only [Act.put, List.setIfInBounds_toArray, List.set_cons_zero, List.set_cons_succ])
    refine wpAnyH_take (i := 6) (oi := ⟨some 9, _, _, _, _, _⟩) (v := ?cv4xv6) rfl (by kernel_rfl) (by kernel_rfl) (by kernel_rfl) (fun _ _ _ h => h) (Or.inl ⟨by rfl, ?cv4xhy6⟩) hHeld ?cv4xr6
    case cv4xhy6 => (intro w hSw; (try dsimp only at hSw); go_simp; (try with_reducible rfl))
    (try simp only [Act.put, List.setIfInBounds_toArray, List.set_cons_zero, List.set_cons_succ])
    refine wpAnyH_ready (rs := [5]) (by kernel_rfl) (by simp) ?cv4xc5
    refine AllReadyH.cons (o := ⟨some 8, _, _, _, _, _⟩) rfl (fun K hK => ?cv4xst5) AllReadyH.nil
    go_simp
    (refine (Clone_any (HO.out.below KN.toBelow) H2.out).mono ?_; rintro e wx ⟨v1, ol2, rfl, O1, K2, _⟩; obtain ⟨oa, on, oc, rfl⟩ := O1.form3; have HO2 := Lib.hid O1; replace KN := (KN.call0 K2).perm List.perm_append_comm; simp only [List.cons_append, List.nil_append] at KN; clear K2 O1)
    refine hK.out _ _ ?cv4xk5 (fun hHeld2 => ?cv4xm5)
    case cv4xk5 => exact trivial
    clear hK K hHeld
    have hHeld := hHeld2; clear hHeld2
    (try simp only [Act.put, List.setIfInBounds_toArray, List.set_cons_zero, List.set_cons_succ])
    refine wpAnyH_ready (rs := [7]) (by kernel_rfl) (by simp) ?cv4xc7
    refine AllReadyH.cons (o := ⟨none, _, _, _, _, _⟩) rfl (fun K hK => ?cv4xst7) AllReadyH.nil
    (rw [if_pos (by rfl)]; refine wp_kn_store1 KN 22 _ _ rfl g1 1 rfl (.slice ma mn mc) rfl rfl _ 30 (by repeat (first | exact Repl.here | apply Repl.there)) (by (try simp only [Array.size_setIfInBounds, putL_size]); first | exact Nat.le_of_ble_eq_true rfl | (simp; omega)) (by kernel_rfl) (by rfl) ?_; clear KN; intro wx KN)
    refine hK.out _ _ ?cv4xk7 (fun hHeld2 => ?cv4xm7)
    case cv4xk7 => exact trivial
    clear hK K hHeld
    have hHeld := hHeld2; clear hHeld2
    (try simp only [Act.put, List.setIfInBounds_toArray, List.set_cons_zero, List.set_cons_succ])
    refine wpAnyH_take (i := 8) (oi := ⟨some 10, _, _, _, _, _⟩) (v := ?cv4xv8) rfl (by kernel_rfl) (by kernel_rfl) (by kernel_rfl) (fun _ _ _ h => h) (Or.inl ⟨by rfl, ?cv4xhy8⟩) hHeld ?cv4xr8
    case cv4xhy8 => (intro w hSw; (try dsimp only at hSw); go_simp; (try with_reducible rfl))
    (try simp only [Act.put, List.setIfInBounds_toArray, List.set_cons_zero, List.set_cons_succ])
    refine wpAnyH_ready (rs := [9]) (by kernel_rfl) (by simp) ?cv4xc9
    refine AllReadyH.cons (o := ⟨none, _, _, _, _, _⟩) rfl (fun K hK => ?cv4xst9) AllReadyH.nil
    (rw [if_pos (by rfl)]; refine wp_kn_store1 KN 22 _ _ rfl g1 2 rfl (.slice oa on oc) rfl rfl _ 30 (by repeat (first | exact Repl.here | apply Repl.there)) (by (try simp only [Array.size_setIfInBounds, putL_size]); first | exact Nat.le_of_ble_eq_true rfl | (simp; omega)) (by kernel_rfl) (by rfl) ?_; clear KN; intro wx KN)
    refine hK.out _ _ ?cv4xk9 (fun hHeld2 => ?cv4xm9)
    case cv4xk9 => exact trivial
    clear hK K hHeld
    have hHeld := hHeld2; clear hHeld2
    (try simp only [Act.put, List.setIfInBounds_toArray, List.set_cons_zero, List.set_cons_succ])
    refine wpAnyH_done (by kernel_rfl) ?cv4xdone _
    replace KN := KN.as_ g1 #[.int .i64 num, .slice ma mn mc, .slice oa on oc] (by repeat (first | exact Repl.here | apply Repl.there)) (by kernel_rfl)
    go_wp2_with (first | ((with_reducible refine wpList_gate ?_); first | ((with_reducible refine gate_load ?_ ?_); rfl; first | (refine ks_load1 KN 22 Try.underlying22 ?_) | (refine ks_loadW KN 30 Try.underlying30 ?_)) | ((with_reducible refine gate_store ?_ ?_); rfl; first | (refine ks_store1 KN 22 ?_; clear KN; intro wx KN) | (refine ks_storeW KN 30 ?_; clear KN; intro wx KN) | (refine ks_storeA KN 30 ?_; clear KN; intro wx KN)) | ((with_reducible refine gate_new ?_ ?_); rfl; first | (refine ks_boxA KN 30 (q := 1) ?_; clear KN; intro g1 wx hg1 KN) | (refine ks_alloc KN 30 (q := 2) #[.int .i64 0, .slice none 0 0, .slice none 0 0] ?_; clear KN; intro g2 wx hg2 KN))))
    refine bodyPost_ret (results_cell_row (p := 2) Try.results40 _ _ g2 30 #[.int .i64 num, .slice ma mn mc, .slice oa on oc] (0, 0) _ rfl (KN.at_ (by repeat (first | exact Has.here | refine Has.there ?_))) Try.underlying30 rfl (by kernel_rfl)) rfl ?_
    exact ⟨_, _, _, _, _, _, ol1, ol2, rfl, HO1.out, HO2.out, (by first | exact (KN.drop .here).drop .here | exact ((KN.drop .here).drop .here).perm List.perm_append_comm)⟩
end Go.Proofs.Ytpjejaoobbancaa
