/- The maker of reports; the law's list of them. -/
import Derived.Test.YtpjejaoobbancaaPkMkState
set_option linter.unusedVariables false
set_option linter.unusedSimpArgs false
set_option linter.unusedSectionVars false
namespace Go.Proofs.Ytpjejaoobbancaa
open Go.RowKit Go.BigFrame

/-- A slice, by its parts. -/
structure SL where
  a : Option Addr
  n : Nat
  c : Nat
def SL.v (s : SL) : Value := .slice s.a s.n s.c
def SL.nil : SL := ⟨none, 0, 0⟩
structure Rep where
  core : Int
  view : Vw
  ready : Bool
  next : Vw
def mkReport (zs : List Int) : Rep := ⟨at0 zs 0 % 4, mkView (zs.drop 1), at0 zs 3 % 2 == 1, if (at0 zs 3 % 2 == 1) = true then mkView (zs.drop 4) else ⟨0, [], []⟩⟩
def repA (core num : Int) (m o s0 s2 s3 : SL) (rd : Bool) (nn : Int) (nm no p0 p2 p3 : SL) : Array Value :=
  #[.int .i64 core, .int .i64 num, m.v, o.v, s0.v, .slice none 0 0, s2.v, s3.v, .slice none 0 0, .slice none 0 0, .bool rd, .int .i64 nn, nm.v, no.v, p0.v, .slice none 0 0, p2.v, p3.v, .slice none 0 0, .slice none 0 0]
def repZ : Array Value := repA 0 0 .nil .nil .nil .nil .nil false 0 .nil .nil .nil .nil .nil
/-- The cells of a report; the entries of the slices in it that are told. -/
def RepC (r : Rep) (cs : Array Value) (inner : Ents) : Prop :=
  ∃ (m o s0 s2 s3 nm no p0 p2 p3 : SL) (om oo pm po : Ents), cs = repA r.core r.view.num m o s0 s2 s3 r.ready r.next.num nm no p0 p2 p3 ∧ OwnT 3 1 m.v (intRows r.view.mem) om ∧ OwnT 3 1 o.v (intRows r.view.own) oo ∧
    OwnT 3 1 nm.v (intRows r.next.mem) pm ∧ OwnT 3 1 no.v (intRows r.next.own) po ∧ inner = (om ++ oo) ++ (pm ++ po)
set_option maxRecDepth 100000 in
set_option maxHeartbeats 8000000 in
theorem Report_any {v : Value} {zs : List Int} {w : World} (h : Ints w v zs) :
    Calls Try.prog 23 #[v, .slice none 0 0] w fun e w' => ∃ cs inner, e = .returned (.agg cs) ∧ RepC (mkReport zs) cs inner ∧ Kn [] w w' inner := by
  have KN := Kn.start w
  have HI := Lib.hid h
  have HZ : Hid (I64s zs) := Lib.hid h.2
  obtain ⟨core, hcore⟩ : ∃ c, c = at0 zs 0 % 4 := ⟨_, rfl⟩
  have HCO := Lib.hid hcore
  obtain ⟨V1, hV1⟩ : ∃ V, V = mkView (zs.drop 1) := ⟨_, rfl⟩
  obtain ⟨V2, hV2⟩ : ∃ V, V = mkView (zs.drop 4) := ⟨_, rfl⟩
  have HV1 : Hid (V1 = mkView (zs.drop (1 : Int).toNat)) := Lib.hid hV1
  have HV2 : Hid (V2 = mkView (zs.drop (4 : Int).toNat)) := Lib.hid hV2
  unfold mkReport
  rw [← hcore, ← hV1, ← hV2]
  clear h hcore hV1 hV2
  go_enter Try.func23, Try.ntmps23
  go_upto_region 2 with (first | (go_at_call 49; refine (At_any (HI.out.below KN.toBelow).1 _ (by omega) (by omega)).mono ?_; rintro e wx ⟨rfl, rfl⟩) | (go_at_call 9; refine (MPlace_any _ _ _ (at0_bd HZ.out _).1 (at0_bd HZ.out _).2 (by omega) (by omega)).mono ?_; rintro e wx ⟨rfl, rfl⟩; rw [← HCO.out]) | (go_at_call 24; refine (After_any (HI.out.below KN.toBelow).1 _ (by omega) (by omega)).mono ?_; rintro e wx ⟨va, rfl, hva, rfl⟩; have HVA := Lib.hid hva; clear hva) | (go_at_call 50; refine (View_any ⟨HVA.out, HZ.out.drop _⟩).mono ?_; rw [← HV1.out]; rintro e wx ⟨vm, vo, om, oo, rfl, O1, O2, K2⟩; obtain ⟨ma, mn, mc, rfl⟩ := O1.form3; obtain ⟨oa, on, oc, rfl⟩ := O2.form3; have HO1 := Lib.hid O1; have HO2 := Lib.hid O2; clear O1 O2; replace KN := (KN.call0 K2).perm List.perm_append_comm; clear K2; simp only [List.cons_append, List.nil_append] at KN; clear HVA) | ((with_reducible refine wpList_gate ?_); first | ((with_reducible refine gate_load ?_ ?_); rfl; first | (refine ks_load1 KN 3 Try.underlying3 ?_) | (refine ks_loadW KN 40 Try.underlying40 ?_)) | ((with_reducible refine gate_store ?_ ?_); rfl; first | (refine ks_storeW KN 40 ?_; clear KN; intro wx KN) | (refine ks_storeA KN 40 ?_; clear KN; intro wx KN) | (refine ks_storeW KN 38 ?_; clear KN; intro wx KN) | (refine ks_storeA KN 38 ?_; clear KN; intro wx KN) | (refine ks_store1 KN 4 ?_; clear KN; intro wx KN) | (refine ks_storeW KN 30 ?_; clear KN; intro wx KN) | (refine ks_storeA KN 30 ?_; clear KN; intro wx KN)) | ((with_reducible refine gate_new ?_ ?_); rfl; first | (refine wpList_built rfl 40 #[(0, .tmp 8), (1, .tmp 11)] rfl (repA core V1.num ⟨ma, mn, mc⟩ ⟨oa, on, oc⟩ .nil .nil .nil false 0 .nil .nil .nil .nil .nil) (by kernel_rfl) ?_) | (refine ks_alloc KN 40 (q := 4) #[.int .i64 0, .int .i64 0, .slice none 0 0, .slice none 0 0, .slice none 0 0, .slice none 0 0, .slice none 0 0, .slice none 0 0, .slice none 0 0, .slice none 0 0, .bool false, .int .i64 0, .slice none 0 0, .slice none 0 0, .slice none 0 0, .slice none 0 0, .slice none 0 0, .slice none 0 0, .slice none 0 0, .slice none 0 0] ?_; clear KN; intro g4 wx hg4 KN) | (refine ks_alloc KN 40 (q := 5) #[.int .i64 0, .int .i64 0, .slice none 0 0, .slice none 0 0, .slice none 0 0, .slice none 0 0, .slice none 0 0, .slice none 0 0, .slice none 0 0, .slice none 0 0, .bool false, .int .i64 0, .slice none 0 0, .slice none 0 0, .slice none 0 0, .slice none 0 0, .slice none 0 0, .slice none 0 0, .slice none 0 0, .slice none 0 0] ?_; clear KN; intro g5 wx hg5 KN))))
  (try go_frame)
  replace KN := KN.as_ g4 repZ (by repeat (first | exact Repl.here | apply Repl.there)) (by kernel_rfl)
  obtain ⟨m, hm⟩ : ∃ m : SL, m = ⟨ma, mn, mc⟩ := ⟨_, rfl⟩
  obtain ⟨o, ho⟩ : ∃ o : SL, o = ⟨oa, on, oc⟩ := ⟨_, rfl⟩
  rw [← hm, ← ho] at KN
  rw [show Value.slice ma mn mc = m.v from by rw [hm]; rfl] at HO1
  rw [show Value.slice oa on oc = o.v from by rw [ho]; rfl] at HO2
  replace KN := KN.drew
  refine wp_region_held_drew (S := (fun w' => w'.cell? ⟨g5, 0, none⟩ = some (.int .i64 core))) (by kernel_rfl) ?qahS (fun hHeld => ?qarest)
  case qahS => exact KN.cell (g := g5) (o := 0) (by repeat (first | exact Has.here | refine Has.there ?_)) rfl
  refine wpAnyH_take (i := 0) (oi := ⟨some 13, _, _, _, _, _⟩) (v := ?qav0) rfl (by kernel_rfl) (by kernel_rfl) (by kernel_rfl) (fun _ _ _ h => h) (Or.inl ⟨by rfl, ?qahy0⟩) hHeld ?qar0
  case qahy0 => (intro w hSw; (try dsimp only at hSw); go_simp; (try with_reducible rfl))
  (try simp only [Act.put, List.setIfInBounds_toArray, List.set_cons_zero, List.set_cons_succ])
  refine wpAnyH_take (i := 2) (oi := ⟨some 15, _, _, _, _, _⟩) (v := ?qav2) rfl (by kernel_rfl) (by kernel_rfl) (by kernel_rfl) (fun _ _ _ h => h) (Or.inl ⟨by rfl, ?qahy2⟩) hHeld ?qar2
  case qahy2 => (intro w hSw; (try dsimp only at hSw); go_simp; (try with_reducible rfl))
  (try simp only [Act.put, List.setIfInBounds_toArray, List.set_cons_zero, List.set_cons_succ])
  refine wpAnyH_take (i := 3) (oi := ⟨some 16, _, _, _, _, _⟩) (v := ?qav3) rfl (by kernel_rfl) (by kernel_rfl) (by kernel_rfl) (fun _ _ _ h => h) (Or.inl ⟨by rfl, ?qahy3⟩) hHeld ?qar3
  case qahy3 => (intro w hSw; (try dsimp only at hSw); go_simp; (try with_reducible rfl))
  (try simp only [Act.put, List.setIfInBounds_toArray, List.set_cons_zero, List.set_cons_succ])
  refine wpAnyH_take (i := 4) (oi := ⟨some 17, _, _, _, _, _⟩) (v := (.int .i64 core)) rfl (by kernel_rfl) (by kernel_rfl) (by kernel_rfl) (fun _ _ _ h => h) (kn_yields_cell (by rfl) 3 _ rfl g5 0 rfl _ (fun _ h => h) _ Try.underlying3 rfl) hHeld ?qar4
  (try simp only [Act.put, List.setIfInBounds_toArray, List.set_cons_zero, List.set_cons_succ])
  refine wpAnyH_ready (rs := [1]) (by kernel_rfl) (by simp) ?qac1
  refine AllReadyH.cons (o := ⟨some 14, _, _, _, _, _⟩) rfl (fun K hK => ?qast1) AllReadyH.nil
  go_simp
  (refine (After_any (HI.out.below KN.toBelow).1 _ (by omega) (by omega)).mono ?_; rintro e wx ⟨va, rfl, hva, rfl⟩; have HVA := Lib.hid hva; clear hva)
  refine hK.out _ _ ?qak1 (fun hHeld2 => ?qam1)
  case qak1 => exact KN.cell (g := g5) (o := 0) (by repeat (first | exact Has.here | refine Has.there ?_)) rfl
  clear hK K hHeld
  have hHeld := hHeld2; clear hHeld2
  (try simp only [Act.put, List.setIfInBounds_toArray, List.set_cons_zero, List.set_cons_succ])
  refine wpAnyH_ready (rs := [5]) (by kernel_rfl) (by simp) ?qac5
  refine AllReadyH.cons (o := ⟨some 18, _, _, _, _, _⟩) rfl (fun K hK => ?qast5) AllReadyH.nil
  go_simp
  (refine (State_any (w := _) ⟨HVA.out, HZ.out.drop _⟩ _).mono ?_; rintro e wx ⟨a0, n0, c0, a2, n2, c2, a3, n3, c3, rfl, hb⟩; replace KN := KN.below hb; clear hb)
  refine hK.out _ _ ?qak5 (fun hHeld2 => ?qam5)
  case qak5 => exact KN.cell (g := g5) (o := 0) (by repeat (first | exact Has.here | refine Has.there ?_)) rfl
  clear hK K hHeld
  have hHeld := hHeld2; clear hHeld2
  (try simp only [Act.put, List.setIfInBounds_toArray, List.set_cons_zero, List.set_cons_succ])
  refine wpAnyH_take (i := 6) (oi := ⟨some 19, _, _, _, _, _⟩) (v := ?qav6) rfl (by kernel_rfl) (by kernel_rfl) (by kernel_rfl) (fun _ _ _ h => h) (Or.inl ⟨by rfl, ?qahy6⟩) hHeld ?qar6
  case qahy6 => (intro w hSw; (try dsimp only at hSw); go_simp; (try with_reducible rfl))
  (try simp only [Act.put, List.setIfInBounds_toArray, List.set_cons_zero, List.set_cons_succ])
  refine wpAnyH_ready (rs := [7]) (by kernel_rfl) (by simp) ?qac7
  refine AllReadyH.cons (o := ⟨none, _, _, _, _, _⟩) rfl (fun K hK => ?qast7) AllReadyH.nil
  (rw [if_pos (by rfl)]; refine wp_kn_storeA KN 38 _ _ rfl g5 4 rfl #[.slice a0 n0 c0, .slice none 0 0, .slice a2 n2 c2, .slice a3 n3 c3, .slice none 0 0, .slice none 0 0] rfl _ _ (by repeat (first | exact Repl.here | apply Repl.there)) (by show 4 + 6 ≤ 20; omega) (by kernel_rfl) (by kernel_rfl) ?_; clear KN; intro wx KN)
  refine hK.out _ _ ?qak7 (fun hHeld2 => ?qam7)
  case qak7 => exact KN.cell (g := g5) (o := 0) (by repeat (first | exact Has.here | refine Has.there ?_)) rfl
  clear hK K hHeld
  have hHeld := hHeld2; clear hHeld2
  (try simp only [Act.put, List.setIfInBounds_toArray, List.set_cons_zero, List.set_cons_succ])
  refine wpAnyH_done (by kernel_rfl) ?qadone _
  obtain ⟨s0, hs0⟩ : ∃ s : SL, s = ⟨a0, n0, c0⟩ := ⟨_, rfl⟩
  obtain ⟨s2, hs2⟩ : ∃ s : SL, s = ⟨a2, n2, c2⟩ := ⟨_, rfl⟩
  obtain ⟨s3, hs3⟩ : ∃ s : SL, s = ⟨a3, n3, c3⟩ := ⟨_, rfl⟩
  replace KN := KN.as_ g5 (repA core V1.num m o s0 s2 s3 false 0 .nil .nil .nil .nil .nil) (by repeat (first | exact Repl.here | apply Repl.there)) (by rw [hs0, hs2, hs3]; kernel_rfl)
  clear hs0 hs2 hs3 HVA
  have hrd : (at0 zs 3 % 2 == 1) = true ∨ (at0 zs 3 % 2 == 1) = false := by cases (at0 zs 3 % 2 == 1) <;> simp
  rcases hrd with hrd | hrd
  · go_upto_region 6 with (first | (go_at_call 49; refine (At_any (HI.out.below KN.toBelow).1 _ (by omega) (by omega)).mono ?_; rintro e wx ⟨rfl, rfl⟩) | (go_at_call 9; refine (MPlace_any _ _ _ (at0_bd HZ.out _).1 (at0_bd HZ.out _).2 (by omega) (by omega)).mono ?_; rintro e wx ⟨rfl, rfl⟩) | (go_at_call 24; refine (After_any (HI.out.below KN.toBelow).1 _ (by omega) (by omega)).mono ?_; rintro e wx ⟨va, rfl, hva, rfl⟩; have HVA := Lib.hid hva; clear hva) | (go_at_call 50; refine (View_any ⟨HVA.out, HZ.out.drop _⟩).mono ?_; rw [← HV2.out]; rintro e wx ⟨vm, vo, pm, po, rfl, O1, O2, K2⟩; obtain ⟨ma, mn, mc, rfl⟩ := O1.form3; obtain ⟨oa, on, oc, rfl⟩ := O2.form3; have HO3 := Lib.hid O1; have HO4 := Lib.hid O2; clear O1 O2; replace KN := (KN.call0 K2).perm List.perm_append_comm; clear K2; simp only [List.cons_append, List.nil_append] at KN; clear HVA) | ((with_reducible refine wpList_gate ?_); first | ((with_reducible refine gate_load ?_ ?_); rfl; first | (refine ks_load1 KN 3 Try.underlying3 ?_) | (refine ks_loadW KN 40 Try.underlying40 ?_)) | ((with_reducible refine gate_store ?_ ?_); rfl; first | (refine ks_storeW KN 40 ?_; clear KN; intro wx KN) | (refine ks_storeA KN 40 ?_; clear KN; intro wx KN) | (refine ks_storeW KN 38 ?_; clear KN; intro wx KN) | (refine ks_storeA KN 38 ?_; clear KN; intro wx KN) | (refine ks_store1 KN 4 ?_; clear KN; intro wx KN) | (refine ks_storeW KN 30 ?_; clear KN; intro wx KN) | (refine ks_storeA KN 30 ?_; clear KN; intro wx KN)) | ((with_reducible refine gate_new ?_ ?_); rfl; first | (refine ks_alloc KN 40 (q := 4) #[.int .i64 0, .int .i64 0, .slice none 0 0, .slice none 0 0, .slice none 0 0, .slice none 0 0, .slice none 0 0, .slice none 0 0, .slice none 0 0, .slice none 0 0, .bool false, .int .i64 0, .slice none 0 0, .slice none 0 0, .slice none 0 0, .slice none 0 0, .slice none 0 0, .slice none 0 0, .slice none 0 0, .slice none 0 0] ?_; clear KN; intro g4 wx hg4 KN) | (refine ks_alloc KN 40 (q := 5) #[.int .i64 0, .int .i64 0, .slice none 0 0, .slice none 0 0, .slice none 0 0, .slice none 0 0, .slice none 0 0, .slice none 0 0, .slice none 0 0, .slice none 0 0, .bool false, .int .i64 0, .slice none 0 0, .slice none 0 0, .slice none 0 0, .slice none 0 0, .slice none 0 0, .slice none 0 0, .slice none 0 0, .slice none 0 0] ?_; clear KN; intro g5 wx hg5 KN))))
    (try go_frame)
    obtain ⟨nm, hnm⟩ : ∃ m : SL, m = ⟨ma, mn, mc⟩ := ⟨_, rfl⟩
    obtain ⟨no, hno⟩ : ∃ o : SL, o = ⟨oa, on, oc⟩ := ⟨_, rfl⟩
    rw [show Value.slice ma mn mc = nm.v from by rw [hnm]; rfl] at HO3
    rw [show Value.slice oa on oc = no.v from by rw [hno]; rfl] at HO4
    replace KN := KN.as_ g5 (repA core V1.num m o s0 s2 s3 true V2.num nm no .nil .nil .nil) (by repeat (first | exact Repl.here | apply Repl.there)) (by rw [hnm, hno]; kernel_rfl)
    have HRD := Lib.hid hrd
    clear hnm hno hrd
    replace KN := KN.drew
    refine wp_region_held_drew (S := (fun w' => w'.cell? ⟨g5, 0, none⟩ = some (.int .i64 core))) (by kernel_rfl) ?qbhS (fun hHeld => ?qbrest)
    case qbhS => exact KN.cell (g := g5) (o := 0) (by repeat (first | exact Has.here | refine Has.there ?_)) rfl
    refine wpAnyH_take (i := 0) (oi := ⟨some 29, _, _, _, _, _⟩) (v := ?qbv0) rfl (by kernel_rfl) (by kernel_rfl) (by kernel_rfl) (fun _ _ _ h => h) (Or.inl ⟨by rfl, ?qbhy0⟩) hHeld ?qbr0
    case qbhy0 => (intro w hSw; (try dsimp only at hSw); go_simp; (try with_reducible rfl))
    (try simp only [Act.put, List.setIfInBounds_toArray, List.set_cons_zero, List.set_cons_succ])
    refine wpAnyH_take (i := 2) (oi := ⟨some 31, _, _, _, _, _⟩) (v := ?qbv2) rfl (by kernel_rfl) (by kernel_rfl) (by kernel_rfl) (fun _ _ _ h => h) (Or.inl ⟨by rfl, ?qbhy2⟩) hHeld ?qbr2
    case qbhy2 => (intro w hSw; (try dsimp only at hSw); go_simp; (try with_reducible rfl))
    (try simp only [Act.put, List.setIfInBounds_toArray, List.set_cons_zero, List.set_cons_succ])
    refine wpAnyH_take (i := 3) (oi := ⟨some 32, _, _, _, _, _⟩) (v := ?qbv3) rfl (by kernel_rfl) (by kernel_rfl) (by kernel_rfl) (fun _ _ _ h => h) (Or.inl ⟨by rfl, ?qbhy3⟩) hHeld ?qbr3
    case qbhy3 => (intro w hSw; (try dsimp only at hSw); go_simp; (try with_reducible rfl))
    (try simp only [Act.put, List.setIfInBounds_toArray, List.set_cons_zero, List.set_cons_succ])
    refine wpAnyH_take (i := 4) (oi := ⟨some 33, _, _, _, _, _⟩) (v := (.int .i64 core)) rfl (by kernel_rfl) (by kernel_rfl) (by kernel_rfl) (fun _ _ _ h => h) (kn_yields_cell (by rfl) 3 _ rfl g5 0 rfl _ (fun _ h => h) _ Try.underlying3 rfl) hHeld ?qbr4
    (try simp only [Act.put, List.setIfInBounds_toArray, List.set_cons_zero, List.set_cons_succ])
    refine wpAnyH_ready (rs := [1]) (by kernel_rfl) (by simp) ?qbc1
    refine AllReadyH.cons (o := ⟨some 30, _, _, _, _, _⟩) rfl (fun K hK => ?qbst1) AllReadyH.nil
    go_simp
    (refine (After_any (HI.out.below KN.toBelow).1 _ (by omega) (by omega)).mono ?_; rintro e wx ⟨va, rfl, hva, rfl⟩; have HVA := Lib.hid hva; clear hva)
    refine hK.out _ _ ?qbk1 (fun hHeld2 => ?qbm1)
    case qbk1 => exact KN.cell (g := g5) (o := 0) (by repeat (first | exact Has.here | refine Has.there ?_)) rfl
    clear hK K hHeld
    have hHeld := hHeld2; clear hHeld2
    (try simp only [Act.put, List.setIfInBounds_toArray, List.set_cons_zero, List.set_cons_succ])
    refine wpAnyH_ready (rs := [5]) (by kernel_rfl) (by simp) ?qbc5
    refine AllReadyH.cons (o := ⟨some 34, _, _, _, _, _⟩) rfl (fun K hK => ?qbst5) AllReadyH.nil
    go_simp
    (refine (State_any (w := _) ⟨HVA.out, HZ.out.drop _⟩ _).mono ?_; rintro e wx ⟨a0, n0, c0, a2, n2, c2, a3, n3, c3, rfl, hb⟩; replace KN := KN.below hb; clear hb)
    refine hK.out _ _ ?qbk5 (fun hHeld2 => ?qbm5)
    case qbk5 => exact KN.cell (g := g5) (o := 0) (by repeat (first | exact Has.here | refine Has.there ?_)) rfl
    clear hK K hHeld
    have hHeld := hHeld2; clear hHeld2
    (try simp only [Act.put, List.setIfInBounds_toArray, List.set_cons_zero, List.set_cons_succ])
    refine wpAnyH_take (i := 6) (oi := ⟨some 35, _, _, _, _, _⟩) (v := ?qbv6) rfl (by kernel_rfl) (by kernel_rfl) (by kernel_rfl) (fun _ _ _ h => h) (Or.inl ⟨by rfl, ?qbhy6⟩) hHeld ?qbr6
    case qbhy6 => (intro w hSw; (try dsimp only at hSw); go_simp; (try with_reducible rfl))
    (try simp only [Act.put, List.setIfInBounds_toArray, List.set_cons_zero, List.set_cons_succ])
    refine wpAnyH_ready (rs := [7]) (by kernel_rfl) (by simp) ?qbc7
    refine AllReadyH.cons (o := ⟨none, _, _, _, _, _⟩) rfl (fun K hK => ?qbst7) AllReadyH.nil
    (rw [if_pos (by rfl)]; refine wp_kn_storeA KN 38 _ _ rfl g5 14 rfl #[.slice a0 n0 c0, .slice none 0 0, .slice a2 n2 c2, .slice a3 n3 c3, .slice none 0 0, .slice none 0 0] rfl _ _ (by repeat (first | exact Repl.here | apply Repl.there)) (by show 14 + 6 ≤ 20; omega) (by kernel_rfl) (by kernel_rfl) ?_; clear KN; intro wx KN)
    refine hK.out _ _ ?qbk7 (fun hHeld2 => ?qbm7)
    case qbk7 => exact KN.cell (g := g5) (o := 0) (by repeat (first | exact Has.here | refine Has.there ?_)) rfl
    clear hK K hHeld
    have hHeld := hHeld2; clear hHeld2
    (try simp only [Act.put, List.setIfInBounds_toArray, List.set_cons_zero, List.set_cons_succ])
    refine wpAnyH_done (by kernel_rfl) ?qbdone _
    obtain ⟨p0, hp0⟩ : ∃ s : SL, s = ⟨a0, n0, c0⟩ := ⟨_, rfl⟩
    obtain ⟨p2, hp2⟩ : ∃ s : SL, s = ⟨a2, n2, c2⟩ := ⟨_, rfl⟩
    obtain ⟨p3, hp3⟩ : ∃ s : SL, s = ⟨a3, n3, c3⟩ := ⟨_, rfl⟩
    replace KN := KN.as_ g5 (repA core V1.num m o s0 s2 s3 true V2.num nm no p0 p2 p3) (by repeat (first | exact Repl.here | apply Repl.there)) (by rw [hp0, hp2, hp3]; kernel_rfl)
    clear hp0 hp2 hp3 HVA
    go_wp2_with (first | ((with_reducible refine wpList_gate ?_); first | ((with_reducible refine gate_load ?_ ?_); rfl; first | (refine ks_load1 KN 3 Try.underlying3 ?_) | (refine ks_loadW KN 40 Try.underlying40 ?_)) | ((with_reducible refine gate_store ?_ ?_); rfl; first | (refine ks_storeW KN 40 ?_; clear KN; intro wx KN) | (refine ks_storeA KN 40 ?_; clear KN; intro wx KN) | (refine ks_storeW KN 38 ?_; clear KN; intro wx KN) | (refine ks_storeA KN 38 ?_; clear KN; intro wx KN) | (refine ks_store1 KN 4 ?_; clear KN; intro wx KN) | (refine ks_storeW KN 30 ?_; clear KN; intro wx KN) | (refine ks_storeA KN 30 ?_; clear KN; intro wx KN)) | ((with_reducible refine gate_new ?_ ?_); rfl; first | (refine ks_alloc KN 40 (q := 4) #[.int .i64 0, .int .i64 0, .slice none 0 0, .slice none 0 0, .slice none 0 0, .slice none 0 0, .slice none 0 0, .slice none 0 0, .slice none 0 0, .slice none 0 0, .bool false, .int .i64 0, .slice none 0 0, .slice none 0 0, .slice none 0 0, .slice none 0 0, .slice none 0 0, .slice none 0 0, .slice none 0 0, .slice none 0 0] ?_; clear KN; intro g4 wx hg4 KN) | (refine ks_alloc KN 40 (q := 5) #[.int .i64 0, .int .i64 0, .slice none 0 0, .slice none 0 0, .slice none 0 0, .slice none 0 0, .slice none 0 0, .slice none 0 0, .slice none 0 0, .slice none 0 0, .bool false, .int .i64 0, .slice none 0 0, .slice none 0 0, .slice none 0 0, .slice none 0 0, .slice none 0 0, .slice none 0 0, .slice none 0 0, .slice none 0 0] ?_; clear KN; intro g5 wx hg5 KN))))
    refine bodyPost_ret (results_cell_row (p := 4) Try.results23 _ _ g4 40 (repA core V1.num m o s0 s2 s3 true V2.num nm no p0 p2 p3) (0, 0) _ rfl (KN.at_ (by repeat (first | exact Has.here | refine Has.there ?_))) Try.underlying40 rfl (by kernel_rfl)) rfl ?_
    refine ⟨_, rfl, (om ++ oo) ++ (pm ++ po), ?_, KN.pick (List.Sublist.cons _ (List.Sublist.cons _ (List.Sublist.refl _)))⟩
    exact ⟨m, o, s0, s2, s3, nm, no, p0, p2, p3, om, oo, pm, po, rfl, HO1.out, HO2.out, HO3.out, HO4.out, rfl⟩
  · have HRD := Lib.hid hrd
    go_wp2_with (first | (go_at_call 49; refine (At_any (HI.out.below KN.toBelow).1 _ (by omega) (by omega)).mono ?_; rintro e wx ⟨rfl, rfl⟩) | (go_at_call 9; refine (MPlace_any _ _ _ (at0_bd HZ.out _).1 (at0_bd HZ.out _).2 (by omega) (by omega)).mono ?_; rintro e wx ⟨rfl, rfl⟩) | ((with_reducible refine wpList_gate ?_); first | ((with_reducible refine gate_load ?_ ?_); rfl; first | (refine ks_load1 KN 3 Try.underlying3 ?_) | (refine ks_loadW KN 40 Try.underlying40 ?_)) | ((with_reducible refine gate_store ?_ ?_); rfl; first | (refine ks_storeW KN 40 ?_; clear KN; intro wx KN) | (refine ks_storeA KN 40 ?_; clear KN; intro wx KN) | (refine ks_storeW KN 38 ?_; clear KN; intro wx KN) | (refine ks_storeA KN 38 ?_; clear KN; intro wx KN) | (refine ks_store1 KN 4 ?_; clear KN; intro wx KN) | (refine ks_storeW KN 30 ?_; clear KN; intro wx KN) | (refine ks_storeA KN 30 ?_; clear KN; intro wx KN)) | ((with_reducible refine gate_new ?_ ?_); rfl; first | (refine ks_alloc KN 40 (q := 4) #[.int .i64 0, .int .i64 0, .slice none 0 0, .slice none 0 0, .slice none 0 0, .slice none 0 0, .slice none 0 0, .slice none 0 0, .slice none 0 0, .slice none 0 0, .bool false, .int .i64 0, .slice none 0 0, .slice none 0 0, .slice none 0 0, .slice none 0 0, .slice none 0 0, .slice none 0 0, .slice none 0 0, .slice none 0 0] ?_; clear KN; intro g4 wx hg4 KN) | (refine ks_alloc KN 40 (q := 5) #[.int .i64 0, .int .i64 0, .slice none 0 0, .slice none 0 0, .slice none 0 0, .slice none 0 0, .slice none 0 0, .slice none 0 0, .slice none 0 0, .slice none 0 0, .bool false, .int .i64 0, .slice none 0 0, .slice none 0 0, .slice none 0 0, .slice none 0 0, .slice none 0 0, .slice none 0 0, .slice none 0 0, .slice none 0 0] ?_; clear KN; intro g5 wx hg5 KN))))
    refine bodyPost_ret (results_cell_row (p := 4) Try.results23 _ _ g4 40 (repA core V1.num m o s0 s2 s3 false 0 .nil .nil .nil .nil .nil) (0, 0) _ rfl (KN.at_ (by repeat (first | exact Has.here | refine Has.there ?_))) Try.underlying40 rfl (by kernel_rfl)) rfl ?_
    refine ⟨_, rfl, (om ++ oo) ++ ([] ++ []), ?_, by rw [List.append_nil, List.append_nil]; exact KN.pick (List.Sublist.cons _ (List.Sublist.cons _ (List.Sublist.refl _)))⟩
    exact ⟨m, o, s0, s2, s3, .nil, .nil, .nil, .nil, .nil, om, oo, [], [], rfl, HO1.out, HO2.out, .nil, .nil, rfl⟩
end Go.Proofs.Ytpjejaoobbancaa
