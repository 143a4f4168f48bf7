/- The reference's assembler: register, find. -/
import Derived.Test.YtemigcdieghkfaaDoorPkRegR
import Derived.Test.YtemigcdieghkfaaDoorPkLineG
set_option linter.unusedVariables false
set_option linter.unusedSimpArgs false
set_option linter.unusedSectionVars false
namespace Go.Proofs.YtemigcdieghkfaaDoor
open Go.RowKit Go.BigFrame

/-- The reference assembler's cells. -/
abbrev ascC (gp : Nat) (out us ls ps : Value) : Array Value := #[.pointer (some ⟨gp, 0, none⟩), out, us, ls, ps]
def regB (d : List Tok) (s : PSt) : Bool := kindB d s 1 && decide (0 ≤ regOf (tk d s.i).text)
def regP (el ec : Int) (d : List Tok) (s : PSt) : PSt := if regB d s = true then stepP s else failP el ec d s s.i 50
def regV (d : List Tok) (s : PSt) : Int := if regB d s = true then regOf (tk d s.i).text else 0
theorem failP_i (el ec : Int) (d : List Tok) (s : PSt) (j : Nat) (e : Int) : (failP el ec d s j e).i = s.i := by unfold failP; split <;> rfl
theorem kind_in {d : List Tok} {s : PSt} {k : Int} (hk : 1 ≤ k) (hb : kindB d s k = true) : s.i < d.length := by
  rcases Nat.lt_or_ge s.i d.length with h | h
  · exact h
  · unfold kindB at hb
    rw [tk_out h] at hb
    simp at hb
    omega
theorem regOf_bdR (s : List UInt8) : -1 ≤ regOf s ∧ regOf s ≤ 15 := by
  have key : ∀ (f n : Nat), n + f ≤ 16 → -1 ≤ regFrom s f n ∧ regFrom s f n ≤ 15 := by
    intro f
    induction f with
    | zero => intro n _; show -1 ≤ (-1 : Int) ∧ (-1 : Int) ≤ 15; omega
    | succ f ih =>
      intro n h
      rw [regFrom]
      split
      · omega
      · exact ih (n + 1) (by omega)
  exact key 16 0 (by omega)
set_option maxRecDepth 100000 in
set_option maxHeartbeats 4000000 in
theorem asr_register {W w : World} {l : Ents} {gp ga : Nat} {tv out us ls ps : Value} {sv : ByteArray} {s : PSt} {d : List Tok} {el ec : Int}
    (KN : Kn [] W w ((gp, At (parC (.string sv) tv s) 74) :: (ga, At (ascC gp out us ls ps) 72) :: l)) (hT : TokRd W tv d) (hd : d.length ≤ 65536) (hi : s.i ≤ 70000) (hs : sv.size ≤ 65536) (hp : Hid (adv sv.data.toList (1, 1) = (el, ec))) :
    Calls Tryd.prog 74 #[.pointer (some ⟨ga, 0, none⟩)] w fun e w' => e = .returned (.int .i64 (regV d s)) ∧ Kn [] W w' ((gp, At (parC (.string sv) tv (regP el ec d s)) 74) :: (ga, At (ascC gp out us ls ps) 72) :: l) := by
  have HT := Lib.hid hT
  cases hb : kindB d s 1 with
  | true =>
    have HB := Lib.hid hb
    have hin := kind_in (by decide) hb
    obtain ⟨a, c, rfl, hc⟩ := hT
    obtain ⟨n, hn⟩ : ∃ n, n = d.length := ⟨_, rfl⟩
    have HN := Lib.hid hn
    obtain ⟨t, ht⟩ : ∃ t, d[s.i]? = some t := ⟨_, List.getElem?_eq_getElem hin⟩
    obtain ⟨b, off, rfl, hbb, _, x1, _, _, _⟩ := hc s.i t ht
    have htk := tk_in ht
    obtain ⟨rv, hrv⟩ : ∃ rv, rv = regOf t.raw.text := ⟨_, rfl⟩
    have hrb := regOf_bdR t.raw.text
    have HRV := Lib.hid hrv
    rw [← hrv] at hrb
    have HRB : Hid (regB d s = decide (0 ≤ rv)) := Lib.hid (by unfold regB; rw [hb, htk, hrv, Bool.true_and])
    have HTK : Hid (regOf (tk d s.i).text = rv) := Lib.hid (by rw [htk, hrv])
    rw [← hn] at hd hin KN HT ⊢
    clear hn hc hb ht htk hrv
    by_cases h0 : 0 ≤ rv
    · have HV : Hid (regV d s = rv) := Lib.hid (by unfold regV; rw [HRB.out, decide_eq_true h0, if_pos rfl, HTK.out])
      have HP : Hid (regP el ec d s = stepP s) := Lib.hid (by unfold regP; rw [HRB.out, decide_eq_true h0, if_pos rfl])
      rw [HV.out, HP.out]
      go_enter Tryd.func74, Tryd.ntmps74
      go_upto_region 2 with (first | (go_at_call 70; refine (par_kind KN HT.out (by rw [← HN.out]; exact hd) hi 1 (by decide)).mono ?_; rw [HB.out]; rintro y wx ⟨rfl, K2⟩; replace KN := K2; clear K2) | ((with_reducible refine wpList_gate ?_); first | ((refine gate_load (by rfl) ?_); first | (refine ks_load1 KN 67 Tryd.underlying67 ?_) | (refine ks_load1 KN 46 Tryd.underlying46 ?_) | (refine ks_load1 KN 3 Tryd.underlying3 ?_) | (refine ks_load1 KN 9 Tryd.underlying9 ?_)) | ((refine gate_store (by rfl) ?_); first | (refine ks_store1 KN 3 ?_; clear KN; intro wx KN))))
      (try go_frame)
      go_cut [3] (fun s3 wz => s3 = .int .i64 rv ∧ Kn [] W wz ((gp, At (parC (.string sv) (.slice (some ⟨b, off, none⟩) n c) s) 74) :: (ga, At (ascC gp out us ls ps) 72) :: l))
      case first =>
        replace KN := KN.drew
        refine wp_region_held_drew (S := (fun w' => w'.cell? ⟨ga, 0, none⟩ = some (.pointer (some ⟨gp, 0, none⟩)) ∧ w'.cell? ⟨gp, 1, none⟩ = some (.slice (some ⟨b, off, none⟩) n c) ∧ w'.cell? ⟨gp, 2, none⟩ = some (.int .i64 (s.i : Int)) ∧ w'.cell? ⟨b, off + s.i * 5 + 1, none⟩ = some (.string (str t.raw.text)))) (by kernel_rfl) ?qahS (fun hHeld => ?qarest)
        case qahS => exact ⟨KN.cell (g := ga) (o := 0) (by repeat (first | exact Has.here | refine Has.there ?_)) rfl, KN.cell (g := gp) (o := 1) (by repeat (first | exact Has.here | refine Has.there ?_)) rfl, KN.cell (g := gp) (o := 2) (by repeat (first | exact Has.here | refine Has.there ?_)) rfl, (KN.old hbb (by simp)).trans x1⟩
        refine wpAnyH_take (i := 0) (oi := ⟨some 9, _, _, _, _, _⟩) (v := ?qav0) rfl (by kernel_rfl) (by kernel_rfl) (by kernel_rfl) (fun _ _ _ h => h) (Or.inl ⟨by rfl, ?qahy0⟩) hHeld ?qar0
        case qahy0 => (intro w hSw; (try dsimp only at hSw); go_simp; (try with_reducible rfl))
        (try simp only [Act.put, List.setIfInBounds_toArray, List.set_cons_zero, List.set_cons_succ])
        refine wpAnyH_take (i := 1) (oi := ⟨some 10, _, _, _, _, _⟩) (v := ?qav1) rfl (by kernel_rfl) (by kernel_rfl) (by kernel_rfl) (fun _ _ _ h => h) (Or.inl ⟨by rfl, ?qahy1⟩) hHeld ?qar1
        case qahy1 => (intro w hSw; (try dsimp only at hSw); go_simp; (try with_reducible rfl))
        (try simp only [Act.put, List.setIfInBounds_toArray, List.set_cons_zero, List.set_cons_succ])
        refine wpAnyH_take (i := 2) (oi := ⟨some 11, _, _, _, _, _⟩) (v := ?qav2) rfl (by kernel_rfl) (by kernel_rfl) (by kernel_rfl) (fun _ _ _ h => h) (Or.inl ⟨by rfl, ?qahy2⟩) hHeld ?qar2
        case qahy2 => (intro w hSw; (try dsimp only at hSw); go_simp; (try with_reducible rfl))
        (try simp only [Act.put, List.setIfInBounds_toArray, List.set_cons_zero, List.set_cons_succ])
        refine wpAnyH_take (i := 3) (oi := ⟨some 12, _, _, _, _, _⟩) (v := (.pointer (some ⟨gp, 0, none⟩))) rfl (by kernel_rfl) (by kernel_rfl) (by kernel_rfl) (fun _ _ _ h => h) (kn_yields_cell (by rfl) 67 _ rfl ga 0 rfl _ (fun _ h => h.1) _ Tryd.underlying67 rfl) hHeld ?qar3
        (try simp only [Act.put, List.setIfInBounds_toArray, List.set_cons_zero, List.set_cons_succ])
        refine wpAnyH_take (i := 4) (oi := ⟨some 13, _, _, _, _, _⟩) (v := ?qav4) rfl (by kernel_rfl) (by kernel_rfl) (by kernel_rfl) (fun _ _ _ h => h) (Or.inl ⟨by rfl, ?qahy4⟩) hHeld ?qar4
        case qahy4 => (intro w hSw; (try dsimp only at hSw); go_simp; (try with_reducible rfl))
        (try simp only [Act.put, List.setIfInBounds_toArray, List.set_cons_zero, List.set_cons_succ])
        refine wpAnyH_take (i := 5) (oi := ⟨some 14, _, _, _, _, _⟩) (v := ?qav5) rfl (by kernel_rfl) (by kernel_rfl) (by kernel_rfl) (fun _ _ _ h => h) (Or.inl ⟨by rfl, ?qahy5⟩) hHeld ?qar5
        case qahy5 => (intro w hSw; (try dsimp only at hSw); go_simp; (try with_reducible rfl))
        (try simp only [Act.put, List.setIfInBounds_toArray, List.set_cons_zero, List.set_cons_succ])
        refine wpAnyH_take (i := 6) (oi := ⟨some 15, _, _, _, _, _⟩) (v := (.slice (some ⟨b, off, none⟩) n c)) rfl (by kernel_rfl) (by kernel_rfl) (by kernel_rfl) (fun _ _ _ h => h) (kn_yields_cell (by rfl) 46 _ rfl gp 1 rfl _ (fun _ h => h.2.1) _ Tryd.underlying46 rfl) hHeld ?qar6
        (try simp only [Act.put, List.setIfInBounds_toArray, List.set_cons_zero, List.set_cons_succ])
        refine wpAnyH_take (i := 7) (oi := ⟨some 16, _, _, _, _, _⟩) (v := ?qav7) rfl (by kernel_rfl) (by kernel_rfl) (by kernel_rfl) (fun _ _ _ h => h) (Or.inl ⟨by rfl, ?qahy7⟩) hHeld ?qar7
        case qahy7 => (intro w hSw; (try dsimp only at hSw); go_simp; (try with_reducible rfl))
        (try simp only [Act.put, List.setIfInBounds_toArray, List.set_cons_zero, List.set_cons_succ])
        refine wpAnyH_take (i := 8) (oi := ⟨some 17, _, _, _, _, _⟩) (v := ?qav8) rfl (by kernel_rfl) (by kernel_rfl) (by kernel_rfl) (fun _ _ _ h => h) (Or.inl ⟨by rfl, ?qahy8⟩) hHeld ?qar8
        case qahy8 => (intro w hSw; (try dsimp only at hSw); go_simp; (try with_reducible rfl))
        (try simp only [Act.put, List.setIfInBounds_toArray, List.set_cons_zero, List.set_cons_succ])
        refine wpAnyH_take (i := 9) (oi := ⟨some 18, _, _, _, _, _⟩) (v := ?qav9) rfl (by kernel_rfl) (by kernel_rfl) (by kernel_rfl) (fun _ _ _ h => h) (Or.inl ⟨by rfl, ?qahy9⟩) hHeld ?qar9
        case qahy9 => (intro w hSw; (try dsimp only at hSw); go_simp; (try with_reducible rfl))
        (try simp only [Act.put, List.setIfInBounds_toArray, List.set_cons_zero, List.set_cons_succ])
        refine wpAnyH_take (i := 10) (oi := ⟨some 19, _, _, _, _, _⟩) (v := (.pointer (some ⟨gp, 0, none⟩))) rfl (by kernel_rfl) (by kernel_rfl) (by kernel_rfl) (fun _ _ _ h => h) (kn_yields_cell (by rfl) 67 _ rfl ga 0 rfl _ (fun _ h => h.1) _ Tryd.underlying67 rfl) hHeld ?qar10
        (try simp only [Act.put, List.setIfInBounds_toArray, List.set_cons_zero, List.set_cons_succ])
        refine wpAnyH_take (i := 11) (oi := ⟨some 20, _, _, _, _, _⟩) (v := ?qav11) rfl (by kernel_rfl) (by kernel_rfl) (by kernel_rfl) (fun _ _ _ h => h) (Or.inl ⟨by rfl, ?qahy11⟩) hHeld ?qar11
        case qahy11 => (intro w hSw; (try dsimp only at hSw); go_simp; (try with_reducible rfl))
        (try simp only [Act.put, List.setIfInBounds_toArray, List.set_cons_zero, List.set_cons_succ])
        refine wpAnyH_take (i := 12) (oi := ⟨some 21, _, _, _, _, _⟩) (v := ?qav12) rfl (by kernel_rfl) (by kernel_rfl) (by kernel_rfl) (fun _ _ _ h => h) (Or.inl ⟨by rfl, ?qahy12⟩) hHeld ?qar12
        case qahy12 => (intro w hSw; (try dsimp only at hSw); go_simp; (try with_reducible rfl))
        (try simp only [Act.put, List.setIfInBounds_toArray, List.set_cons_zero, List.set_cons_succ])
        refine wpAnyH_take (i := 13) (oi := ⟨some 22, _, _, _, _, _⟩) (v := (.int .i64 (s.i : Int))) rfl (by kernel_rfl) (by kernel_rfl) (by kernel_rfl) (fun _ _ _ h => h) (kn_yields_cell (by rfl) 3 _ rfl gp 2 rfl _ (fun _ h => h.2.2.1) _ Tryd.underlying3 rfl) hHeld ?qar13
        (try simp only [Act.put, List.setIfInBounds_toArray, List.set_cons_zero, List.set_cons_succ])
        refine wpAnyH_take (i := 14) (oi := ⟨some 23, _, _, _, _, _⟩) (v := (.pointer (some ⟨b, off + s.i * 5, none⟩))) rfl (by kernel_rfl) (by kernel_rfl) (by kernel_rfl) (fun _ _ _ h => h) (Or.inl ⟨by rfl, ?qahy14⟩) hHeld ?qar14
        case qahy14 => (intro w hSw; (try dsimp only at hSw); go_simp; (try rfl))
        (try simp only [Act.put, List.setIfInBounds_toArray, List.set_cons_zero, List.set_cons_succ])
        refine wpAnyH_take (i := 15) (oi := ⟨some 24, _, _, _, _, _⟩) (v := ?qav15) rfl (by kernel_rfl) (by kernel_rfl) (by kernel_rfl) (fun _ _ _ h => h) (Or.inl ⟨by rfl, ?qahy15⟩) hHeld ?qar15
        case qahy15 => (intro w hSw; (try dsimp only at hSw); go_simp; (try with_reducible rfl))
        (try simp only [Act.put, List.setIfInBounds_toArray, List.set_cons_zero, List.set_cons_succ])
        refine wpAnyH_take (i := 16) (oi := ⟨some 25, _, _, _, _, _⟩) (v := (.string (str t.raw.text))) rfl (by kernel_rfl) (by kernel_rfl) (by kernel_rfl) (fun _ _ _ h => h) (kn_yields_cell (by rfl) 9 _ rfl b (off + s.i * 5 + 1) rfl _ (fun _ h => h.2.2.2) _ Tryd.underlying9 rfl) hHeld ?qar16
        (try simp only [Act.put, List.setIfInBounds_toArray, List.set_cons_zero, List.set_cons_succ])
        refine wpAnyH_ready (rs := [17]) (by kernel_rfl) (by simp) ?qac17
        refine AllReadyH.cons (o := ⟨some 26, _, _, _, _, _⟩) rfl (fun K hK => ?qast17) AllReadyH.nil
        go_simp
        (refine (Register_any t.raw.text _).mono ?_; rw [← HRV.out]; rintro y wx ⟨rfl, rfl⟩)
        refine hK.out _ _ ?qak17 (fun hHeld2 => ?qam17)
        case qak17 => exact ⟨KN.cell (g := ga) (o := 0) (by repeat (first | exact Has.here | refine Has.there ?_)) rfl, KN.cell (g := gp) (o := 1) (by repeat (first | exact Has.here | refine Has.there ?_)) rfl, KN.cell (g := gp) (o := 2) (by repeat (first | exact Has.here | refine Has.there ?_)) rfl, (KN.old hbb (by simp)).trans x1⟩
        clear hK K hHeld
        have hHeld := hHeld2; clear hHeld2
        (try simp only [Act.put, List.setIfInBounds_toArray, List.set_cons_zero, List.set_cons_succ])
        refine wpAnyH_take (i := 18) (oi := ⟨some 3, _, _, _, _, _⟩) (v := ?qav18) rfl (by kernel_rfl) (by kernel_rfl) (by kernel_rfl) (fun _ _ _ h => h) (Or.inl ⟨by rfl, ?qahy18⟩) hHeld ?qar18
        case qahy18 => (intro w hSw; (try dsimp only at hSw); go_simp; (try with_reducible rfl))
        (try simp only [Act.put, List.setIfInBounds_toArray, List.set_cons_zero, List.set_cons_succ])
        refine wpAnyH_done (by kernel_rfl) ?qadone _
        go_wp2_with fail
        go_meet
        exact ⟨rfl, KN⟩
      case rest =>
        clear KN
        obtain ⟨rfl, KN⟩ := hcut
        go_wp2_with (first | ((with_reducible refine wpList_gate ?_); first | ((refine gate_load (by rfl) ?_); first | (refine ks_load1 KN 67 Tryd.underlying67 ?_) | (refine ks_load1 KN 46 Tryd.underlying46 ?_) | (refine ks_load1 KN 3 Tryd.underlying3 ?_) | (refine ks_load1 KN 9 Tryd.underlying9 ?_)) | ((refine gate_store (by rfl) ?_); first | (refine ks_store1 KN 3 ?_; clear KN; intro wx KN))))
        go_ret
        exact ⟨rfl, KN.as_ gp _ (by repeat (first | exact Repl.here | apply Repl.there)) (by kernel_rfl)⟩
    · have HV : Hid (regV d s = 0) := Lib.hid (by unfold regV; rw [HRB.out, decide_eq_false h0]; rfl)
      have HP : Hid (regP el ec d s = failP el ec d s s.i 50) := Lib.hid (by unfold regP; rw [HRB.out, decide_eq_false h0]; rfl)
      rw [HV.out, HP.out]
      go_enter Tryd.func74, Tryd.ntmps74
      go_upto_region 2 with (first | (go_at_call 70; refine (par_kind KN HT.out (by rw [← HN.out]; exact hd) hi 1 (by decide)).mono ?_; rw [HB.out]; rintro y wx ⟨rfl, K2⟩; replace KN := K2; clear K2) | ((with_reducible refine wpList_gate ?_); first | ((refine gate_load (by rfl) ?_); first | (refine ks_load1 KN 67 Tryd.underlying67 ?_) | (refine ks_load1 KN 46 Tryd.underlying46 ?_) | (refine ks_load1 KN 3 Tryd.underlying3 ?_) | (refine ks_load1 KN 9 Tryd.underlying9 ?_)) | ((refine gate_store (by rfl) ?_); first | (refine ks_store1 KN 3 ?_; clear KN; intro wx KN))))
      (try go_frame)
      go_cut [3] (fun s3 wz => s3 = .int .i64 rv ∧ Kn [] W wz ((gp, At (parC (.string sv) (.slice (some ⟨b, off, none⟩) n c) s) 74) :: (ga, At (ascC gp out us ls ps) 72) :: l))
      case first =>
        replace KN := KN.drew
        refine wp_region_held_drew (S := (fun w' => w'.cell? ⟨ga, 0, none⟩ = some (.pointer (some ⟨gp, 0, none⟩)) ∧ w'.cell? ⟨gp, 1, none⟩ = some (.slice (some ⟨b, off, none⟩) n c) ∧ w'.cell? ⟨gp, 2, none⟩ = some (.int .i64 (s.i : Int)) ∧ w'.cell? ⟨b, off + s.i * 5 + 1, none⟩ = some (.string (str t.raw.text)))) (by kernel_rfl) ?qbhS (fun hHeld => ?qbrest)
        case qbhS => exact ⟨KN.cell (g := ga) (o := 0) (by repeat (first | exact Has.here | refine Has.there ?_)) rfl, KN.cell (g := gp) (o := 1) (by repeat (first | exact Has.here | refine Has.there ?_)) rfl, KN.cell (g := gp) (o := 2) (by repeat (first | exact Has.here | refine Has.there ?_)) rfl, (KN.old hbb (by simp)).trans x1⟩
        refine wpAnyH_take (i := 0) (oi := ⟨some 9, _, _, _, _, _⟩) (v := ?qbv0) rfl (by kernel_rfl) (by kernel_rfl) (by kernel_rfl) (fun _ _ _ h => h) (Or.inl ⟨by rfl, ?qbhy0⟩) hHeld ?qbr0
        case qbhy0 => (intro w hSw; (try dsimp only at hSw); go_simp; (try with_reducible rfl))
        (try simp only [Act.put, List.setIfInBounds_toArray, List.set_cons_zero, List.set_cons_succ])
        refine wpAnyH_take (i := 1) (oi := ⟨some 10, _, _, _, _, _⟩) (v := ?qbv1) rfl (by kernel_rfl) (by kernel_rfl) (by kernel_rfl) (fun _ _ _ h => h) (Or.inl ⟨by rfl, ?qbhy1⟩) hHeld ?qbr1
        case qbhy1 => (intro w hSw; (try dsimp only at hSw); go_simp; (try with_reducible rfl))
        (try simp only [Act.put, List.setIfInBounds_toArray, List.set_cons_zero, List.set_cons_succ])
        refine wpAnyH_take (i := 2) (oi := ⟨some 11, _, _, _, _, _⟩) (v := ?qbv2) rfl (by kernel_rfl) (by kernel_rfl) (by kernel_rfl) (fun _ _ _ h => h) (Or.inl ⟨by rfl, ?qbhy2⟩) hHeld ?qbr2
        case qbhy2 => (intro w hSw; (try dsimp only at hSw); go_simp; (try with_reducible rfl))
        (try simp only [Act.put, List.setIfInBounds_toArray, List.set_cons_zero, List.set_cons_succ])
        refine wpAnyH_take (i := 3) (oi := ⟨some 12, _, _, _, _, _⟩) (v := (.pointer (some ⟨gp, 0, none⟩))) rfl (by kernel_rfl) (by kernel_rfl) (by kernel_rfl) (fun _ _ _ h => h) (kn_yields_cell (by rfl) 67 _ rfl ga 0 rfl _ (fun _ h => h.1) _ Tryd.underlying67 rfl) hHeld ?qbr3
        (try simp only [Act.put, List.setIfInBounds_toArray, List.set_cons_zero, List.set_cons_succ])
        refine wpAnyH_take (i := 4) (oi := ⟨some 13, _, _, _, _, _⟩) (v := ?qbv4) rfl (by kernel_rfl) (by kernel_rfl) (by kernel_rfl) (fun _ _ _ h => h) (Or.inl ⟨by rfl, ?qbhy4⟩) hHeld ?qbr4
        case qbhy4 => (intro w hSw; (try dsimp only at hSw); go_simp; (try with_reducible rfl))
        (try simp only [Act.put, List.setIfInBounds_toArray, List.set_cons_zero, List.set_cons_succ])
        refine wpAnyH_take (i := 5) (oi := ⟨some 14, _, _, _, _, _⟩) (v := ?qbv5) rfl (by kernel_rfl) (by kernel_rfl) (by kernel_rfl) (fun _ _ _ h => h) (Or.inl ⟨by rfl, ?qbhy5⟩) hHeld ?qbr5
        case qbhy5 => (intro w hSw; (try dsimp only at hSw); go_simp; (try with_reducible rfl))
        (try simp only [Act.put, List.setIfInBounds_toArray, List.set_cons_zero, List.set_cons_succ])
        refine wpAnyH_take (i := 6) (oi := ⟨some 15, _, _, _, _, _⟩) (v := (.slice (some ⟨b, off, none⟩) n c)) rfl (by kernel_rfl) (by kernel_rfl) (by kernel_rfl) (fun _ _ _ h => h) (kn_yields_cell (by rfl) 46 _ rfl gp 1 rfl _ (fun _ h => h.2.1) _ Tryd.underlying46 rfl) hHeld ?qbr6
        (try simp only [Act.put, List.setIfInBounds_toArray, List.set_cons_zero, List.set_cons_succ])
        refine wpAnyH_take (i := 7) (oi := ⟨some 16, _, _, _, _, _⟩) (v := ?qbv7) rfl (by kernel_rfl) (by kernel_rfl) (by kernel_rfl) (fun _ _ _ h => h) (Or.inl ⟨by rfl, ?qbhy7⟩) hHeld ?qbr7
        case qbhy7 => (intro w hSw; (try dsimp only at hSw); go_simp; (try with_reducible rfl))
        (try simp only [Act.put, List.setIfInBounds_toArray, List.set_cons_zero, List.set_cons_succ])
        refine wpAnyH_take (i := 8) (oi := ⟨some 17, _, _, _, _, _⟩) (v := ?qbv8) rfl (by kernel_rfl) (by kernel_rfl) (by kernel_rfl) (fun _ _ _ h => h) (Or.inl ⟨by rfl, ?qbhy8⟩) hHeld ?qbr8
        case qbhy8 => (intro w hSw; (try dsimp only at hSw); go_simp; (try with_reducible rfl))
        (try simp only [Act.put, List.setIfInBounds_toArray, List.set_cons_zero, List.set_cons_succ])
        refine wpAnyH_take (i := 9) (oi := ⟨some 18, _, _, _, _, _⟩) (v := ?qbv9) rfl (by kernel_rfl) (by kernel_rfl) (by kernel_rfl) (fun _ _ _ h => h) (Or.inl ⟨by rfl, ?qbhy9⟩) hHeld ?qbr9
        case qbhy9 => (intro w hSw; (try dsimp only at hSw); go_simp; (try with_reducible rfl))
        (try simp only [Act.put, List.setIfInBounds_toArray, List.set_cons_zero, List.set_cons_succ])
        refine wpAnyH_take (i := 10) (oi := ⟨some 19, _, _, _, _, _⟩) (v := (.pointer (some ⟨gp, 0, none⟩))) rfl (by kernel_rfl) (by kernel_rfl) (by kernel_rfl) (fun _ _ _ h => h) (kn_yields_cell (by rfl) 67 _ rfl ga 0 rfl _ (fun _ h => h.1) _ Tryd.underlying67 rfl) hHeld ?qbr10
        (try simp only [Act.put, List.setIfInBounds_toArray, List.set_cons_zero, List.set_cons_succ])
        refine wpAnyH_take (i := 11) (oi := ⟨some 20, _, _, _, _, _⟩) (v := ?qbv11) rfl (by kernel_rfl) (by kernel_rfl) (by kernel_rfl) (fun _ _ _ h => h) (Or.inl ⟨by rfl, ?qbhy11⟩) hHeld ?qbr11
        case qbhy11 => (intro w hSw; (try dsimp only at hSw); go_simp; (try with_reducible rfl))
        (try simp only [Act.put, List.setIfInBounds_toArray, List.set_cons_zero, List.set_cons_succ])
        refine wpAnyH_take (i := 12) (oi := ⟨some 21, _, _, _, _, _⟩) (v := ?qbv12) rfl (by kernel_rfl) (by kernel_rfl) (by kernel_rfl) (fun _ _ _ h => h) (Or.inl ⟨by rfl, ?qbhy12⟩) hHeld ?qbr12
        case qbhy12 => (intro w hSw; (try dsimp only at hSw); go_simp; (try with_reducible rfl))
        (try simp only [Act.put, List.setIfInBounds_toArray, List.set_cons_zero, List.set_cons_succ])
        refine wpAnyH_take (i := 13) (oi := ⟨some 22, _, _, _, _, _⟩) (v := (.int .i64 (s.i : Int))) rfl (by kernel_rfl) (by kernel_rfl) (by kernel_rfl) (fun _ _ _ h => h) (kn_yields_cell (by rfl) 3 _ rfl gp 2 rfl _ (fun _ h => h.2.2.1) _ Tryd.underlying3 rfl) hHeld ?qbr13
        (try simp only [Act.put, List.setIfInBounds_toArray, List.set_cons_zero, List.set_cons_succ])
        refine wpAnyH_take (i := 14) (oi := ⟨some 23, _, _, _, _, _⟩) (v := (.pointer (some ⟨b, off + s.i * 5, none⟩))) rfl (by kernel_rfl) (by kernel_rfl) (by kernel_rfl) (fun _ _ _ h => h) (Or.inl ⟨by rfl, ?qbhy14⟩) hHeld ?qbr14
        case qbhy14 => (intro w hSw; (try dsimp only at hSw); go_simp; (try rfl))
        (try simp only [Act.put, List.setIfInBounds_toArray, List.set_cons_zero, List.set_cons_succ])
        refine wpAnyH_take (i := 15) (oi := ⟨some 24, _, _, _, _, _⟩) (v := ?qbv15) rfl (by kernel_rfl) (by kernel_rfl) (by kernel_rfl) (fun _ _ _ h => h) (Or.inl ⟨by rfl, ?qbhy15⟩) hHeld ?qbr15
        case qbhy15 => (intro w hSw; (try dsimp only at hSw); go_simp; (try with_reducible rfl))
        (try simp only [Act.put, List.setIfInBounds_toArray, List.set_cons_zero, List.set_cons_succ])
        refine wpAnyH_take (i := 16) (oi := ⟨some 25, _, _, _, _, _⟩) (v := (.string (str t.raw.text))) rfl (by kernel_rfl) (by kernel_rfl) (by kernel_rfl) (fun _ _ _ h => h) (kn_yields_cell (by rfl) 9 _ rfl b (off + s.i * 5 + 1) rfl _ (fun _ h => h.2.2.2) _ Tryd.underlying9 rfl) hHeld ?qbr16
        (try simp only [Act.put, List.setIfInBounds_toArray, List.set_cons_zero, List.set_cons_succ])
        refine wpAnyH_ready (rs := [17]) (by kernel_rfl) (by simp) ?qbc17
        refine AllReadyH.cons (o := ⟨some 26, _, _, _, _, _⟩) rfl (fun K hK => ?qbst17) AllReadyH.nil
        go_simp
        (refine (Register_any t.raw.text _).mono ?_; rw [← HRV.out]; rintro y wx ⟨rfl, rfl⟩)
        refine hK.out _ _ ?qbk17 (fun hHeld2 => ?qbm17)
        case qbk17 => exact ⟨KN.cell (g := ga) (o := 0) (by repeat (first | exact Has.here | refine Has.there ?_)) rfl, KN.cell (g := gp) (o := 1) (by repeat (first | exact Has.here | refine Has.there ?_)) rfl, KN.cell (g := gp) (o := 2) (by repeat (first | exact Has.here | refine Has.there ?_)) rfl, (KN.old hbb (by simp)).trans x1⟩
        clear hK K hHeld
        have hHeld := hHeld2; clear hHeld2
        (try simp only [Act.put, List.setIfInBounds_toArray, List.set_cons_zero, List.set_cons_succ])
        refine wpAnyH_take (i := 18) (oi := ⟨some 3, _, _, _, _, _⟩) (v := ?qbv18) rfl (by kernel_rfl) (by kernel_rfl) (by kernel_rfl) (fun _ _ _ h => h) (Or.inl ⟨by rfl, ?qbhy18⟩) hHeld ?qbr18
        case qbhy18 => (intro w hSw; (try dsimp only at hSw); go_simp; (try with_reducible rfl))
        (try simp only [Act.put, List.setIfInBounds_toArray, List.set_cons_zero, List.set_cons_succ])
        refine wpAnyH_done (by kernel_rfl) ?qbdone _
        go_wp2_with fail
        go_meet
        exact ⟨rfl, KN⟩
      case rest =>
        clear KN
        obtain ⟨rfl, KN⟩ := hcut
        go_upto_region 6 with fail
        (try go_frame)
        replace KN := KN.drew
        refine wp_region_held_drew (S := (fun w' => w'.cell? ⟨ga, 0, none⟩ = some (.pointer (some ⟨gp, 0, none⟩)) ∧ w'.cell? ⟨gp, 2, none⟩ = some (.int .i64 (s.i : Int)))) (by kernel_rfl) ?qchS (fun hHeld => ?qcrest)
        case qchS => exact ⟨KN.cell (g := ga) (o := 0) (by repeat (first | exact Has.here | refine Has.there ?_)) rfl, by first | exact KN.cell (g := gp) (o := 2) (by repeat (first | exact Has.here | refine Has.there ?_)) rfl | exact KN.cell (g := gp) (o := 2) (by repeat (first | exact Has.here | refine Has.there ?_)) (congrArg (fun i : Nat => some (Value.int .i64 (i : Int))) (failP_i el ec d s s.i 50))⟩
        refine wpAnyH_take (i := 0) (oi := ⟨some 40, _, _, _, _, _⟩) (v := ?qcv0) rfl (by kernel_rfl) (by kernel_rfl) (by kernel_rfl) (fun _ _ _ h => h) (Or.inl ⟨by rfl, ?qchy0⟩) hHeld ?qcr0
        case qchy0 => (intro w hSw; (try dsimp only at hSw); go_simp; (try with_reducible rfl))
        (try simp only [Act.put, List.setIfInBounds_toArray, List.set_cons_zero, List.set_cons_succ])
        refine wpAnyH_take (i := 1) (oi := ⟨some 41, _, _, _, _, _⟩) (v := ?qcv1) rfl (by kernel_rfl) (by kernel_rfl) (by kernel_rfl) (fun _ _ _ h => h) (Or.inl ⟨by rfl, ?qchy1⟩) hHeld ?qcr1
        case qchy1 => (intro w hSw; (try dsimp only at hSw); go_simp; (try with_reducible rfl))
        (try simp only [Act.put, List.setIfInBounds_toArray, List.set_cons_zero, List.set_cons_succ])
        refine wpAnyH_take (i := 2) (oi := ⟨some 42, _, _, _, _, _⟩) (v := ?qcv2) rfl (by kernel_rfl) (by kernel_rfl) (by kernel_rfl) (fun _ _ _ h => h) (Or.inl ⟨by rfl, ?qchy2⟩) hHeld ?qcr2
        case qchy2 => (intro w hSw; (try dsimp only at hSw); go_simp; (try with_reducible rfl))
        (try simp only [Act.put, List.setIfInBounds_toArray, List.set_cons_zero, List.set_cons_succ])
        refine wpAnyH_take (i := 3) (oi := ⟨some 43, _, _, _, _, _⟩) (v := (.pointer (some ⟨gp, 0, none⟩))) rfl (by kernel_rfl) (by kernel_rfl) (by kernel_rfl) (fun _ _ _ h => h) (kn_yields_cell (by rfl) 67 _ rfl ga 0 rfl _ (fun _ h => h.1) _ Tryd.underlying67 rfl) hHeld ?qcr3
        (try simp only [Act.put, List.setIfInBounds_toArray, List.set_cons_zero, List.set_cons_succ])
        refine wpAnyH_take (i := 4) (oi := ⟨some 44, _, _, _, _, _⟩) (v := ?qcv4) rfl (by kernel_rfl) (by kernel_rfl) (by kernel_rfl) (fun _ _ _ h => h) (Or.inl ⟨by rfl, ?qchy4⟩) hHeld ?qcr4
        case qchy4 => (intro w hSw; (try dsimp only at hSw); go_simp; (try with_reducible rfl))
        (try simp only [Act.put, List.setIfInBounds_toArray, List.set_cons_zero, List.set_cons_succ])
        refine wpAnyH_take (i := 5) (oi := ⟨some 45, _, _, _, _, _⟩) (v := ?qcv5) rfl (by kernel_rfl) (by kernel_rfl) (by kernel_rfl) (fun _ _ _ h => h) (Or.inl ⟨by rfl, ?qchy5⟩) hHeld ?qcr5
        case qchy5 => (intro w hSw; (try dsimp only at hSw); go_simp; (try with_reducible rfl))
        (try simp only [Act.put, List.setIfInBounds_toArray, List.set_cons_zero, List.set_cons_succ])
        refine wpAnyH_take (i := 6) (oi := ⟨some 46, _, _, _, _, _⟩) (v := ?qcv6) rfl (by kernel_rfl) (by kernel_rfl) (by kernel_rfl) (fun _ _ _ h => h) (Or.inl ⟨by rfl, ?qchy6⟩) hHeld ?qcr6
        case qchy6 => (intro w hSw; (try dsimp only at hSw); go_simp; (try with_reducible rfl))
        (try simp only [Act.put, List.setIfInBounds_toArray, List.set_cons_zero, List.set_cons_succ])
        refine wpAnyH_take (i := 7) (oi := ⟨some 47, _, _, _, _, _⟩) (v := (.pointer (some ⟨gp, 0, none⟩))) rfl (by kernel_rfl) (by kernel_rfl) (by kernel_rfl) (fun _ _ _ h => h) (kn_yields_cell (by rfl) 67 _ rfl ga 0 rfl _ (fun _ h => h.1) _ Tryd.underlying67 rfl) hHeld ?qcr7
        (try simp only [Act.put, List.setIfInBounds_toArray, List.set_cons_zero, List.set_cons_succ])
        refine wpAnyH_take (i := 8) (oi := ⟨some 48, _, _, _, _, _⟩) (v := ?qcv8) rfl (by kernel_rfl) (by kernel_rfl) (by kernel_rfl) (fun _ _ _ h => h) (Or.inl ⟨by rfl, ?qchy8⟩) hHeld ?qcr8
        case qchy8 => (intro w hSw; (try dsimp only at hSw); go_simp; (try with_reducible rfl))
        (try simp only [Act.put, List.setIfInBounds_toArray, List.set_cons_zero, List.set_cons_succ])
        refine wpAnyH_take (i := 9) (oi := ⟨some 49, _, _, _, _, _⟩) (v := ?qcv9) rfl (by kernel_rfl) (by kernel_rfl) (by kernel_rfl) (fun _ _ _ h => h) (Or.inl ⟨by rfl, ?qchy9⟩) hHeld ?qcr9
        case qchy9 => (intro w hSw; (try dsimp only at hSw); go_simp; (try with_reducible rfl))
        (try simp only [Act.put, List.setIfInBounds_toArray, List.set_cons_zero, List.set_cons_succ])
        refine wpAnyH_take (i := 10) (oi := ⟨some 50, _, _, _, _, _⟩) (v := (.int .i64 (s.i : Int))) rfl (by kernel_rfl) (by kernel_rfl) (by kernel_rfl) (fun _ _ _ h => h) (kn_yields_cell (by rfl) 3 _ rfl gp 2 rfl _ (fun _ h => h.2) _ Tryd.underlying3 rfl) hHeld ?qcr10
        (try simp only [Act.put, List.setIfInBounds_toArray, List.set_cons_zero, List.set_cons_succ])
        refine wpAnyH_ready (rs := [11]) (by kernel_rfl) (by simp) ?qcc11
        refine AllReadyH.cons (o := ⟨some 51, _, _, _, _, _⟩) rfl (fun K hK => ?qcst11) AllReadyH.nil
        go_simp
        (refine (par_fail KN HT.out (by rw [← HN.out]; exact hd) hs hp s.i hi 50).mono ?_; rintro y wx ⟨rfl, K2⟩; replace KN := K2; clear K2)
        refine hK.out _ _ ?qck11 (fun hHeld2 => ?qcm11)
        case qck11 => exact ⟨KN.cell (g := ga) (o := 0) (by repeat (first | exact Has.here | refine Has.there ?_)) rfl, by first | exact KN.cell (g := gp) (o := 2) (by repeat (first | exact Has.here | refine Has.there ?_)) rfl | exact KN.cell (g := gp) (o := 2) (by repeat (first | exact Has.here | refine Has.there ?_)) (congrArg (fun i : Nat => some (Value.int .i64 (i : Int))) (failP_i el ec d s s.i 50))⟩
        clear hK K hHeld
        have hHeld := hHeld2; clear hHeld2
        (try simp only [Act.put, List.setIfInBounds_toArray, List.set_cons_zero, List.set_cons_succ])
        refine wpAnyH_done (by kernel_rfl) ?qcdone _
        go_wp2_with fail
        go_ret
        exact ⟨rfl, KN⟩
  | false =>
    have HB := Lib.hid hb
    have HRB : Hid (regB d s = false) := Lib.hid (by unfold regB; rw [hb]; rfl)
    have HV : Hid (regV d s = 0) := Lib.hid (by unfold regV; rw [HRB.out]; rfl)
    have HP : Hid (regP el ec d s = failP el ec d s s.i 50) := Lib.hid (by unfold regP; rw [HRB.out]; rfl)
    rw [HV.out, HP.out]
    clear hb hT
    go_enter Tryd.func74, Tryd.ntmps74
    go_upto_region 6 with (first | (go_at_call 70; refine (par_kind KN HT.out hd hi 1 (by decide)).mono ?_; rw [HB.out]; rintro y wx ⟨rfl, K2⟩; replace KN := K2; clear K2) | ((with_reducible refine wpList_gate ?_); first | ((refine gate_load (by rfl) ?_); first | (refine ks_load1 KN 67 Tryd.underlying67 ?_) | (refine ks_load1 KN 46 Tryd.underlying46 ?_) | (refine ks_load1 KN 3 Tryd.underlying3 ?_) | (refine ks_load1 KN 9 Tryd.underlying9 ?_)) | ((refine gate_store (by rfl) ?_); first | (refine ks_store1 KN 3 ?_; clear KN; intro wx KN))))
    (try go_frame)
    replace KN := KN.drew
    refine wp_region_held_drew (S := (fun w' => w'.cell? ⟨ga, 0, none⟩ = some (.pointer (some ⟨gp, 0, none⟩)) ∧ w'.cell? ⟨gp, 2, none⟩ = some (.int .i64 (s.i : Int)))) (by kernel_rfl) ?qdhS (fun hHeld => ?qdrest)
    case qdhS => exact ⟨KN.cell (g := ga) (o := 0) (by repeat (first | exact Has.here | refine Has.there ?_)) rfl, by first | exact KN.cell (g := gp) (o := 2) (by repeat (first | exact Has.here | refine Has.there ?_)) rfl | exact KN.cell (g := gp) (o := 2) (by repeat (first | exact Has.here | refine Has.there ?_)) (congrArg (fun i : Nat => some (Value.int .i64 (i : Int))) (failP_i el ec d s s.i 50))⟩
    refine wpAnyH_take (i := 0) (oi := ⟨some 40, _, _, _, _, _⟩) (v := ?qdv0) rfl (by kernel_rfl) (by kernel_rfl) (by kernel_rfl) (fun _ _ _ h => h) (Or.inl ⟨by rfl, ?qdhy0⟩) hHeld ?qdr0
    case qdhy0 => (intro w hSw; (try dsimp only at hSw); go_simp; (try with_reducible rfl))
    (try simp only [Act.put, List.setIfInBounds_toArray, List.set_cons_zero, List.set_cons_succ])
    refine wpAnyH_take (i := 1) (oi := ⟨some 41, _, _, _, _, _⟩) (v := ?qdv1) rfl (by kernel_rfl) (by kernel_rfl) (by kernel_rfl) (fun _ _ _ h => h) (Or.inl ⟨by rfl, ?qdhy1⟩) hHeld ?qdr1
    case qdhy1 => (intro w hSw; (try dsimp only at hSw); go_simp; (try with_reducible rfl))
    (try simp only [Act.put, List.setIfInBounds_toArray, List.set_cons_zero, List.set_cons_succ])
    refine wpAnyH_take (i := 2) (oi := ⟨some 42, _, _, _, _, _⟩) (v := ?qdv2) rfl (by kernel_rfl) (by kernel_rfl) (by kernel_rfl) (fun _ _ _ h => h) (Or.inl ⟨by rfl, ?qdhy2⟩) hHeld ?qdr2
    case qdhy2 => (intro w hSw; (try dsimp only at hSw); go_simp; (try with_reducible rfl))
    (try simp only [Act.put, List.setIfInBounds_toArray, List.set_cons_zero, List.set_cons_succ])
    refine wpAnyH_take (i := 3) (oi := ⟨some 43, _, _, _, _, _⟩) (v := (.pointer (some ⟨gp, 0, none⟩))) rfl (by kernel_rfl) (by kernel_rfl) (by kernel_rfl) (fun _ _ _ h => h) (kn_yields_cell (by rfl) 67 _ rfl ga 0 rfl _ (fun _ h => h.1) _ Tryd.underlying67 rfl) hHeld ?qdr3
    (try simp only [Act.put, List.setIfInBounds_toArray, List.set_cons_zero, List.set_cons_succ])
    refine wpAnyH_take (i := 4) (oi := ⟨some 44, _, _, _, _, _⟩) (v := ?qdv4) rfl (by kernel_rfl) (by kernel_rfl) (by kernel_rfl) (fun _ _ _ h => h) (Or.inl ⟨by rfl, ?qdhy4⟩) hHeld ?qdr4
    case qdhy4 => (intro w hSw; (try dsimp only at hSw); go_simp; (try with_reducible rfl))
    (try simp only [Act.put, List.setIfInBounds_toArray, List.set_cons_zero, List.set_cons_succ])
    refine wpAnyH_take (i := 5) (oi := ⟨some 45, _, _, _, _, _⟩) (v := ?qdv5) rfl (by kernel_rfl) (by kernel_rfl) (by kernel_rfl) (fun _ _ _ h => h) (Or.inl ⟨by rfl, ?qdhy5⟩) hHeld ?qdr5
    case qdhy5 => (intro w hSw; (try dsimp only at hSw); go_simp; (try with_reducible rfl))
    (try simp only [Act.put, List.setIfInBounds_toArray, List.set_cons_zero, List.set_cons_succ])
    refine wpAnyH_take (i := 6) (oi := ⟨some 46, _, _, _, _, _⟩) (v := ?qdv6) rfl (by kernel_rfl) (by kernel_rfl) (by kernel_rfl) (fun _ _ _ h => h) (Or.inl ⟨by rfl, ?qdhy6⟩) hHeld ?qdr6
    case qdhy6 => (intro w hSw; (try dsimp only at hSw); go_simp; (try with_reducible rfl))
    (try simp only [Act.put, List.setIfInBounds_toArray, List.set_cons_zero, List.set_cons_succ])
    refine wpAnyH_take (i := 7) (oi := ⟨some 47, _, _, _, _, _⟩) (v := (.pointer (some ⟨gp, 0, none⟩))) rfl (by kernel_rfl) (by kernel_rfl) (by kernel_rfl) (fun _ _ _ h => h) (kn_yields_cell (by rfl) 67 _ rfl ga 0 rfl _ (fun _ h => h.1) _ Tryd.underlying67 rfl) hHeld ?qdr7
    (try simp only [Act.put, List.setIfInBounds_toArray, List.set_cons_zero, List.set_cons_succ])
    refine wpAnyH_take (i := 8) (oi := ⟨some 48, _, _, _, _, _⟩) (v := ?qdv8) rfl (by kernel_rfl) (by kernel_rfl) (by kernel_rfl) (fun _ _ _ h => h) (Or.inl ⟨by rfl, ?qdhy8⟩) hHeld ?qdr8
    case qdhy8 => (intro w hSw; (try dsimp only at hSw); go_simp; (try with_reducible rfl))
    (try simp only [Act.put, List.setIfInBounds_toArray, List.set_cons_zero, List.set_cons_succ])
    refine wpAnyH_take (i := 9) (oi := ⟨some 49, _, _, _, _, _⟩) (v := ?qdv9) rfl (by kernel_rfl) (by kernel_rfl) (by kernel_rfl) (fun _ _ _ h => h) (Or.inl ⟨by rfl, ?qdhy9⟩) hHeld ?qdr9
    case qdhy9 => (intro w hSw; (try dsimp only at hSw); go_simp; (try with_reducible rfl))
    (try simp only [Act.put, List.setIfInBounds_toArray, List.set_cons_zero, List.set_cons_succ])
    refine wpAnyH_take (i := 10) (oi := ⟨some 50, _, _, _, _, _⟩) (v := (.int .i64 (s.i : Int))) rfl (by kernel_rfl) (by kernel_rfl) (by kernel_rfl) (fun _ _ _ h => h) (kn_yields_cell (by rfl) 3 _ rfl gp 2 rfl _ (fun _ h => h.2) _ Tryd.underlying3 rfl) hHeld ?qdr10
    (try simp only [Act.put, List.setIfInBounds_toArray, List.set_cons_zero, List.set_cons_succ])
    refine wpAnyH_ready (rs := [11]) (by kernel_rfl) (by simp) ?qdc11
    refine AllReadyH.cons (o := ⟨some 51, _, _, _, _, _⟩) rfl (fun K hK => ?qdst11) AllReadyH.nil
    go_simp
    (refine (par_fail KN HT.out hd hs hp s.i hi 50).mono ?_; rintro y wx ⟨rfl, K2⟩; replace KN := K2; clear K2)
    refine hK.out _ _ ?qdk11 (fun hHeld2 => ?qdm11)
    case qdk11 => exact ⟨KN.cell (g := ga) (o := 0) (by repeat (first | exact Has.here | refine Has.there ?_)) rfl, by first | exact KN.cell (g := gp) (o := 2) (by repeat (first | exact Has.here | refine Has.there ?_)) rfl | exact KN.cell (g := gp) (o := 2) (by repeat (first | exact Has.here | refine Has.there ?_)) (congrArg (fun i : Nat => some (Value.int .i64 (i : Int))) (failP_i el ec d s s.i 50))⟩
    clear hK K hHeld
    have hHeld := hHeld2; clear hHeld2
    (try simp only [Act.put, List.setIfInBounds_toArray, List.set_cons_zero, List.set_cons_succ])
    refine wpAnyH_done (by kernel_rfl) ?qddone _
    go_wp2_with fail
    go_ret
    exact ⟨rfl, KN⟩
theorem row_at1 {w : World} {a : Option Addr} {n c : Nat} {L : List (List Value)} (h : Row w (.slice a n c) 1 L) {i : Nat} {x : Value} (hi : L[i]? = some [x]) : ∃ b off, a = some ⟨b, off, none⟩ ∧ b < w.heap.size ∧ c ≤ maxLen ∧ w.cell? ⟨b, off + i, none⟩ = some x := by
  rcases h.2 with ⟨h0, _⟩ | ⟨b, off, cap, he, _, _, hm, hb, hc⟩
  · subst h0; simp at hi
  · simp only [Value.slice.injEq] at he
    obtain ⟨rfl, _, rfl⟩ := he
    have := hc i [x] 0 x hi rfl
    rw [Nat.mul_one, Nat.add_zero] at this
    exact ⟨b, off, rfl, hb, hm, this⟩
theorem labelAt_first {s : List UInt8} : ∀ {ls : Labels} {k : Nat} {y : List UInt8 × Nat}, ls[k]? = some y → y.1 = s → (∀ x ∈ ls.take k, ¬ x.1 = s) → labelAt ls s = some y.2
  | [], _, _, h, _, _ => by simp at h
  | a :: l, 0, y, h, hq, _ => by
    simp at h
    subst h
    unfold labelAt
    rw [List.find?_cons]
    simp [hq]
  | a :: l, k + 1, y, h, hq, hno => by
    have h1 : ¬ a.1 = s := hno a (by simp)
    have := labelAt_first (ls := l) (k := k) (by simpa using h) hq (fun x hx => hno x (by simp [hx]))
    unfold labelAt at this ⊢
    rw [List.find?_cons]
    simp only [h1, decide_false]
    exact this
/-- The labels: their names and places, each a slice of its own. -/
def labN (ls : Labels) : List (List Value) := ls.map fun x => [Value.string (str x.1)]
def labP (ls : Labels) : List (List Value) := ls.map fun x => [Value.int .i64 ((x.2 : Nat) : Int)]
def findI (ls : Labels) (s : List UInt8) : Int := match labelAt ls s with
  | some k => (k : Int)
  | none => -1
set_option maxRecDepth 100000 in
set_option maxHeartbeats 4000000 in
theorem asr_find {W w : World} {l : Ents} {gp ga : Nat} {out us lv pv : Value} {ls : Labels} {s : List UInt8}
    (KN : Kn [] W w ((ga, At (ascC gp out us lv pv) 72) :: l)) (hl : Row w lv 1 (labN ls)) (hq : Row w pv 1 (labP ls)) :
    Calls Tryd.prog 34 #[.pointer (some ⟨ga, 0, none⟩), .string (str s)] w fun e w' => e = .returned (.int .i64 (findI ls s)) ∧ Below w.heap.size w w' := by
  obtain ⟨la, lc, rfl⟩ := hl.form
  obtain ⟨qa, qc, rfl⟩ := hq.form
  obtain ⟨n, hn⟩ : ∃ n, n = ls.length := ⟨_, rfl⟩
  have hnl : (labN ls).length = n := by unfold labN; rw [List.length_map, hn]
  have hnp : (labP ls).length = n := by unfold labP; rw [List.length_map, hn]
  have hm := hl.1
  rw [hnl] at hm
  unfold maxLen at hm
  rw [hnl, hnp] at KN
  obtain ⟨b, hb⟩ : ∃ b, b = str s := ⟨_, rfl⟩
  rw [← hb]
  have HB := Lib.hid hb
  have HL := Lib.hid hl
  have HQ := Lib.hid hq
  have HN := Lib.hid hn
  have K0 := Lib.hid KN
  have HBEL : Hid (Below w.heap.size w w) := Lib.hid (Below.refl _ _)
  clear hl hq hn hb hnl hnp
  have x3 := KN.cell (g := ga) (o := 3) (by repeat (first | exact Has.here | refine Has.there ?_)) rfl
  have x4 := KN.cell (g := ga) (o := 4) (by repeat (first | exact Has.here | refine Has.there ?_)) rfl
  clear KN
  go_enter Tryd.func34, Tryd.ntmps34
  go_wp2_with fail
  go_loop [5] (fun i => ∃ k : Nat, i = .int .i64 (k : Int) ∧ k ≤ n ∧ ∀ x ∈ ls.take k, ¬ x.1 = s) (fun i => n - (intOf i).toNat)
  case atStart => exact ⟨0, rfl, Nat.zero_le _, by simp⟩
  case round =>
    obtain ⟨k, rfl, hk, hno⟩ := hrel
    have HNO := Lib.hid hno
    clear hno
    by_cases hlt : k < n
    · obtain ⟨y, hy⟩ : ∃ y, ls[k]? = some y := ⟨_, List.getElem?_eq_getElem (by rw [← HN.out]; exact hlt)⟩
      obtain ⟨lb, lo, hle, hlb, hlc, y1⟩ := row_at1 HL.out (i := k) (x := .string (str y.1)) (by unfold labN; rw [List.getElem?_map, hy]; rfl)
      obtain ⟨qb, qo, hqe, hqb, hqc, y2⟩ := row_at1 HQ.out (i := k) (x := .int .i64 ((y.2 : Nat) : Int)) (by unfold labP; rw [List.getElem?_map, hy]; rfl)
      subst hle
      subst hqe
      obtain ⟨r, hr⟩ : ∃ r, r = str y.1 := ⟨_, rfl⟩
      have he : (r.toList == b.toList) = decide (y.1 = s) := by
        rw [HB.out, hr, Lib.toList_data, Lib.toList_data, data_str, data_str, Bool.eq_iff_iff]; simp
      rw [← hr] at y1
      clear hr
      by_cases hq : y.1 = s
      · rw [decide_eq_true hq] at he
        have hf : findI ls s = ((y.2 : Nat) : Int) := by
          unfold findI
          rw [labelAt_first hy hq HNO.out]
        have HF := Lib.hid hf
        clear hq hf hy
        go_wp2_with fail
        go_ret
        exact ⟨by rw [HF.out]; rfl, HBEL.out⟩
      · rw [decide_eq_false hq] at he
        have HY := Lib.hid hy
        have HNE := Lib.hid hq
        clear hq hy
        go_wp2_with fail
        go_round
        case rel =>
          refine ⟨k + 1, by go_num, by omega, fun x hx => ?_⟩
          rw [List.take_add_one, HY.out] at hx
          simp only [Option.toList_some, List.mem_append, List.mem_singleton] at hx
          rcases hx with hx | rfl
          · exact HNO.out x hx
          · exact HNE.out
        case measure => simp [intOf]; omega
    · have hf : findI ls s = -1 := by
        unfold findI
        rw [labelAt_noneG (fun x hx => HNO.out x (by rw [List.take_of_length_le (by rw [← HN.out]; omega)]; exact hx))]
      have HF := Lib.hid hf
      clear hf
      go_wp2_with fail
      go_ret
      exact ⟨by rw [HF.out]; rfl, HBEL.out⟩
end Go.Proofs.YtemigcdieghkfaaDoor
