/- The reference's assembler: a label. -/
import Derived.Test.YtemigcdieghkfaaDoorPkAsrVal
set_option linter.unusedVariables false
set_option linter.unusedSimpArgs false
set_option linter.unusedSectionVars false
namespace Go.Proofs.YtemigcdieghkfaaDoor
open Go.RowKit Go.BigFrame

def labB (d : List Tok) (s : PSt) : Bool := kindB d s 1 && isP d (s.i + 1) [58]
def LabPost (W : World) (gp ga n : Nat) (sv tv out us : Value) (el ec : Int) (d : List Tok) (s : PSt) (ls : Labels) (R : Ents) (e : Ending) (w' : World) : Prop :=
  ∃ (nv qv : Value) (nl ql : Ents) (r : PSt) (b : Bool) (ls' : Labels), e = .returned (.bool b) ∧ OwnT 9 1 nv (labN ls') nl ∧ OwnT 3 1 qv (labP ls') ql ∧
    Kn [] W w' ((gp, At (parC sv tv r) 74) :: (ga, At (ascC gp out us nv qv) 72) :: (R ++ (ql ++ nl))) ∧
    ((labB d s = false ∧ b = false ∧ r = s ∧ ls' = ls) ∨
     (labB d s = true ∧ 0 ≤ regOf (tk d s.i).text ∧ b = false ∧ r = failP el ec d s s.i 50 ∧ ls' = ls) ∨
     (labB d s = true ∧ ¬ 0 ≤ regOf (tk d s.i).text ∧ b = true ∧ r = stepP (stepP (if 0 ≤ findI ls (tk d s.i).text then failP el ec d s s.i 72 else s)) ∧ ls' = ls ++ [((tk d s.i).text, n)]))
set_option maxRecDepth 100000 in
set_option maxHeartbeats 40000000 in
theorem asr_label {W w : World} {R nl ql : Ents} {gp ga n : Nat} {oa : Option Addr} {oc : Nat} {tv us nv qv : Value} {sv : ByteArray} {s : PSt} {d : List Tok} {el ec : Int} {ls : Labels}
    (KN : Kn [] W w ((gp, At (parC (.string sv) tv s) 74) :: (ga, At (ascC gp (.slice oa n oc) us nv qv) 72) :: (R ++ (ql ++ nl)))) (OWn : OwnT 9 1 nv (labN ls) nl) (OWq : OwnT 3 1 qv (labP ls) ql) (hL : ls.length ≤ 65536) (hn : n ≤ 65536) (hT : TokRd W tv d) (hd : d.length ≤ 65536) (hi : s.i ≤ 69000) (hs : sv.size ≤ 65536) (hp : Hid (adv sv.data.toList (1, 1) = (el, ec))) :
    Calls Tryd.prog 32 #[.pointer (some ⟨ga, 0, none⟩)] w (LabPost W gp ga n (.string sv) tv (.slice oa n oc) us el ec d s ls R) := by
  have HT := Lib.hid hT
  have HON := Lib.hid OWn
  have HOQ := Lib.hid OWq
  obtain ⟨na, nc, hnv⟩ := OWn.form
  obtain ⟨qa, qc, hqv⟩ := OWq.form
  subst hnv
  subst hqv
  obtain ⟨m, hm⟩ : ∃ m, m = ls.length := ⟨_, rfl⟩
  have HNL : Hid ((labN ls).length = m) := Lib.hid (by unfold labN; rw [List.length_map, hm])
  have HQL : Hid ((labP ls).length = m) := Lib.hid (by unfold labP; rw [List.length_map, hm])
  rw [HNL.out] at HON KN
  rw [HQL.out] at HOQ KN
  rw [← hm] at hL
  obtain ⟨a, c, rfl, hc⟩ := hT
  obtain ⟨dn, hdn⟩ : ∃ dn, dn = d.length := ⟨_, rfl⟩
  have HN := Lib.hid hdn
  have HC := Lib.hid hc
  rw [← hdn] at hd KN HT ⊢
  clear OWn OWq hm hdn hc
  have hwr1 : IntKind.i64.wrap ((s.i : Int) + 1) = (s.i : Int) + 1 := by rw [IntKind.wrap_i64]; omega
  go_enter Tryd.func32, Tryd.ntmps32
  go_upto_region 2 with (first | ((with_reducible refine wpList_gate ?_); first | ((refine gate_load (by rfl) ?_); first | (refine ks_load1 KN 67 Tryd.underlying67 ?_) | (refine ks_load1 KN 3 Tryd.underlying3 ?_) | (refine ks_load1 KN 46 Tryd.underlying46 ?_) | (refine ks_load1 KN 9 Tryd.underlying9 ?_) | (refine ks_load1 KN 70 Tryd.underlying70 ?_) | (refine ks_load1 KN 31 Tryd.underlying31 ?_) | (refine ks_load1 KN 23 Tryd.underlying23 ?_)) | ((refine gate_store (by rfl) ?_); first | (refine ks_store1 KN 70 ?_; clear KN; intro wx KN) | (refine ks_store1 KN 31 ?_; clear KN; intro wx KN) | (refine ks_store1 KN 3 ?_; clear KN; intro wx KN))))
  (try go_frame)
  go_cut [54] (fun c54 wz => c54 = .bool (!labB d s) ∧ Kn [] W wz ((gp, At (parC (.string sv) (.slice a dn c) s) 74) :: (ga, At (ascC gp (.slice oa n oc) us (.slice na m nc) (.slice qa m qc)) 72) :: (R ++ (ql ++ nl))))
  case first =>
    cases hb : kindB d s 1 with
    | false =>
      have HB := Lib.hid hb
      have HLB : Hid (labB d s = false) := Lib.hid (by unfold labB; rw [hb]; rfl)
      clear hb
      replace KN := KN.drew
      refine wp_region_held_drew (S := (fun _ => True)) (by kernel_rfl) ?qahS (fun hHeld => ?qarest)
      case qahS => exact trivial
      refine wpAnyH_take (i := 0) (oi := ⟨some 9, _, _, _, _, _⟩) (v := ?qav0) rfl (by kernel_rfl) (by kernel_rfl) (by kernel_rfl) (fun _ _ _ h => h) (Or.inl ⟨by rfl, ?qahy0⟩) hHeld ?qar0
      case qahy0 => (intro w hSw; (try dsimp only at hSw); go_simp; (try with_reducible rfl))
      (try simp only [Act.put, List.setIfInBounds_toArray, List.set_cons_zero, List.set_cons_succ])
      refine wpAnyH_ready (rs := [1]) (by kernel_rfl) (by simp) ?qac1
      refine AllReadyH.cons (o := ⟨some 10, _, _, _, _, _⟩) rfl (fun K hK => ?qast1) AllReadyH.nil
      go_simp
      (refine (par_kind KN HT.out (by rw [← HN.out]; exact hd) (by omega) 1 (by decide)).mono ?_; rw [HB.out]; rintro y wx ⟨rfl, K2⟩; replace KN := K2; clear K2)
      refine hK.out _ _ ?qak1 (fun hHeld2 => ?qam1)
      case qak1 => exact trivial
      clear hK K hHeld
      have hHeld := hHeld2; clear hHeld2
      (try simp only [Act.put, List.setIfInBounds_toArray, List.set_cons_zero, List.set_cons_succ])
      refine wpAnyH_take (i := 2) (oi := ⟨some 11, _, _, _, _, _⟩) (v := ?qav2) rfl (by kernel_rfl) (by kernel_rfl) (by kernel_rfl) (fun _ _ _ h => h) (Or.inl ⟨by rfl, ?qahy2⟩) hHeld ?qar2
      case qahy2 => (intro w hSw; (try dsimp only at hSw); go_simp; (try with_reducible rfl))
      (try simp only [Act.put, List.setIfInBounds_toArray, List.set_cons_zero, List.set_cons_succ])
      refine wpAnyH_take (i := 3) (oi := ⟨some 12, _, _, _, _, _⟩) (v := ?qav3) rfl (by kernel_rfl) (by kernel_rfl) (by kernel_rfl) (fun _ _ _ h => h) (Or.inl ⟨by rfl, ?qahy3⟩) hHeld ?qar3
      case qahy3 => (intro w hSw; (try dsimp only at hSw); go_simp; (try with_reducible rfl))
      (try simp only [Act.put, List.setIfInBounds_toArray, List.set_cons_zero, List.set_cons_succ])
      refine wpAnyH_take (i := 4) (oi := ⟨some 13, _, _, _, _, _⟩) (v := undef) rfl (by kernel_rfl) (by kernel_rfl) (by kernel_rfl) (fun _ _ _ h => h) (Or.inr ⟨by rfl, rfl⟩) hHeld ?qar4
      (try simp only [Act.put, List.setIfInBounds_toArray, List.set_cons_zero, List.set_cons_succ])
      refine wpAnyH_take (i := 5) (oi := ⟨some 14, _, _, _, _, _⟩) (v := undef) rfl (by kernel_rfl) (by kernel_rfl) (by kernel_rfl) (fun _ _ _ h => h) (Or.inr ⟨by rfl, rfl⟩) hHeld ?qar5
      (try simp only [Act.put, List.setIfInBounds_toArray, List.set_cons_zero, List.set_cons_succ])
      refine wpAnyH_take (i := 6) (oi := ⟨some 15, _, _, _, _, _⟩) (v := undef) rfl (by kernel_rfl) (by kernel_rfl) (by kernel_rfl) (fun _ _ _ h => h) (Or.inr ⟨by rfl, rfl⟩) hHeld ?qar6
      (try simp only [Act.put, List.setIfInBounds_toArray, List.set_cons_zero, List.set_cons_succ])
      refine wpAnyH_take (i := 7) (oi := ⟨some 16, _, _, _, _, _⟩) (v := undef) rfl (by kernel_rfl) (by kernel_rfl) (by kernel_rfl) (fun _ _ _ h => h) (Or.inr ⟨by rfl, rfl⟩) hHeld ?qar7
      (try simp only [Act.put, List.setIfInBounds_toArray, List.set_cons_zero, List.set_cons_succ])
      refine wpAnyH_take (i := 8) (oi := ⟨some 17, _, _, _, _, _⟩) (v := undef) rfl (by kernel_rfl) (by kernel_rfl) (by kernel_rfl) (fun _ _ _ h => h) (Or.inr ⟨by rfl, rfl⟩) hHeld ?qar8
      (try simp only [Act.put, List.setIfInBounds_toArray, List.set_cons_zero, List.set_cons_succ])
      refine wpAnyH_take (i := 9) (oi := ⟨some 18, _, _, _, _, _⟩) (v := undef) rfl (by kernel_rfl) (by kernel_rfl) (by kernel_rfl) (fun _ _ _ h => h) (Or.inr ⟨by rfl, rfl⟩) hHeld ?qar9
      (try simp only [Act.put, List.setIfInBounds_toArray, List.set_cons_zero, List.set_cons_succ])
      refine wpAnyH_take (i := 10) (oi := ⟨some 19, _, _, _, _, _⟩) (v := undef) rfl (by kernel_rfl) (by kernel_rfl) (by kernel_rfl) (fun _ _ _ h => h) (Or.inr ⟨by rfl, rfl⟩) hHeld ?qar10
      (try simp only [Act.put, List.setIfInBounds_toArray, List.set_cons_zero, List.set_cons_succ])
      refine wpAnyH_take (i := 11) (oi := ⟨some 20, _, _, _, _, _⟩) (v := undef) rfl (by kernel_rfl) (by kernel_rfl) (by kernel_rfl) (fun _ _ _ h => h) (Or.inr ⟨by rfl, rfl⟩) hHeld ?qar11
      (try simp only [Act.put, List.setIfInBounds_toArray, List.set_cons_zero, List.set_cons_succ])
      refine wpAnyH_take (i := 12) (oi := ⟨some 21, _, _, _, _, _⟩) (v := undef) rfl (by kernel_rfl) (by kernel_rfl) (by kernel_rfl) (fun _ _ _ h => h) (Or.inr ⟨by rfl, rfl⟩) hHeld ?qar12
      (try simp only [Act.put, List.setIfInBounds_toArray, List.set_cons_zero, List.set_cons_succ])
      refine wpAnyH_take (i := 13) (oi := ⟨some 22, _, _, _, _, _⟩) (v := undef) rfl (by kernel_rfl) (by kernel_rfl) (by kernel_rfl) (fun _ _ _ h => h) (Or.inr ⟨by rfl, rfl⟩) hHeld ?qar13
      (try simp only [Act.put, List.setIfInBounds_toArray, List.set_cons_zero, List.set_cons_succ])
      refine wpAnyH_take (i := 14) (oi := ⟨some 23, _, _, _, _, _⟩) (v := undef) rfl (by kernel_rfl) (by kernel_rfl) (by kernel_rfl) (fun _ _ _ h => h) (Or.inr ⟨by rfl, rfl⟩) hHeld ?qar14
      (try simp only [Act.put, List.setIfInBounds_toArray, List.set_cons_zero, List.set_cons_succ])
      refine wpAnyH_take (i := 15) (oi := ⟨some 24, _, _, _, _, _⟩) (v := ?qav15) rfl (by kernel_rfl) (by kernel_rfl) (by kernel_rfl) (fun _ _ _ h => h) (Or.inl ⟨by rfl, ?qahy15⟩) hHeld ?qar15
      case qahy15 => (intro w hSw; (try dsimp only at hSw); go_simp; (try with_reducible rfl))
      (try simp only [Act.put, List.setIfInBounds_toArray, List.set_cons_zero, List.set_cons_succ])
      refine wpAnyH_take (i := 16) (oi := ⟨some 25, _, _, _, _, _⟩) (v := ?qav16) rfl (by kernel_rfl) (by kernel_rfl) (by kernel_rfl) (fun _ _ _ h => h) (Or.inl ⟨by rfl, ?qahy16⟩) hHeld ?qar16
      case qahy16 => (intro w hSw; (try dsimp only at hSw); go_simp; (try with_reducible rfl))
      (try simp only [Act.put, List.setIfInBounds_toArray, List.set_cons_zero, List.set_cons_succ])
      refine wpAnyH_take (i := 17) (oi := ⟨some 26, _, _, _, _, _⟩) (v := undef) rfl (by kernel_rfl) (by kernel_rfl) (by kernel_rfl) (fun _ _ _ h => h) (Or.inr ⟨by rfl, rfl⟩) hHeld ?qar17
      (try simp only [Act.put, List.setIfInBounds_toArray, List.set_cons_zero, List.set_cons_succ])
      refine wpAnyH_take (i := 18) (oi := ⟨some 27, _, _, _, _, _⟩) (v := undef) rfl (by kernel_rfl) (by kernel_rfl) (by kernel_rfl) (fun _ _ _ h => h) (Or.inr ⟨by rfl, rfl⟩) hHeld ?qar18
      (try simp only [Act.put, List.setIfInBounds_toArray, List.set_cons_zero, List.set_cons_succ])
      refine wpAnyH_take (i := 19) (oi := ⟨some 28, _, _, _, _, _⟩) (v := undef) rfl (by kernel_rfl) (by kernel_rfl) (by kernel_rfl) (fun _ _ _ h => h) (Or.inr ⟨by rfl, rfl⟩) hHeld ?qar19
      (try simp only [Act.put, List.setIfInBounds_toArray, List.set_cons_zero, List.set_cons_succ])
      refine wpAnyH_take (i := 20) (oi := ⟨some 29, _, _, _, _, _⟩) (v := undef) rfl (by kernel_rfl) (by kernel_rfl) (by kernel_rfl) (fun _ _ _ h => h) (Or.inr ⟨by rfl, rfl⟩) hHeld ?qar20
      (try simp only [Act.put, List.setIfInBounds_toArray, List.set_cons_zero, List.set_cons_succ])
      refine wpAnyH_take (i := 21) (oi := ⟨some 30, _, _, _, _, _⟩) (v := undef) rfl (by kernel_rfl) (by kernel_rfl) (by kernel_rfl) (fun _ _ _ h => h) (Or.inr ⟨by rfl, rfl⟩) hHeld ?qar21
      (try simp only [Act.put, List.setIfInBounds_toArray, List.set_cons_zero, List.set_cons_succ])
      refine wpAnyH_take (i := 22) (oi := ⟨some 31, _, _, _, _, _⟩) (v := undef) rfl (by kernel_rfl) (by kernel_rfl) (by kernel_rfl) (fun _ _ _ h => h) (Or.inr ⟨by rfl, rfl⟩) hHeld ?qar22
      (try simp only [Act.put, List.setIfInBounds_toArray, List.set_cons_zero, List.set_cons_succ])
      refine wpAnyH_take (i := 23) (oi := ⟨some 32, _, _, _, _, _⟩) (v := undef) rfl (by kernel_rfl) (by kernel_rfl) (by kernel_rfl) (fun _ _ _ h => h) (Or.inr ⟨by rfl, rfl⟩) hHeld ?qar23
      (try simp only [Act.put, List.setIfInBounds_toArray, List.set_cons_zero, List.set_cons_succ])
      refine wpAnyH_take (i := 24) (oi := ⟨some 33, _, _, _, _, _⟩) (v := undef) rfl (by kernel_rfl) (by kernel_rfl) (by kernel_rfl) (fun _ _ _ h => h) (Or.inr ⟨by rfl, rfl⟩) hHeld ?qar24
      (try simp only [Act.put, List.setIfInBounds_toArray, List.set_cons_zero, List.set_cons_succ])
      refine wpAnyH_take (i := 25) (oi := ⟨some 34, _, _, _, _, _⟩) (v := undef) rfl (by kernel_rfl) (by kernel_rfl) (by kernel_rfl) (fun _ _ _ h => h) (Or.inr ⟨by rfl, rfl⟩) hHeld ?qar25
      (try simp only [Act.put, List.setIfInBounds_toArray, List.set_cons_zero, List.set_cons_succ])
      refine wpAnyH_take (i := 26) (oi := ⟨some 35, _, _, _, _, _⟩) (v := undef) rfl (by kernel_rfl) (by kernel_rfl) (by kernel_rfl) (fun _ _ _ h => h) (Or.inr ⟨by rfl, rfl⟩) hHeld ?qar26
      (try simp only [Act.put, List.setIfInBounds_toArray, List.set_cons_zero, List.set_cons_succ])
      refine wpAnyH_take (i := 27) (oi := ⟨some 36, _, _, _, _, _⟩) (v := undef) rfl (by kernel_rfl) (by kernel_rfl) (by kernel_rfl) (fun _ _ _ h => h) (Or.inr ⟨by rfl, rfl⟩) hHeld ?qar27
      (try simp only [Act.put, List.setIfInBounds_toArray, List.set_cons_zero, List.set_cons_succ])
      refine wpAnyH_take (i := 28) (oi := ⟨some 37, _, _, _, _, _⟩) (v := undef) rfl (by kernel_rfl) (by kernel_rfl) (by kernel_rfl) (fun _ _ _ h => h) (Or.inr ⟨by rfl, rfl⟩) hHeld ?qar28
      (try simp only [Act.put, List.setIfInBounds_toArray, List.set_cons_zero, List.set_cons_succ])
      refine wpAnyH_take (i := 29) (oi := ⟨some 38, _, _, _, _, _⟩) (v := undef) rfl (by kernel_rfl) (by kernel_rfl) (by kernel_rfl) (fun _ _ _ h => h) (Or.inr ⟨by rfl, rfl⟩) hHeld ?qar29
      (try simp only [Act.put, List.setIfInBounds_toArray, List.set_cons_zero, List.set_cons_succ])
      refine wpAnyH_take (i := 30) (oi := ⟨some 39, _, _, _, _, _⟩) (v := ?qav30) rfl (by kernel_rfl) (by kernel_rfl) (by kernel_rfl) (fun _ _ _ h => h) (Or.inl ⟨by rfl, ?qahy30⟩) hHeld ?qar30
      case qahy30 => (intro w hSw; (try dsimp only at hSw); go_simp; (try with_reducible rfl))
      (try simp only [Act.put, List.setIfInBounds_toArray, List.set_cons_zero, List.set_cons_succ])
      refine wpAnyH_take (i := 31) (oi := ⟨some 40, _, _, _, _, _⟩) (v := ?qav31) rfl (by kernel_rfl) (by kernel_rfl) (by kernel_rfl) (fun _ _ _ h => h) (Or.inl ⟨by rfl, ?qahy31⟩) hHeld ?qar31
      case qahy31 => (intro w hSw; (try dsimp only at hSw); go_simp; (try with_reducible rfl))
      (try simp only [Act.put, List.setIfInBounds_toArray, List.set_cons_zero, List.set_cons_succ])
      refine wpAnyH_take (i := 32) (oi := ⟨some 41, _, _, _, _, _⟩) (v := undef) rfl (by kernel_rfl) (by kernel_rfl) (by kernel_rfl) (fun _ _ _ h => h) (Or.inr ⟨by rfl, rfl⟩) hHeld ?qar32
      (try simp only [Act.put, List.setIfInBounds_toArray, List.set_cons_zero, List.set_cons_succ])
      refine wpAnyH_take (i := 33) (oi := ⟨some 42, _, _, _, _, _⟩) (v := undef) rfl (by kernel_rfl) (by kernel_rfl) (by kernel_rfl) (fun _ _ _ h => h) (Or.inr ⟨by rfl, rfl⟩) hHeld ?qar33
      (try simp only [Act.put, List.setIfInBounds_toArray, List.set_cons_zero, List.set_cons_succ])
      refine wpAnyH_take (i := 34) (oi := ⟨some 43, _, _, _, _, _⟩) (v := undef) rfl (by kernel_rfl) (by kernel_rfl) (by kernel_rfl) (fun _ _ _ h => h) (Or.inr ⟨by rfl, rfl⟩) hHeld ?qar34
      (try simp only [Act.put, List.setIfInBounds_toArray, List.set_cons_zero, List.set_cons_succ])
      refine wpAnyH_take (i := 35) (oi := ⟨some 44, _, _, _, _, _⟩) (v := undef) rfl (by kernel_rfl) (by kernel_rfl) (by kernel_rfl) (fun _ _ _ h => h) (Or.inr ⟨by rfl, rfl⟩) hHeld ?qar35
      (try simp only [Act.put, List.setIfInBounds_toArray, List.set_cons_zero, List.set_cons_succ])
      refine wpAnyH_take (i := 36) (oi := ⟨some 45, _, _, _, _, _⟩) (v := undef) rfl (by kernel_rfl) (by kernel_rfl) (by kernel_rfl) (fun _ _ _ h => h) (Or.inr ⟨by rfl, rfl⟩) hHeld ?qar36
      (try simp only [Act.put, List.setIfInBounds_toArray, List.set_cons_zero, List.set_cons_succ])
      refine wpAnyH_take (i := 37) (oi := ⟨some 46, _, _, _, _, _⟩) (v := undef) rfl (by kernel_rfl) (by kernel_rfl) (by kernel_rfl) (fun _ _ _ h => h) (Or.inr ⟨by rfl, rfl⟩) hHeld ?qar37
      (try simp only [Act.put, List.setIfInBounds_toArray, List.set_cons_zero, List.set_cons_succ])
      refine wpAnyH_take (i := 38) (oi := ⟨some 47, _, _, _, _, _⟩) (v := undef) rfl (by kernel_rfl) (by kernel_rfl) (by kernel_rfl) (fun _ _ _ h => h) (Or.inr ⟨by rfl, rfl⟩) hHeld ?qar38
      (try simp only [Act.put, List.setIfInBounds_toArray, List.set_cons_zero, List.set_cons_succ])
      refine wpAnyH_take (i := 39) (oi := ⟨some 48, _, _, _, _, _⟩) (v := undef) rfl (by kernel_rfl) (by kernel_rfl) (by kernel_rfl) (fun _ _ _ h => h) (Or.inr ⟨by rfl, rfl⟩) hHeld ?qar39
      (try simp only [Act.put, List.setIfInBounds_toArray, List.set_cons_zero, List.set_cons_succ])
      refine wpAnyH_take (i := 40) (oi := ⟨some 49, _, _, _, _, _⟩) (v := undef) rfl (by kernel_rfl) (by kernel_rfl) (by kernel_rfl) (fun _ _ _ h => h) (Or.inr ⟨by rfl, rfl⟩) hHeld ?qar40
      (try simp only [Act.put, List.setIfInBounds_toArray, List.set_cons_zero, List.set_cons_succ])
      refine wpAnyH_take (i := 41) (oi := ⟨some 50, _, _, _, _, _⟩) (v := undef) rfl (by kernel_rfl) (by kernel_rfl) (by kernel_rfl) (fun _ _ _ h => h) (Or.inr ⟨by rfl, rfl⟩) hHeld ?qar41
      (try simp only [Act.put, List.setIfInBounds_toArray, List.set_cons_zero, List.set_cons_succ])
      refine wpAnyH_take (i := 42) (oi := ⟨some 51, _, _, _, _, _⟩) (v := undef) rfl (by kernel_rfl) (by kernel_rfl) (by kernel_rfl) (fun _ _ _ h => h) (Or.inr ⟨by rfl, rfl⟩) hHeld ?qar42
      (try simp only [Act.put, List.setIfInBounds_toArray, List.set_cons_zero, List.set_cons_succ])
      refine wpAnyH_take (i := 43) (oi := ⟨some 52, _, _, _, _, _⟩) (v := undef) rfl (by kernel_rfl) (by kernel_rfl) (by kernel_rfl) (fun _ _ _ h => h) (Or.inr ⟨by rfl, rfl⟩) hHeld ?qar43
      (try simp only [Act.put, List.setIfInBounds_toArray, List.set_cons_zero, List.set_cons_succ])
      refine wpAnyH_take (i := 44) (oi := ⟨some 53, _, _, _, _, _⟩) (v := undef) rfl (by kernel_rfl) (by kernel_rfl) (by kernel_rfl) (fun _ _ _ h => h) (Or.inr ⟨by rfl, rfl⟩) hHeld ?qar44
      (try simp only [Act.put, List.setIfInBounds_toArray, List.set_cons_zero, List.set_cons_succ])
      refine wpAnyH_take (i := 45) (oi := ⟨some 54, _, _, _, _, _⟩) (v := ?qav45) rfl (by kernel_rfl) (by kernel_rfl) (by kernel_rfl) (fun _ _ _ h => h) (Or.inl ⟨by rfl, ?qahy45⟩) hHeld ?qar45
      case qahy45 => (intro w hSw; (try dsimp only at hSw); go_simp; (try with_reducible rfl))
      (try simp only [Act.put, List.setIfInBounds_toArray, List.set_cons_zero, List.set_cons_succ])
      refine wpAnyH_done (by kernel_rfl) ?qadone _
      go_wp2_with fail
      go_meet
      exact ⟨by rw [HLB.out]; rfl, KN⟩
    | true =>
      have HB := Lib.hid hb
      have hin := kind_in (by decide) hb
      obtain ⟨t, ht⟩ : ∃ t, d[s.i]? = some t := ⟨_, List.getElem?_eq_getElem hin⟩
      obtain ⟨b, off, rfl, hbb, _, _, _, _, _⟩ := HC.out s.i t ht
      by_cases hlast : s.i + 1 < dn
      · obtain ⟨t2, ht2⟩ : ∃ t2, d[s.i + 1]? = some t2 := ⟨_, List.getElem?_eq_getElem (by rw [← HN.out]; exact hlast)⟩
        obtain ⟨b2, off2, hbo, _, z0, z1, _, _, _⟩ := HC.out (s.i + 1) t2 ht2
        simp only [Option.some.injEq, Addr.mk.injEq] at hbo
        obtain ⟨rfl, rfl, _⟩ := hbo
        have hisp : isP d (s.i + 1) [58] = (decide (t2.raw.kind = 4) && decide (t2.raw.text = [58])) := by unfold isP; rw [tk_in ht2]
        have hlb : labB d s = (decide (t2.raw.kind = 4) && decide (t2.raw.text = [58])) := by unfold labB; rw [hb, hisp, Bool.true_and]
        clear hb ht ht2 hisp hin
        by_cases h4 : t2.raw.kind = 4
        · have he : ((str t2.raw.text).toList == ([58] : List UInt8)) = decide (t2.raw.text = [58]) := by rw [Lib.toList_data, data_str, Bool.eq_iff_iff]; simp
          obtain ⟨ts, hts⟩ : ∃ ts, ts = str t2.raw.text := ⟨_, rfl⟩
          obtain ⟨q, hq⟩ : ∃ q, q = decide (t2.raw.text = [58]) := ⟨_, rfl⟩
          rw [← hts] at z1 he
          rw [← hq] at he hlb
          have HE := Lib.hid he
          have H4 : Hid ((t2.raw.kind != 4) = false) := Lib.hid (by rw [h4]; rfl)
          have HLB : Hid (labB d s = q) := Lib.hid (by rw [hlb, decide_eq_true h4, Bool.true_and])
          clear hts hq hlb he
          replace KN := KN.drew
          refine wp_region_held_drew (S := (fun w' => w'.cell? ⟨gp, 1, none⟩ = some (.slice (some ⟨b, off, none⟩) dn c) ∧ w'.cell? ⟨gp, 2, none⟩ = some (.int .i64 (s.i : Int)) ∧ w'.cell? ⟨b, off + (s.i + 1) * 5, none⟩ = some (.int .i64 t2.raw.kind) ∧ w'.cell? ⟨b, off + (s.i + 1) * 5 + 1, none⟩ = some (.string ts))) (by kernel_rfl) ?qbhS (fun hHeld => ?qbrest)
          case qbhS => exact ⟨KN.cell (g := gp) (o := 1) (by repeat (first | exact Has.here | refine Has.there ?_)) rfl, KN.cell (g := gp) (o := 2) (by repeat (first | exact Has.here | refine Has.there ?_)) rfl, (KN.old hbb (by simp)).trans z0, (KN.old hbb (by simp)).trans z1⟩
          refine wpAnyH_take (i := 0) (oi := ⟨some 9, _, _, _, _, _⟩) (v := ?qbv0) rfl (by kernel_rfl) (by kernel_rfl) (by kernel_rfl) (fun _ _ _ h => h) (Or.inl ⟨by rfl, ?qbhy0⟩) hHeld ?qbr0
          case qbhy0 => (intro w hSw; (try dsimp only at hSw); go_simp; (try with_reducible rfl))
          (try simp only [Act.put, List.setIfInBounds_toArray, List.set_cons_zero, List.set_cons_succ])
          refine wpAnyH_ready (rs := [1]) (by kernel_rfl) (by simp) ?qbc1
          refine AllReadyH.cons (o := ⟨some 10, _, _, _, _, _⟩) rfl (fun K hK => ?qbst1) AllReadyH.nil
          go_simp
          (refine (par_kind KN HT.out (by rw [← HN.out]; exact hd) (by omega) 1 (by decide)).mono ?_; rw [HB.out]; rintro y wx ⟨rfl, K2⟩; replace KN := K2; clear K2)
          refine hK.out _ _ ?qbk1 (fun hHeld2 => ?qbm1)
          case qbk1 => exact ⟨KN.cell (g := gp) (o := 1) (by repeat (first | exact Has.here | refine Has.there ?_)) rfl, KN.cell (g := gp) (o := 2) (by repeat (first | exact Has.here | refine Has.there ?_)) rfl, (KN.old hbb (by simp)).trans z0, (KN.old hbb (by simp)).trans z1⟩
          clear hK K hHeld
          have hHeld := hHeld2; clear hHeld2
          (try simp only [Act.put, List.setIfInBounds_toArray, List.set_cons_zero, List.set_cons_succ])
          refine wpAnyH_take (i := 2) (oi := ⟨some 11, _, _, _, _, _⟩) (v := ?qbv2) rfl (by kernel_rfl) (by kernel_rfl) (by kernel_rfl) (fun _ _ _ h => h) (Or.inl ⟨by rfl, ?qbhy2⟩) hHeld ?qbr2
          case qbhy2 => (intro w hSw; (try dsimp only at hSw); go_simp; (try with_reducible rfl))
          (try simp only [Act.put, List.setIfInBounds_toArray, List.set_cons_zero, List.set_cons_succ])
          refine wpAnyH_take (i := 3) (oi := ⟨some 12, _, _, _, _, _⟩) (v := ?qbv3) rfl (by kernel_rfl) (by kernel_rfl) (by kernel_rfl) (fun _ _ _ h => h) (Or.inl ⟨by rfl, ?qbhy3⟩) hHeld ?qbr3
          case qbhy3 => (intro w hSw; (try dsimp only at hSw); go_simp; (try with_reducible rfl))
          (try simp only [Act.put, List.setIfInBounds_toArray, List.set_cons_zero, List.set_cons_succ])
          refine wpAnyH_take (i := 4) (oi := ⟨some 13, _, _, _, _, _⟩) (v := ?qbv4) rfl (by kernel_rfl) (by kernel_rfl) (by kernel_rfl) (fun _ _ _ h => h) (Or.inl ⟨by rfl, ?qbhy4⟩) hHeld ?qbr4
          case qbhy4 => (intro w hSw; (try dsimp only at hSw); go_simp; (try with_reducible rfl))
          (try simp only [Act.put, List.setIfInBounds_toArray, List.set_cons_zero, List.set_cons_succ])
          refine wpAnyH_take (i := 5) (oi := ⟨some 14, _, _, _, _, _⟩) (v := ?qbv5) rfl (by kernel_rfl) (by kernel_rfl) (by kernel_rfl) (fun _ _ _ h => h) (Or.inl ⟨by rfl, ?qbhy5⟩) hHeld ?qbr5
          case qbhy5 => (intro w hSw; (try dsimp only at hSw); go_simp; (try with_reducible rfl))
          (try simp only [Act.put, List.setIfInBounds_toArray, List.set_cons_zero, List.set_cons_succ])
          refine wpAnyH_take (i := 6) (oi := ⟨some 15, _, _, _, _, _⟩) (v := ?qbv6) rfl (by kernel_rfl) (by kernel_rfl) (by kernel_rfl) (fun _ _ _ h => h) (Or.inl ⟨by rfl, ?qbhy6⟩) hHeld ?qbr6
          case qbhy6 => (intro w hSw; (try dsimp only at hSw); go_simp; (try with_reducible rfl))
          (try simp only [Act.put, List.setIfInBounds_toArray, List.set_cons_zero, List.set_cons_succ])
          refine wpAnyH_take (i := 7) (oi := ⟨some 16, _, _, _, _, _⟩) (v := (.int .i64 (s.i : Int))) rfl (by kernel_rfl) (by kernel_rfl) (by kernel_rfl) (fun _ _ _ h => h) (kn_yields_cell (by rfl) 3 _ rfl gp 2 rfl _ (fun _ h => h.2.1) _ Tryd.underlying3 rfl) hHeld ?qbr7
          (try simp only [Act.put, List.setIfInBounds_toArray, List.set_cons_zero, List.set_cons_succ])
          refine wpAnyH_take (i := 8) (oi := ⟨some 17, _, _, _, _, _⟩) (v := (.int .i64 ((s.i + 1 : Nat) : Int))) rfl (by kernel_rfl) (by kernel_rfl) (by kernel_rfl) (fun _ _ _ h => h) (.inl ⟨by rfl, by intro w _; go_simp; first | done | exact hwr1 | omega | (intro h9; exact absurd (h9 (by omega)) (by omega))⟩) hHeld ?qbr8
          (try simp only [Act.put, List.setIfInBounds_toArray, List.set_cons_zero, List.set_cons_succ])
          refine wpAnyH_take (i := 9) (oi := ⟨some 18, _, _, _, _, _⟩) (v := ?qbv9) rfl (by kernel_rfl) (by kernel_rfl) (by kernel_rfl) (fun _ _ _ h => h) (Or.inl ⟨by rfl, ?qbhy9⟩) hHeld ?qbr9
          case qbhy9 => (intro w hSw; (try dsimp only at hSw); go_simp; (try with_reducible rfl))
          (try simp only [Act.put, List.setIfInBounds_toArray, List.set_cons_zero, List.set_cons_succ])
          refine wpAnyH_take (i := 10) (oi := ⟨some 19, _, _, _, _, _⟩) (v := ?qbv10) rfl (by kernel_rfl) (by kernel_rfl) (by kernel_rfl) (fun _ _ _ h => h) (Or.inl ⟨by rfl, ?qbhy10⟩) hHeld ?qbr10
          case qbhy10 => (intro w hSw; (try dsimp only at hSw); go_simp; (try with_reducible rfl))
          (try simp only [Act.put, List.setIfInBounds_toArray, List.set_cons_zero, List.set_cons_succ])
          refine wpAnyH_take (i := 11) (oi := ⟨some 20, _, _, _, _, _⟩) (v := ?qbv11) rfl (by kernel_rfl) (by kernel_rfl) (by kernel_rfl) (fun _ _ _ h => h) (Or.inl ⟨by rfl, ?qbhy11⟩) hHeld ?qbr11
          case qbhy11 => (intro w hSw; (try dsimp only at hSw); go_simp; (try with_reducible rfl))
          (try simp only [Act.put, List.setIfInBounds_toArray, List.set_cons_zero, List.set_cons_succ])
          refine wpAnyH_take (i := 12) (oi := ⟨some 21, _, _, _, _, _⟩) (v := (.slice (some ⟨b, off, none⟩) dn c)) rfl (by kernel_rfl) (by kernel_rfl) (by kernel_rfl) (fun _ _ _ h => h) (kn_yields_cell (by rfl) 46 _ rfl gp 1 rfl _ (fun _ h => h.1) _ Tryd.underlying46 rfl) hHeld ?qbr12
          (try simp only [Act.put, List.setIfInBounds_toArray, List.set_cons_zero, List.set_cons_succ])
          refine wpAnyH_take (i := 13) (oi := ⟨some 22, _, _, _, _, _⟩) (v := ?qbv13) rfl (by kernel_rfl) (by kernel_rfl) (by kernel_rfl) (fun _ _ _ h => h) (Or.inl ⟨by rfl, ?qbhy13⟩) hHeld ?qbr13
          case qbhy13 => (intro w hSw; (try dsimp only at hSw); go_simp; (try with_reducible rfl))
          (try simp only [Act.put, List.setIfInBounds_toArray, List.set_cons_zero, List.set_cons_succ])
          refine wpAnyH_take (i := 14) (oi := ⟨some 23, _, _, _, _, _⟩) (v := (.bool false)) rfl (by kernel_rfl) (by kernel_rfl) (by kernel_rfl) (fun _ _ _ h => h) (.inl ⟨by rfl, by intro w _; go_simp; first | done | exact hwr1 | omega | (intro h9; exact absurd (h9 (by omega)) (by omega))⟩) hHeld ?qbr14
          (try simp only [Act.put, List.setIfInBounds_toArray, List.set_cons_zero, List.set_cons_succ])
          refine wpAnyH_take (i := 15) (oi := ⟨some 24, _, _, _, _, _⟩) (v := ?qbv15) rfl (by kernel_rfl) (by kernel_rfl) (by kernel_rfl) (fun _ _ _ h => h) (Or.inl ⟨by rfl, ?qbhy15⟩) hHeld ?qbr15
          case qbhy15 => (intro w hSw; (try dsimp only at hSw); go_simp; (try with_reducible rfl))
          (try simp only [Act.put, List.setIfInBounds_toArray, List.set_cons_zero, List.set_cons_succ])
          refine wpAnyH_take (i := 16) (oi := ⟨some 25, _, _, _, _, _⟩) (v := ?qbv16) rfl (by kernel_rfl) (by kernel_rfl) (by kernel_rfl) (fun _ _ _ h => h) (Or.inl ⟨by rfl, ?qbhy16⟩) hHeld ?qbr16
          case qbhy16 => (intro w hSw; (try dsimp only at hSw); go_simp; (try with_reducible rfl))
          (try simp only [Act.put, List.setIfInBounds_toArray, List.set_cons_zero, List.set_cons_succ])
          refine wpAnyH_take (i := 17) (oi := ⟨some 26, _, _, _, _, _⟩) (v := ?qbv17) rfl (by kernel_rfl) (by kernel_rfl) (by kernel_rfl) (fun _ _ _ h => h) (Or.inl ⟨by rfl, ?qbhy17⟩) hHeld ?qbr17
          case qbhy17 => (intro w hSw; (try dsimp only at hSw); go_simp; (try with_reducible rfl))
          (try simp only [Act.put, List.setIfInBounds_toArray, List.set_cons_zero, List.set_cons_succ])
          refine wpAnyH_take (i := 18) (oi := ⟨some 27, _, _, _, _, _⟩) (v := ?qbv18) rfl (by kernel_rfl) (by kernel_rfl) (by kernel_rfl) (fun _ _ _ h => h) (Or.inl ⟨by rfl, ?qbhy18⟩) hHeld ?qbr18
          case qbhy18 => (intro w hSw; (try dsimp only at hSw); go_simp; (try with_reducible rfl))
          (try simp only [Act.put, List.setIfInBounds_toArray, List.set_cons_zero, List.set_cons_succ])
          refine wpAnyH_take (i := 19) (oi := ⟨some 28, _, _, _, _, _⟩) (v := ?qbv19) rfl (by kernel_rfl) (by kernel_rfl) (by kernel_rfl) (fun _ _ _ h => h) (Or.inl ⟨by rfl, ?qbhy19⟩) hHeld ?qbr19
          case qbhy19 => (intro w hSw; (try dsimp only at hSw); go_simp; (try with_reducible rfl))
          (try simp only [Act.put, List.setIfInBounds_toArray, List.set_cons_zero, List.set_cons_succ])
          refine wpAnyH_take (i := 20) (oi := ⟨some 29, _, _, _, _, _⟩) (v := (.slice (some ⟨b, off, none⟩) dn c)) rfl (by kernel_rfl) (by kernel_rfl) (by kernel_rfl) (fun _ _ _ h => h) (kn_yields_cell (by rfl) 46 _ rfl gp 1 rfl _ (fun _ h => h.1) _ Tryd.underlying46 rfl) hHeld ?qbr20
          (try simp only [Act.put, List.setIfInBounds_toArray, List.set_cons_zero, List.set_cons_succ])
          refine wpAnyH_take (i := 21) (oi := ⟨some 30, _, _, _, _, _⟩) (v := ?qbv21) rfl (by kernel_rfl) (by kernel_rfl) (by kernel_rfl) (fun _ _ _ h => h) (Or.inl ⟨by rfl, ?qbhy21⟩) hHeld ?qbr21
          case qbhy21 => (intro w hSw; (try dsimp only at hSw); go_simp; (try with_reducible rfl))
          (try simp only [Act.put, List.setIfInBounds_toArray, List.set_cons_zero, List.set_cons_succ])
          refine wpAnyH_take (i := 22) (oi := ⟨some 31, _, _, _, _, _⟩) (v := ?qbv22) rfl (by kernel_rfl) (by kernel_rfl) (by kernel_rfl) (fun _ _ _ h => h) (Or.inl ⟨by rfl, ?qbhy22⟩) hHeld ?qbr22
          case qbhy22 => (intro w hSw; (try dsimp only at hSw); go_simp; (try with_reducible rfl))
          (try simp only [Act.put, List.setIfInBounds_toArray, List.set_cons_zero, List.set_cons_succ])
          refine wpAnyH_take (i := 23) (oi := ⟨some 32, _, _, _, _, _⟩) (v := ?qbv23) rfl (by kernel_rfl) (by kernel_rfl) (by kernel_rfl) (fun _ _ _ h => h) (Or.inl ⟨by rfl, ?qbhy23⟩) hHeld ?qbr23
          case qbhy23 => (intro w hSw; (try dsimp only at hSw); go_simp; (try with_reducible rfl))
          (try simp only [Act.put, List.setIfInBounds_toArray, List.set_cons_zero, List.set_cons_succ])
          refine wpAnyH_take (i := 24) (oi := ⟨some 33, _, _, _, _, _⟩) (v := (.int .i64 (s.i : Int))) rfl (by kernel_rfl) (by kernel_rfl) (by kernel_rfl) (fun _ _ _ h => h) (kn_yields_cell (by rfl) 3 _ rfl gp 2 rfl _ (fun _ h => h.2.1) _ Tryd.underlying3 rfl) hHeld ?qbr24
          (try simp only [Act.put, List.setIfInBounds_toArray, List.set_cons_zero, List.set_cons_succ])
          refine wpAnyH_take (i := 25) (oi := ⟨some 34, _, _, _, _, _⟩) (v := (.int .i64 ((s.i + 1 : Nat) : Int))) rfl (by kernel_rfl) (by kernel_rfl) (by kernel_rfl) (fun _ _ _ h => h) (.inl ⟨by rfl, by intro w _; go_simp; first | done | exact hwr1 | omega | (intro h9; exact absurd (h9 (by omega)) (by omega))⟩) hHeld ?qbr25
          (try simp only [Act.put, List.setIfInBounds_toArray, List.set_cons_zero, List.set_cons_succ])
          refine wpAnyH_take (i := 26) (oi := ⟨some 35, _, _, _, _, _⟩) (v := (.pointer (some ⟨b, off + (s.i + 1) * 5, none⟩))) rfl (by kernel_rfl) (by kernel_rfl) (by kernel_rfl) (fun _ _ _ h => h) (.inl ⟨by rfl, by intro w _; go_simp; first | done | exact hwr1 | omega | (intro h9; exact absurd (h9 (by omega)) (by omega))⟩) hHeld ?qbr26
          (try simp only [Act.put, List.setIfInBounds_toArray, List.set_cons_zero, List.set_cons_succ])
          refine wpAnyH_take (i := 27) (oi := ⟨some 36, _, _, _, _, _⟩) (v := ?qbv27) rfl (by kernel_rfl) (by kernel_rfl) (by kernel_rfl) (fun _ _ _ h => h) (Or.inl ⟨by rfl, ?qbhy27⟩) hHeld ?qbr27
          case qbhy27 => (intro w hSw; (try dsimp only at hSw); go_simp; (try with_reducible rfl))
          (try simp only [Act.put, List.setIfInBounds_toArray, List.set_cons_zero, List.set_cons_succ])
          refine wpAnyH_take (i := 28) (oi := ⟨some 37, _, _, _, _, _⟩) (v := (.int .i64 t2.raw.kind)) rfl (by kernel_rfl) (by kernel_rfl) (by kernel_rfl) (fun _ _ _ h => h) (kn_yields_cell (by rfl) 3 _ rfl b (off + (s.i + 1) * 5) rfl _ (fun _ h => h.2.2.1) _ Tryd.underlying3 rfl) hHeld ?qbr28
          (try simp only [Act.put, List.setIfInBounds_toArray, List.set_cons_zero, List.set_cons_succ])
          refine wpAnyH_take (i := 29) (oi := ⟨some 38, _, _, _, _, _⟩) (v := (.bool false)) rfl (by kernel_rfl) (by kernel_rfl) (by kernel_rfl) (fun _ _ _ h => h) (.inl ⟨by rfl, by intro w _; go_simp; (try simp only [H4.out])⟩) hHeld ?qbr29
          (try simp only [Act.put, List.setIfInBounds_toArray, List.set_cons_zero, List.set_cons_succ])
          refine wpAnyH_take (i := 30) (oi := ⟨some 39, _, _, _, _, _⟩) (v := ?qbv30) rfl (by kernel_rfl) (by kernel_rfl) (by kernel_rfl) (fun _ _ _ h => h) (Or.inl ⟨by rfl, ?qbhy30⟩) hHeld ?qbr30
          case qbhy30 => (intro w hSw; (try dsimp only at hSw); go_simp; (try with_reducible rfl))
          (try simp only [Act.put, List.setIfInBounds_toArray, List.set_cons_zero, List.set_cons_succ])
          refine wpAnyH_take (i := 31) (oi := ⟨some 40, _, _, _, _, _⟩) (v := ?qbv31) rfl (by kernel_rfl) (by kernel_rfl) (by kernel_rfl) (fun _ _ _ h => h) (Or.inl ⟨by rfl, ?qbhy31⟩) hHeld ?qbr31
          case qbhy31 => (intro w hSw; (try dsimp only at hSw); go_simp; (try with_reducible rfl))
          (try simp only [Act.put, List.setIfInBounds_toArray, List.set_cons_zero, List.set_cons_succ])
          refine wpAnyH_take (i := 32) (oi := ⟨some 41, _, _, _, _, _⟩) (v := ?qbv32) rfl (by kernel_rfl) (by kernel_rfl) (by kernel_rfl) (fun _ _ _ h => h) (Or.inl ⟨by rfl, ?qbhy32⟩) hHeld ?qbr32
          case qbhy32 => (intro w hSw; (try dsimp only at hSw); go_simp; (try with_reducible rfl))
          (try simp only [Act.put, List.setIfInBounds_toArray, List.set_cons_zero, List.set_cons_succ])
          refine wpAnyH_take (i := 33) (oi := ⟨some 42, _, _, _, _, _⟩) (v := ?qbv33) rfl (by kernel_rfl) (by kernel_rfl) (by kernel_rfl) (fun _ _ _ h => h) (Or.inl ⟨by rfl, ?qbhy33⟩) hHeld ?qbr33
          case qbhy33 => (intro w hSw; (try dsimp only at hSw); go_simp; (try with_reducible rfl))
          (try simp only [Act.put, List.setIfInBounds_toArray, List.set_cons_zero, List.set_cons_succ])
          refine wpAnyH_take (i := 34) (oi := ⟨some 43, _, _, _, _, _⟩) (v := ?qbv34) rfl (by kernel_rfl) (by kernel_rfl) (by kernel_rfl) (fun _ _ _ h => h) (Or.inl ⟨by rfl, ?qbhy34⟩) hHeld ?qbr34
          case qbhy34 => (intro w hSw; (try dsimp only at hSw); go_simp; (try with_reducible rfl))
          (try simp only [Act.put, List.setIfInBounds_toArray, List.set_cons_zero, List.set_cons_succ])
          refine wpAnyH_take (i := 35) (oi := ⟨some 44, _, _, _, _, _⟩) (v := (.slice (some ⟨b, off, none⟩) dn c)) rfl (by kernel_rfl) (by kernel_rfl) (by kernel_rfl) (fun _ _ _ h => h) (kn_yields_cell (by rfl) 46 _ rfl gp 1 rfl _ (fun _ h => h.1) _ Tryd.underlying46 rfl) hHeld ?qbr35
          (try simp only [Act.put, List.setIfInBounds_toArray, List.set_cons_zero, List.set_cons_succ])
          refine wpAnyH_take (i := 36) (oi := ⟨some 45, _, _, _, _, _⟩) (v := ?qbv36) rfl (by kernel_rfl) (by kernel_rfl) (by kernel_rfl) (fun _ _ _ h => h) (Or.inl ⟨by rfl, ?qbhy36⟩) hHeld ?qbr36
          case qbhy36 => (intro w hSw; (try dsimp only at hSw); go_simp; (try with_reducible rfl))
          (try simp only [Act.put, List.setIfInBounds_toArray, List.set_cons_zero, List.set_cons_succ])
          refine wpAnyH_take (i := 37) (oi := ⟨some 46, _, _, _, _, _⟩) (v := ?qbv37) rfl (by kernel_rfl) (by kernel_rfl) (by kernel_rfl) (fun _ _ _ h => h) (Or.inl ⟨by rfl, ?qbhy37⟩) hHeld ?qbr37
          case qbhy37 => (intro w hSw; (try dsimp only at hSw); go_simp; (try with_reducible rfl))
          (try simp only [Act.put, List.setIfInBounds_toArray, List.set_cons_zero, List.set_cons_succ])
          refine wpAnyH_take (i := 38) (oi := ⟨some 47, _, _, _, _, _⟩) (v := ?qbv38) rfl (by kernel_rfl) (by kernel_rfl) (by kernel_rfl) (fun _ _ _ h => h) (Or.inl ⟨by rfl, ?qbhy38⟩) hHeld ?qbr38
          case qbhy38 => (intro w hSw; (try dsimp only at hSw); go_simp; (try with_reducible rfl))
          (try simp only [Act.put, List.setIfInBounds_toArray, List.set_cons_zero, List.set_cons_succ])
          refine wpAnyH_take (i := 39) (oi := ⟨some 48, _, _, _, _, _⟩) (v := (.int .i64 (s.i : Int))) rfl (by kernel_rfl) (by kernel_rfl) (by kernel_rfl) (fun _ _ _ h => h) (kn_yields_cell (by rfl) 3 _ rfl gp 2 rfl _ (fun _ h => h.2.1) _ Tryd.underlying3 rfl) hHeld ?qbr39
          (try simp only [Act.put, List.setIfInBounds_toArray, List.set_cons_zero, List.set_cons_succ])
          refine wpAnyH_take (i := 40) (oi := ⟨some 49, _, _, _, _, _⟩) (v := (.int .i64 ((s.i + 1 : Nat) : Int))) rfl (by kernel_rfl) (by kernel_rfl) (by kernel_rfl) (fun _ _ _ h => h) (.inl ⟨by rfl, by intro w _; go_simp; first | done | exact hwr1 | omega | (intro h9; exact absurd (h9 (by omega)) (by omega))⟩) hHeld ?qbr40
          (try simp only [Act.put, List.setIfInBounds_toArray, List.set_cons_zero, List.set_cons_succ])
          refine wpAnyH_take (i := 41) (oi := ⟨some 50, _, _, _, _, _⟩) (v := (.pointer (some ⟨b, off + (s.i + 1) * 5, none⟩))) rfl (by kernel_rfl) (by kernel_rfl) (by kernel_rfl) (fun _ _ _ h => h) (.inl ⟨by rfl, by intro w _; go_simp; first | done | exact hwr1 | omega | (intro h9; exact absurd (h9 (by omega)) (by omega))⟩) hHeld ?qbr41
          (try simp only [Act.put, List.setIfInBounds_toArray, List.set_cons_zero, List.set_cons_succ])
          refine wpAnyH_take (i := 42) (oi := ⟨some 51, _, _, _, _, _⟩) (v := ?qbv42) rfl (by kernel_rfl) (by kernel_rfl) (by kernel_rfl) (fun _ _ _ h => h) (Or.inl ⟨by rfl, ?qbhy42⟩) hHeld ?qbr42
          case qbhy42 => (intro w hSw; (try dsimp only at hSw); go_simp; (try with_reducible rfl))
          (try simp only [Act.put, List.setIfInBounds_toArray, List.set_cons_zero, List.set_cons_succ])
          refine wpAnyH_take (i := 43) (oi := ⟨some 52, _, _, _, _, _⟩) (v := (.string ts)) rfl (by kernel_rfl) (by kernel_rfl) (by kernel_rfl) (fun _ _ _ h => h) (kn_yields_cell (by rfl) 9 _ rfl b (off + (s.i + 1) * 5 + 1) rfl _ (fun _ h => h.2.2.2) _ Tryd.underlying9 rfl) hHeld ?qbr43
          (try simp only [Act.put, List.setIfInBounds_toArray, List.set_cons_zero, List.set_cons_succ])
          refine wpAnyH_take (i := 44) (oi := ⟨some 53, _, _, _, _, _⟩) (v := ?qbv44) rfl (by kernel_rfl) (by kernel_rfl) (by kernel_rfl) (fun _ _ _ h => h) (Or.inl ⟨by rfl, ?qbhy44⟩) hHeld ?qbr44
          case qbhy44 => (intro w hSw; (try dsimp only at hSw); go_simp; (try with_reducible rfl))
          (try simp only [Act.put, List.setIfInBounds_toArray, List.set_cons_zero, List.set_cons_succ])
          refine wpAnyH_take (i := 45) (oi := ⟨some 54, _, _, _, _, _⟩) (v := ?qbv45) rfl (by kernel_rfl) (by kernel_rfl) (by kernel_rfl) (fun _ _ _ h => h) (Or.inl ⟨by rfl, ?qbhy45⟩) hHeld ?qbr45
          case qbhy45 => (intro w hSw; (try dsimp only at hSw); go_simp; (try with_reducible rfl))
          (try simp only [Act.put, List.setIfInBounds_toArray, List.set_cons_zero, List.set_cons_succ])
          refine wpAnyH_done (by kernel_rfl) ?qbdone _
          go_wp2_with fail
          go_meet
          case rel => exact ⟨by rw [HLB.out, ← HE.out], KN⟩
        · have H4 : Hid ((t2.raw.kind != 4) = true) := Lib.hid (by rw [bne_iff_ne]; exact h4)
          have HLB : Hid (labB d s = false) := Lib.hid (by rw [hlb, decide_eq_false h4, Bool.false_and])
          clear hlb
          replace KN := KN.drew
          refine wp_region_held_drew (S := (fun w' => w'.cell? ⟨gp, 1, none⟩ = some (.slice (some ⟨b, off, none⟩) dn c) ∧ w'.cell? ⟨gp, 2, none⟩ = some (.int .i64 (s.i : Int)) ∧ w'.cell? ⟨b, off + (s.i + 1) * 5, none⟩ = some (.int .i64 t2.raw.kind))) (by kernel_rfl) ?qchS (fun hHeld => ?qcrest)
          case qchS => exact ⟨KN.cell (g := gp) (o := 1) (by repeat (first | exact Has.here | refine Has.there ?_)) rfl, KN.cell (g := gp) (o := 2) (by repeat (first | exact Has.here | refine Has.there ?_)) rfl, (KN.old hbb (by simp)).trans z0⟩
          refine wpAnyH_take (i := 0) (oi := ⟨some 9, _, _, _, _, _⟩) (v := ?qcv0) rfl (by kernel_rfl) (by kernel_rfl) (by kernel_rfl) (fun _ _ _ h => h) (Or.inl ⟨by rfl, ?qchy0⟩) hHeld ?qcr0
          case qchy0 => (intro w hSw; (try dsimp only at hSw); go_simp; (try with_reducible rfl))
          (try simp only [Act.put, List.setIfInBounds_toArray, List.set_cons_zero, List.set_cons_succ])
          refine wpAnyH_ready (rs := [1]) (by kernel_rfl) (by simp) ?qcc1
          refine AllReadyH.cons (o := ⟨some 10, _, _, _, _, _⟩) rfl (fun K hK => ?qcst1) AllReadyH.nil
          go_simp
          (refine (par_kind KN HT.out (by rw [← HN.out]; exact hd) (by omega) 1 (by decide)).mono ?_; rw [HB.out]; rintro y wx ⟨rfl, K2⟩; replace KN := K2; clear K2)
          refine hK.out _ _ ?qck1 (fun hHeld2 => ?qcm1)
          case qck1 => exact ⟨KN.cell (g := gp) (o := 1) (by repeat (first | exact Has.here | refine Has.there ?_)) rfl, KN.cell (g := gp) (o := 2) (by repeat (first | exact Has.here | refine Has.there ?_)) rfl, (KN.old hbb (by simp)).trans z0⟩
          clear hK K hHeld
          have hHeld := hHeld2; clear hHeld2
          (try simp only [Act.put, List.setIfInBounds_toArray, List.set_cons_zero, List.set_cons_succ])
          refine wpAnyH_take (i := 2) (oi := ⟨some 11, _, _, _, _, _⟩) (v := ?qcv2) rfl (by kernel_rfl) (by kernel_rfl) (by kernel_rfl) (fun _ _ _ h => h) (Or.inl ⟨by rfl, ?qchy2⟩) hHeld ?qcr2
          case qchy2 => (intro w hSw; (try dsimp only at hSw); go_simp; (try with_reducible rfl))
          (try simp only [Act.put, List.setIfInBounds_toArray, List.set_cons_zero, List.set_cons_succ])
          refine wpAnyH_take (i := 3) (oi := ⟨some 12, _, _, _, _, _⟩) (v := ?qcv3) rfl (by kernel_rfl) (by kernel_rfl) (by kernel_rfl) (fun _ _ _ h => h) (Or.inl ⟨by rfl, ?qchy3⟩) hHeld ?qcr3
          case qchy3 => (intro w hSw; (try dsimp only at hSw); go_simp; (try with_reducible rfl))
          (try simp only [Act.put, List.setIfInBounds_toArray, List.set_cons_zero, List.set_cons_succ])
          refine wpAnyH_take (i := 4) (oi := ⟨some 13, _, _, _, _, _⟩) (v := ?qcv4) rfl (by kernel_rfl) (by kernel_rfl) (by kernel_rfl) (fun _ _ _ h => h) (Or.inl ⟨by rfl, ?qchy4⟩) hHeld ?qcr4
          case qchy4 => (intro w hSw; (try dsimp only at hSw); go_simp; (try with_reducible rfl))
          (try simp only [Act.put, List.setIfInBounds_toArray, List.set_cons_zero, List.set_cons_succ])
          refine wpAnyH_take (i := 5) (oi := ⟨some 14, _, _, _, _, _⟩) (v := ?qcv5) rfl (by kernel_rfl) (by kernel_rfl) (by kernel_rfl) (fun _ _ _ h => h) (Or.inl ⟨by rfl, ?qchy5⟩) hHeld ?qcr5
          case qchy5 => (intro w hSw; (try dsimp only at hSw); go_simp; (try with_reducible rfl))
          (try simp only [Act.put, List.setIfInBounds_toArray, List.set_cons_zero, List.set_cons_succ])
          refine wpAnyH_take (i := 6) (oi := ⟨some 15, _, _, _, _, _⟩) (v := ?qcv6) rfl (by kernel_rfl) (by kernel_rfl) (by kernel_rfl) (fun _ _ _ h => h) (Or.inl ⟨by rfl, ?qchy6⟩) hHeld ?qcr6
          case qchy6 => (intro w hSw; (try dsimp only at hSw); go_simp; (try with_reducible rfl))
          (try simp only [Act.put, List.setIfInBounds_toArray, List.set_cons_zero, List.set_cons_succ])
          refine wpAnyH_take (i := 7) (oi := ⟨some 16, _, _, _, _, _⟩) (v := (.int .i64 (s.i : Int))) rfl (by kernel_rfl) (by kernel_rfl) (by kernel_rfl) (fun _ _ _ h => h) (kn_yields_cell (by rfl) 3 _ rfl gp 2 rfl _ (fun _ h => h.2.1) _ Tryd.underlying3 rfl) hHeld ?qcr7
          (try simp only [Act.put, List.setIfInBounds_toArray, List.set_cons_zero, List.set_cons_succ])
          refine wpAnyH_take (i := 8) (oi := ⟨some 17, _, _, _, _, _⟩) (v := (.int .i64 ((s.i + 1 : Nat) : Int))) rfl (by kernel_rfl) (by kernel_rfl) (by kernel_rfl) (fun _ _ _ h => h) (.inl ⟨by rfl, by intro w _; go_simp; first | done | exact hwr1 | omega | (intro h9; exact absurd (h9 (by omega)) (by omega))⟩) hHeld ?qcr8
          (try simp only [Act.put, List.setIfInBounds_toArray, List.set_cons_zero, List.set_cons_succ])
          refine wpAnyH_take (i := 9) (oi := ⟨some 18, _, _, _, _, _⟩) (v := ?qcv9) rfl (by kernel_rfl) (by kernel_rfl) (by kernel_rfl) (fun _ _ _ h => h) (Or.inl ⟨by rfl, ?qchy9⟩) hHeld ?qcr9
          case qchy9 => (intro w hSw; (try dsimp only at hSw); go_simp; (try with_reducible rfl))
          (try simp only [Act.put, List.setIfInBounds_toArray, List.set_cons_zero, List.set_cons_succ])
          refine wpAnyH_take (i := 10) (oi := ⟨some 19, _, _, _, _, _⟩) (v := ?qcv10) rfl (by kernel_rfl) (by kernel_rfl) (by kernel_rfl) (fun _ _ _ h => h) (Or.inl ⟨by rfl, ?qchy10⟩) hHeld ?qcr10
          case qchy10 => (intro w hSw; (try dsimp only at hSw); go_simp; (try with_reducible rfl))
          (try simp only [Act.put, List.setIfInBounds_toArray, List.set_cons_zero, List.set_cons_succ])
          refine wpAnyH_take (i := 11) (oi := ⟨some 20, _, _, _, _, _⟩) (v := ?qcv11) rfl (by kernel_rfl) (by kernel_rfl) (by kernel_rfl) (fun _ _ _ h => h) (Or.inl ⟨by rfl, ?qchy11⟩) hHeld ?qcr11
          case qchy11 => (intro w hSw; (try dsimp only at hSw); go_simp; (try with_reducible rfl))
          (try simp only [Act.put, List.setIfInBounds_toArray, List.set_cons_zero, List.set_cons_succ])
          refine wpAnyH_take (i := 12) (oi := ⟨some 21, _, _, _, _, _⟩) (v := (.slice (some ⟨b, off, none⟩) dn c)) rfl (by kernel_rfl) (by kernel_rfl) (by kernel_rfl) (fun _ _ _ h => h) (kn_yields_cell (by rfl) 46 _ rfl gp 1 rfl _ (fun _ h => h.1) _ Tryd.underlying46 rfl) hHeld ?qcr12
          (try simp only [Act.put, List.setIfInBounds_toArray, List.set_cons_zero, List.set_cons_succ])
          refine wpAnyH_take (i := 13) (oi := ⟨some 22, _, _, _, _, _⟩) (v := ?qcv13) rfl (by kernel_rfl) (by kernel_rfl) (by kernel_rfl) (fun _ _ _ h => h) (Or.inl ⟨by rfl, ?qchy13⟩) hHeld ?qcr13
          case qchy13 => (intro w hSw; (try dsimp only at hSw); go_simp; (try with_reducible rfl))
          (try simp only [Act.put, List.setIfInBounds_toArray, List.set_cons_zero, List.set_cons_succ])
          refine wpAnyH_take (i := 14) (oi := ⟨some 23, _, _, _, _, _⟩) (v := (.bool false)) rfl (by kernel_rfl) (by kernel_rfl) (by kernel_rfl) (fun _ _ _ h => h) (.inl ⟨by rfl, by intro w _; go_simp; first | done | exact hwr1 | omega | (intro h9; exact absurd (h9 (by omega)) (by omega))⟩) hHeld ?qcr14
          (try simp only [Act.put, List.setIfInBounds_toArray, List.set_cons_zero, List.set_cons_succ])
          refine wpAnyH_take (i := 15) (oi := ⟨some 24, _, _, _, _, _⟩) (v := ?qcv15) rfl (by kernel_rfl) (by kernel_rfl) (by kernel_rfl) (fun _ _ _ h => h) (Or.inl ⟨by rfl, ?qchy15⟩) hHeld ?qcr15
          case qchy15 => (intro w hSw; (try dsimp only at hSw); go_simp; (try with_reducible rfl))
          (try simp only [Act.put, List.setIfInBounds_toArray, List.set_cons_zero, List.set_cons_succ])
          refine wpAnyH_take (i := 16) (oi := ⟨some 25, _, _, _, _, _⟩) (v := ?qcv16) rfl (by kernel_rfl) (by kernel_rfl) (by kernel_rfl) (fun _ _ _ h => h) (Or.inl ⟨by rfl, ?qchy16⟩) hHeld ?qcr16
          case qchy16 => (intro w hSw; (try dsimp only at hSw); go_simp; (try with_reducible rfl))
          (try simp only [Act.put, List.setIfInBounds_toArray, List.set_cons_zero, List.set_cons_succ])
          refine wpAnyH_take (i := 17) (oi := ⟨some 26, _, _, _, _, _⟩) (v := ?qcv17) rfl (by kernel_rfl) (by kernel_rfl) (by kernel_rfl) (fun _ _ _ h => h) (Or.inl ⟨by rfl, ?qchy17⟩) hHeld ?qcr17
          case qchy17 => (intro w hSw; (try dsimp only at hSw); go_simp; (try with_reducible rfl))
          (try simp only [Act.put, List.setIfInBounds_toArray, List.set_cons_zero, List.set_cons_succ])
          refine wpAnyH_take (i := 18) (oi := ⟨some 27, _, _, _, _, _⟩) (v := ?qcv18) rfl (by kernel_rfl) (by kernel_rfl) (by kernel_rfl) (fun _ _ _ h => h) (Or.inl ⟨by rfl, ?qchy18⟩) hHeld ?qcr18
          case qchy18 => (intro w hSw; (try dsimp only at hSw); go_simp; (try with_reducible rfl))
          (try simp only [Act.put, List.setIfInBounds_toArray, List.set_cons_zero, List.set_cons_succ])
          refine wpAnyH_take (i := 19) (oi := ⟨some 28, _, _, _, _, _⟩) (v := ?qcv19) rfl (by kernel_rfl) (by kernel_rfl) (by kernel_rfl) (fun _ _ _ h => h) (Or.inl ⟨by rfl, ?qchy19⟩) hHeld ?qcr19
          case qchy19 => (intro w hSw; (try dsimp only at hSw); go_simp; (try with_reducible rfl))
          (try simp only [Act.put, List.setIfInBounds_toArray, List.set_cons_zero, List.set_cons_succ])
          refine wpAnyH_take (i := 20) (oi := ⟨some 29, _, _, _, _, _⟩) (v := (.slice (some ⟨b, off, none⟩) dn c)) rfl (by kernel_rfl) (by kernel_rfl) (by kernel_rfl) (fun _ _ _ h => h) (kn_yields_cell (by rfl) 46 _ rfl gp 1 rfl _ (fun _ h => h.1) _ Tryd.underlying46 rfl) hHeld ?qcr20
          (try simp only [Act.put, List.setIfInBounds_toArray, List.set_cons_zero, List.set_cons_succ])
          refine wpAnyH_take (i := 21) (oi := ⟨some 30, _, _, _, _, _⟩) (v := ?qcv21) rfl (by kernel_rfl) (by kernel_rfl) (by kernel_rfl) (fun _ _ _ h => h) (Or.inl ⟨by rfl, ?qchy21⟩) hHeld ?qcr21
          case qchy21 => (intro w hSw; (try dsimp only at hSw); go_simp; (try with_reducible rfl))
          (try simp only [Act.put, List.setIfInBounds_toArray, List.set_cons_zero, List.set_cons_succ])
          refine wpAnyH_take (i := 22) (oi := ⟨some 31, _, _, _, _, _⟩) (v := ?qcv22) rfl (by kernel_rfl) (by kernel_rfl) (by kernel_rfl) (fun _ _ _ h => h) (Or.inl ⟨by rfl, ?qchy22⟩) hHeld ?qcr22
          case qchy22 => (intro w hSw; (try dsimp only at hSw); go_simp; (try with_reducible rfl))
          (try simp only [Act.put, List.setIfInBounds_toArray, List.set_cons_zero, List.set_cons_succ])
          refine wpAnyH_take (i := 23) (oi := ⟨some 32, _, _, _, _, _⟩) (v := ?qcv23) rfl (by kernel_rfl) (by kernel_rfl) (by kernel_rfl) (fun _ _ _ h => h) (Or.inl ⟨by rfl, ?qchy23⟩) hHeld ?qcr23
          case qchy23 => (intro w hSw; (try dsimp only at hSw); go_simp; (try with_reducible rfl))
          (try simp only [Act.put, List.setIfInBounds_toArray, List.set_cons_zero, List.set_cons_succ])
          refine wpAnyH_take (i := 24) (oi := ⟨some 33, _, _, _, _, _⟩) (v := (.int .i64 (s.i : Int))) rfl (by kernel_rfl) (by kernel_rfl) (by kernel_rfl) (fun _ _ _ h => h) (kn_yields_cell (by rfl) 3 _ rfl gp 2 rfl _ (fun _ h => h.2.1) _ Tryd.underlying3 rfl) hHeld ?qcr24
          (try simp only [Act.put, List.setIfInBounds_toArray, List.set_cons_zero, List.set_cons_succ])
          refine wpAnyH_take (i := 25) (oi := ⟨some 34, _, _, _, _, _⟩) (v := (.int .i64 ((s.i + 1 : Nat) : Int))) rfl (by kernel_rfl) (by kernel_rfl) (by kernel_rfl) (fun _ _ _ h => h) (.inl ⟨by rfl, by intro w _; go_simp; first | done | exact hwr1 | omega | (intro h9; exact absurd (h9 (by omega)) (by omega))⟩) hHeld ?qcr25
          (try simp only [Act.put, List.setIfInBounds_toArray, List.set_cons_zero, List.set_cons_succ])
          refine wpAnyH_take (i := 26) (oi := ⟨some 35, _, _, _, _, _⟩) (v := (.pointer (some ⟨b, off + (s.i + 1) * 5, none⟩))) rfl (by kernel_rfl) (by kernel_rfl) (by kernel_rfl) (fun _ _ _ h => h) (.inl ⟨by rfl, by intro w _; go_simp; first | done | exact hwr1 | omega | (intro h9; exact absurd (h9 (by omega)) (by omega))⟩) hHeld ?qcr26
          (try simp only [Act.put, List.setIfInBounds_toArray, List.set_cons_zero, List.set_cons_succ])
          refine wpAnyH_take (i := 27) (oi := ⟨some 36, _, _, _, _, _⟩) (v := ?qcv27) rfl (by kernel_rfl) (by kernel_rfl) (by kernel_rfl) (fun _ _ _ h => h) (Or.inl ⟨by rfl, ?qchy27⟩) hHeld ?qcr27
          case qchy27 => (intro w hSw; (try dsimp only at hSw); go_simp; (try with_reducible rfl))
          (try simp only [Act.put, List.setIfInBounds_toArray, List.set_cons_zero, List.set_cons_succ])
          refine wpAnyH_take (i := 28) (oi := ⟨some 37, _, _, _, _, _⟩) (v := (.int .i64 t2.raw.kind)) rfl (by kernel_rfl) (by kernel_rfl) (by kernel_rfl) (fun _ _ _ h => h) (kn_yields_cell (by rfl) 3 _ rfl b (off + (s.i + 1) * 5) rfl _ (fun _ h => h.2.2) _ Tryd.underlying3 rfl) hHeld ?qcr28
          (try simp only [Act.put, List.setIfInBounds_toArray, List.set_cons_zero, List.set_cons_succ])
          refine wpAnyH_take (i := 29) (oi := ⟨some 38, _, _, _, _, _⟩) (v := (.bool true)) rfl (by kernel_rfl) (by kernel_rfl) (by kernel_rfl) (fun _ _ _ h => h) (.inl ⟨by rfl, by intro w _; go_simp; (try simp only [H4.out])⟩) hHeld ?qcr29
          (try simp only [Act.put, List.setIfInBounds_toArray, List.set_cons_zero, List.set_cons_succ])
          refine wpAnyH_take (i := 30) (oi := ⟨some 39, _, _, _, _, _⟩) (v := ?qcv30) rfl (by kernel_rfl) (by kernel_rfl) (by kernel_rfl) (fun _ _ _ h => h) (Or.inl ⟨by rfl, ?qchy30⟩) hHeld ?qcr30
          case qchy30 => (intro w hSw; (try dsimp only at hSw); go_simp; (try with_reducible rfl))
          (try simp only [Act.put, List.setIfInBounds_toArray, List.set_cons_zero, List.set_cons_succ])
          refine wpAnyH_take (i := 31) (oi := ⟨some 40, _, _, _, _, _⟩) (v := ?qcv31) rfl (by kernel_rfl) (by kernel_rfl) (by kernel_rfl) (fun _ _ _ h => h) (Or.inl ⟨by rfl, ?qchy31⟩) hHeld ?qcr31
          case qchy31 => (intro w hSw; (try dsimp only at hSw); go_simp; (try with_reducible rfl))
          (try simp only [Act.put, List.setIfInBounds_toArray, List.set_cons_zero, List.set_cons_succ])
          refine wpAnyH_take (i := 32) (oi := ⟨some 41, _, _, _, _, _⟩) (v := undef) rfl (by kernel_rfl) (by kernel_rfl) (by kernel_rfl) (fun _ _ _ h => h) (Or.inr ⟨by rfl, rfl⟩) hHeld ?qcr32
          (try simp only [Act.put, List.setIfInBounds_toArray, List.set_cons_zero, List.set_cons_succ])
          refine wpAnyH_take (i := 33) (oi := ⟨some 42, _, _, _, _, _⟩) (v := undef) rfl (by kernel_rfl) (by kernel_rfl) (by kernel_rfl) (fun _ _ _ h => h) (Or.inr ⟨by rfl, rfl⟩) hHeld ?qcr33
          (try simp only [Act.put, List.setIfInBounds_toArray, List.set_cons_zero, List.set_cons_succ])
          refine wpAnyH_take (i := 34) (oi := ⟨some 43, _, _, _, _, _⟩) (v := undef) rfl (by kernel_rfl) (by kernel_rfl) (by kernel_rfl) (fun _ _ _ h => h) (Or.inr ⟨by rfl, rfl⟩) hHeld ?qcr34
          (try simp only [Act.put, List.setIfInBounds_toArray, List.set_cons_zero, List.set_cons_succ])
          refine wpAnyH_take (i := 35) (oi := ⟨some 44, _, _, _, _, _⟩) (v := undef) rfl (by kernel_rfl) (by kernel_rfl) (by kernel_rfl) (fun _ _ _ h => h) (Or.inr ⟨by rfl, rfl⟩) hHeld ?qcr35
          (try simp only [Act.put, List.setIfInBounds_toArray, List.set_cons_zero, List.set_cons_succ])
          refine wpAnyH_take (i := 36) (oi := ⟨some 45, _, _, _, _, _⟩) (v := undef) rfl (by kernel_rfl) (by kernel_rfl) (by kernel_rfl) (fun _ _ _ h => h) (Or.inr ⟨by rfl, rfl⟩) hHeld ?qcr36
          (try simp only [Act.put, List.setIfInBounds_toArray, List.set_cons_zero, List.set_cons_succ])
          refine wpAnyH_take (i := 37) (oi := ⟨some 46, _, _, _, _, _⟩) (v := undef) rfl (by kernel_rfl) (by kernel_rfl) (by kernel_rfl) (fun _ _ _ h => h) (Or.inr ⟨by rfl, rfl⟩) hHeld ?qcr37
          (try simp only [Act.put, List.setIfInBounds_toArray, List.set_cons_zero, List.set_cons_succ])
          refine wpAnyH_take (i := 38) (oi := ⟨some 47, _, _, _, _, _⟩) (v := undef) rfl (by kernel_rfl) (by kernel_rfl) (by kernel_rfl) (fun _ _ _ h => h) (Or.inr ⟨by rfl, rfl⟩) hHeld ?qcr38
          (try simp only [Act.put, List.setIfInBounds_toArray, List.set_cons_zero, List.set_cons_succ])
          refine wpAnyH_take (i := 39) (oi := ⟨some 48, _, _, _, _, _⟩) (v := undef) rfl (by kernel_rfl) (by kernel_rfl) (by kernel_rfl) (fun _ _ _ h => h) (Or.inr ⟨by rfl, rfl⟩) hHeld ?qcr39
          (try simp only [Act.put, List.setIfInBounds_toArray, List.set_cons_zero, List.set_cons_succ])
          refine wpAnyH_take (i := 40) (oi := ⟨some 49, _, _, _, _, _⟩) (v := undef) rfl (by kernel_rfl) (by kernel_rfl) (by kernel_rfl) (fun _ _ _ h => h) (Or.inr ⟨by rfl, rfl⟩) hHeld ?qcr40
          (try simp only [Act.put, List.setIfInBounds_toArray, List.set_cons_zero, List.set_cons_succ])
          refine wpAnyH_take (i := 41) (oi := ⟨some 50, _, _, _, _, _⟩) (v := undef) rfl (by kernel_rfl) (by kernel_rfl) (by kernel_rfl) (fun _ _ _ h => h) (Or.inr ⟨by rfl, rfl⟩) hHeld ?qcr41
          (try simp only [Act.put, List.setIfInBounds_toArray, List.set_cons_zero, List.set_cons_succ])
          refine wpAnyH_take (i := 42) (oi := ⟨some 51, _, _, _, _, _⟩) (v := undef) rfl (by kernel_rfl) (by kernel_rfl) (by kernel_rfl) (fun _ _ _ h => h) (Or.inr ⟨by rfl, rfl⟩) hHeld ?qcr42
          (try simp only [Act.put, List.setIfInBounds_toArray, List.set_cons_zero, List.set_cons_succ])
          refine wpAnyH_take (i := 43) (oi := ⟨some 52, _, _, _, _, _⟩) (v := undef) rfl (by kernel_rfl) (by kernel_rfl) (by kernel_rfl) (fun _ _ _ h => h) (Or.inr ⟨by rfl, rfl⟩) hHeld ?qcr43
          (try simp only [Act.put, List.setIfInBounds_toArray, List.set_cons_zero, List.set_cons_succ])
          refine wpAnyH_take (i := 44) (oi := ⟨some 53, _, _, _, _, _⟩) (v := undef) rfl (by kernel_rfl) (by kernel_rfl) (by kernel_rfl) (fun _ _ _ h => h) (Or.inr ⟨by rfl, rfl⟩) hHeld ?qcr44
          (try simp only [Act.put, List.setIfInBounds_toArray, List.set_cons_zero, List.set_cons_succ])
          refine wpAnyH_take (i := 45) (oi := ⟨some 54, _, _, _, _, _⟩) (v := ?qcv45) rfl (by kernel_rfl) (by kernel_rfl) (by kernel_rfl) (fun _ _ _ h => h) (Or.inl ⟨by rfl, ?qchy45⟩) hHeld ?qcr45
          case qchy45 => (intro w hSw; (try dsimp only at hSw); go_simp; (try with_reducible rfl))
          (try simp only [Act.put, List.setIfInBounds_toArray, List.set_cons_zero, List.set_cons_succ])
          refine wpAnyH_done (by kernel_rfl) ?qcdone _
          go_wp2_with fail
          go_meet
          case rel => exact ⟨by rw [HLB.out]; rfl, KN⟩
      · have HLB : Hid (labB d s = false) := Lib.hid (by unfold labB isP; rw [tk_out (by rw [← HN.out]; omega)]; simp)
        clear hb ht hin
        replace KN := KN.drew
        refine wp_region_held_drew (S := (fun w' => w'.cell? ⟨gp, 1, none⟩ = some (.slice (some ⟨b, off, none⟩) dn c) ∧ w'.cell? ⟨gp, 2, none⟩ = some (.int .i64 (s.i : Int)))) (by kernel_rfl) ?qdhS (fun hHeld => ?qdrest)
        case qdhS => exact ⟨KN.cell (g := gp) (o := 1) (by repeat (first | exact Has.here | refine Has.there ?_)) rfl, KN.cell (g := gp) (o := 2) (by repeat (first | exact Has.here | refine Has.there ?_)) rfl⟩
        refine wpAnyH_take (i := 0) (oi := ⟨some 9, _, _, _, _, _⟩) (v := ?qdv0) rfl (by kernel_rfl) (by kernel_rfl) (by kernel_rfl) (fun _ _ _ h => h) (Or.inl ⟨by rfl, ?qdhy0⟩) hHeld ?qdr0
        case qdhy0 => (intro w hSw; (try dsimp only at hSw); go_simp; (try with_reducible rfl))
        (try simp only [Act.put, List.setIfInBounds_toArray, List.set_cons_zero, List.set_cons_succ])
        refine wpAnyH_ready (rs := [1]) (by kernel_rfl) (by simp) ?qdc1
        refine AllReadyH.cons (o := ⟨some 10, _, _, _, _, _⟩) rfl (fun K hK => ?qdst1) AllReadyH.nil
        go_simp
        (refine (par_kind KN HT.out (by rw [← HN.out]; exact hd) (by omega) 1 (by decide)).mono ?_; rw [HB.out]; rintro y wx ⟨rfl, K2⟩; replace KN := K2; clear K2)
        refine hK.out _ _ ?qdk1 (fun hHeld2 => ?qdm1)
        case qdk1 => exact ⟨KN.cell (g := gp) (o := 1) (by repeat (first | exact Has.here | refine Has.there ?_)) rfl, KN.cell (g := gp) (o := 2) (by repeat (first | exact Has.here | refine Has.there ?_)) rfl⟩
        clear hK K hHeld
        have hHeld := hHeld2; clear hHeld2
        (try simp only [Act.put, List.setIfInBounds_toArray, List.set_cons_zero, List.set_cons_succ])
        refine wpAnyH_take (i := 2) (oi := ⟨some 11, _, _, _, _, _⟩) (v := ?qdv2) rfl (by kernel_rfl) (by kernel_rfl) (by kernel_rfl) (fun _ _ _ h => h) (Or.inl ⟨by rfl, ?qdhy2⟩) hHeld ?qdr2
        case qdhy2 => (intro w hSw; (try dsimp only at hSw); go_simp; (try with_reducible rfl))
        (try simp only [Act.put, List.setIfInBounds_toArray, List.set_cons_zero, List.set_cons_succ])
        refine wpAnyH_take (i := 3) (oi := ⟨some 12, _, _, _, _, _⟩) (v := ?qdv3) rfl (by kernel_rfl) (by kernel_rfl) (by kernel_rfl) (fun _ _ _ h => h) (Or.inl ⟨by rfl, ?qdhy3⟩) hHeld ?qdr3
        case qdhy3 => (intro w hSw; (try dsimp only at hSw); go_simp; (try with_reducible rfl))
        (try simp only [Act.put, List.setIfInBounds_toArray, List.set_cons_zero, List.set_cons_succ])
        refine wpAnyH_take (i := 4) (oi := ⟨some 13, _, _, _, _, _⟩) (v := ?qdv4) rfl (by kernel_rfl) (by kernel_rfl) (by kernel_rfl) (fun _ _ _ h => h) (Or.inl ⟨by rfl, ?qdhy4⟩) hHeld ?qdr4
        case qdhy4 => (intro w hSw; (try dsimp only at hSw); go_simp; (try with_reducible rfl))
        (try simp only [Act.put, List.setIfInBounds_toArray, List.set_cons_zero, List.set_cons_succ])
        refine wpAnyH_take (i := 5) (oi := ⟨some 14, _, _, _, _, _⟩) (v := ?qdv5) rfl (by kernel_rfl) (by kernel_rfl) (by kernel_rfl) (fun _ _ _ h => h) (Or.inl ⟨by rfl, ?qdhy5⟩) hHeld ?qdr5
        case qdhy5 => (intro w hSw; (try dsimp only at hSw); go_simp; (try with_reducible rfl))
        (try simp only [Act.put, List.setIfInBounds_toArray, List.set_cons_zero, List.set_cons_succ])
        refine wpAnyH_take (i := 6) (oi := ⟨some 15, _, _, _, _, _⟩) (v := ?qdv6) rfl (by kernel_rfl) (by kernel_rfl) (by kernel_rfl) (fun _ _ _ h => h) (Or.inl ⟨by rfl, ?qdhy6⟩) hHeld ?qdr6
        case qdhy6 => (intro w hSw; (try dsimp only at hSw); go_simp; (try with_reducible rfl))
        (try simp only [Act.put, List.setIfInBounds_toArray, List.set_cons_zero, List.set_cons_succ])
        refine wpAnyH_take (i := 7) (oi := ⟨some 16, _, _, _, _, _⟩) (v := (.int .i64 (s.i : Int))) rfl (by kernel_rfl) (by kernel_rfl) (by kernel_rfl) (fun _ _ _ h => h) (kn_yields_cell (by rfl) 3 _ rfl gp 2 rfl _ (fun _ h => h.2) _ Tryd.underlying3 rfl) hHeld ?qdr7
        (try simp only [Act.put, List.setIfInBounds_toArray, List.set_cons_zero, List.set_cons_succ])
        refine wpAnyH_take (i := 8) (oi := ⟨some 17, _, _, _, _, _⟩) (v := (.int .i64 ((s.i + 1 : Nat) : Int))) rfl (by kernel_rfl) (by kernel_rfl) (by kernel_rfl) (fun _ _ _ h => h) (.inl ⟨by rfl, by intro w _; go_simp; first | done | exact hwr1 | omega | (intro h9; exact absurd (h9 (by omega)) (by omega))⟩) hHeld ?qdr8
        (try simp only [Act.put, List.setIfInBounds_toArray, List.set_cons_zero, List.set_cons_succ])
        refine wpAnyH_take (i := 9) (oi := ⟨some 18, _, _, _, _, _⟩) (v := ?qdv9) rfl (by kernel_rfl) (by kernel_rfl) (by kernel_rfl) (fun _ _ _ h => h) (Or.inl ⟨by rfl, ?qdhy9⟩) hHeld ?qdr9
        case qdhy9 => (intro w hSw; (try dsimp only at hSw); go_simp; (try with_reducible rfl))
        (try simp only [Act.put, List.setIfInBounds_toArray, List.set_cons_zero, List.set_cons_succ])
        refine wpAnyH_take (i := 10) (oi := ⟨some 19, _, _, _, _, _⟩) (v := ?qdv10) rfl (by kernel_rfl) (by kernel_rfl) (by kernel_rfl) (fun _ _ _ h => h) (Or.inl ⟨by rfl, ?qdhy10⟩) hHeld ?qdr10
        case qdhy10 => (intro w hSw; (try dsimp only at hSw); go_simp; (try with_reducible rfl))
        (try simp only [Act.put, List.setIfInBounds_toArray, List.set_cons_zero, List.set_cons_succ])
        refine wpAnyH_take (i := 11) (oi := ⟨some 20, _, _, _, _, _⟩) (v := ?qdv11) rfl (by kernel_rfl) (by kernel_rfl) (by kernel_rfl) (fun _ _ _ h => h) (Or.inl ⟨by rfl, ?qdhy11⟩) hHeld ?qdr11
        case qdhy11 => (intro w hSw; (try dsimp only at hSw); go_simp; (try with_reducible rfl))
        (try simp only [Act.put, List.setIfInBounds_toArray, List.set_cons_zero, List.set_cons_succ])
        refine wpAnyH_take (i := 12) (oi := ⟨some 21, _, _, _, _, _⟩) (v := (.slice (some ⟨b, off, none⟩) dn c)) rfl (by kernel_rfl) (by kernel_rfl) (by kernel_rfl) (fun _ _ _ h => h) (kn_yields_cell (by rfl) 46 _ rfl gp 1 rfl _ (fun _ h => h.1) _ Tryd.underlying46 rfl) hHeld ?qdr12
        (try simp only [Act.put, List.setIfInBounds_toArray, List.set_cons_zero, List.set_cons_succ])
        refine wpAnyH_take (i := 13) (oi := ⟨some 22, _, _, _, _, _⟩) (v := ?qdv13) rfl (by kernel_rfl) (by kernel_rfl) (by kernel_rfl) (fun _ _ _ h => h) (Or.inl ⟨by rfl, ?qdhy13⟩) hHeld ?qdr13
        case qdhy13 => (intro w hSw; (try dsimp only at hSw); go_simp; (try with_reducible rfl))
        (try simp only [Act.put, List.setIfInBounds_toArray, List.set_cons_zero, List.set_cons_succ])
        refine wpAnyH_take (i := 14) (oi := ⟨some 23, _, _, _, _, _⟩) (v := (.bool true)) rfl (by kernel_rfl) (by kernel_rfl) (by kernel_rfl) (fun _ _ _ h => h) (.inl ⟨by rfl, by intro w _; go_simp; first | done | exact hwr1 | omega | (intro h9; exact absurd (h9 (by omega)) (by omega))⟩) hHeld ?qdr14
        (try simp only [Act.put, List.setIfInBounds_toArray, List.set_cons_zero, List.set_cons_succ])
        refine wpAnyH_take (i := 15) (oi := ⟨some 24, _, _, _, _, _⟩) (v := ?qdv15) rfl (by kernel_rfl) (by kernel_rfl) (by kernel_rfl) (fun _ _ _ h => h) (Or.inl ⟨by rfl, ?qdhy15⟩) hHeld ?qdr15
        case qdhy15 => (intro w hSw; (try dsimp only at hSw); go_simp; (try with_reducible rfl))
        (try simp only [Act.put, List.setIfInBounds_toArray, List.set_cons_zero, List.set_cons_succ])
        refine wpAnyH_take (i := 16) (oi := ⟨some 25, _, _, _, _, _⟩) (v := ?qdv16) rfl (by kernel_rfl) (by kernel_rfl) (by kernel_rfl) (fun _ _ _ h => h) (Or.inl ⟨by rfl, ?qdhy16⟩) hHeld ?qdr16
        case qdhy16 => (intro w hSw; (try dsimp only at hSw); go_simp; (try with_reducible rfl))
        (try simp only [Act.put, List.setIfInBounds_toArray, List.set_cons_zero, List.set_cons_succ])
        refine wpAnyH_take (i := 17) (oi := ⟨some 26, _, _, _, _, _⟩) (v := undef) rfl (by kernel_rfl) (by kernel_rfl) (by kernel_rfl) (fun _ _ _ h => h) (Or.inr ⟨by rfl, rfl⟩) hHeld ?qdr17
        (try simp only [Act.put, List.setIfInBounds_toArray, List.set_cons_zero, List.set_cons_succ])
        refine wpAnyH_take (i := 18) (oi := ⟨some 27, _, _, _, _, _⟩) (v := undef) rfl (by kernel_rfl) (by kernel_rfl) (by kernel_rfl) (fun _ _ _ h => h) (Or.inr ⟨by rfl, rfl⟩) hHeld ?qdr18
        (try simp only [Act.put, List.setIfInBounds_toArray, List.set_cons_zero, List.set_cons_succ])
        refine wpAnyH_take (i := 19) (oi := ⟨some 28, _, _, _, _, _⟩) (v := undef) rfl (by kernel_rfl) (by kernel_rfl) (by kernel_rfl) (fun _ _ _ h => h) (Or.inr ⟨by rfl, rfl⟩) hHeld ?qdr19
        (try simp only [Act.put, List.setIfInBounds_toArray, List.set_cons_zero, List.set_cons_succ])
        refine wpAnyH_take (i := 20) (oi := ⟨some 29, _, _, _, _, _⟩) (v := undef) rfl (by kernel_rfl) (by kernel_rfl) (by kernel_rfl) (fun _ _ _ h => h) (Or.inr ⟨by rfl, rfl⟩) hHeld ?qdr20
        (try simp only [Act.put, List.setIfInBounds_toArray, List.set_cons_zero, List.set_cons_succ])
        refine wpAnyH_take (i := 21) (oi := ⟨some 30, _, _, _, _, _⟩) (v := undef) rfl (by kernel_rfl) (by kernel_rfl) (by kernel_rfl) (fun _ _ _ h => h) (Or.inr ⟨by rfl, rfl⟩) hHeld ?qdr21
        (try simp only [Act.put, List.setIfInBounds_toArray, List.set_cons_zero, List.set_cons_succ])
        refine wpAnyH_take (i := 22) (oi := ⟨some 31, _, _, _, _, _⟩) (v := undef) rfl (by kernel_rfl) (by kernel_rfl) (by kernel_rfl) (fun _ _ _ h => h) (Or.inr ⟨by rfl, rfl⟩) hHeld ?qdr22
        (try simp only [Act.put, List.setIfInBounds_toArray, List.set_cons_zero, List.set_cons_succ])
        refine wpAnyH_take (i := 23) (oi := ⟨some 32, _, _, _, _, _⟩) (v := undef) rfl (by kernel_rfl) (by kernel_rfl) (by kernel_rfl) (fun _ _ _ h => h) (Or.inr ⟨by rfl, rfl⟩) hHeld ?qdr23
        (try simp only [Act.put, List.setIfInBounds_toArray, List.set_cons_zero, List.set_cons_succ])
        refine wpAnyH_take (i := 24) (oi := ⟨some 33, _, _, _, _, _⟩) (v := undef) rfl (by kernel_rfl) (by kernel_rfl) (by kernel_rfl) (fun _ _ _ h => h) (Or.inr ⟨by rfl, rfl⟩) hHeld ?qdr24
        (try simp only [Act.put, List.setIfInBounds_toArray, List.set_cons_zero, List.set_cons_succ])
        refine wpAnyH_take (i := 25) (oi := ⟨some 34, _, _, _, _, _⟩) (v := undef) rfl (by kernel_rfl) (by kernel_rfl) (by kernel_rfl) (fun _ _ _ h => h) (Or.inr ⟨by rfl, rfl⟩) hHeld ?qdr25
        (try simp only [Act.put, List.setIfInBounds_toArray, List.set_cons_zero, List.set_cons_succ])
        refine wpAnyH_take (i := 26) (oi := ⟨some 35, _, _, _, _, _⟩) (v := undef) rfl (by kernel_rfl) (by kernel_rfl) (by kernel_rfl) (fun _ _ _ h => h) (Or.inr ⟨by rfl, rfl⟩) hHeld ?qdr26
        (try simp only [Act.put, List.setIfInBounds_toArray, List.set_cons_zero, List.set_cons_succ])
        refine wpAnyH_take (i := 27) (oi := ⟨some 36, _, _, _, _, _⟩) (v := undef) rfl (by kernel_rfl) (by kernel_rfl) (by kernel_rfl) (fun _ _ _ h => h) (Or.inr ⟨by rfl, rfl⟩) hHeld ?qdr27
        (try simp only [Act.put, List.setIfInBounds_toArray, List.set_cons_zero, List.set_cons_succ])
        refine wpAnyH_take (i := 28) (oi := ⟨some 37, _, _, _, _, _⟩) (v := undef) rfl (by kernel_rfl) (by kernel_rfl) (by kernel_rfl) (fun _ _ _ h => h) (Or.inr ⟨by rfl, rfl⟩) hHeld ?qdr28
        (try simp only [Act.put, List.setIfInBounds_toArray, List.set_cons_zero, List.set_cons_succ])
        refine wpAnyH_take (i := 29) (oi := ⟨some 38, _, _, _, _, _⟩) (v := undef) rfl (by kernel_rfl) (by kernel_rfl) (by kernel_rfl) (fun _ _ _ h => h) (Or.inr ⟨by rfl, rfl⟩) hHeld ?qdr29
        (try simp only [Act.put, List.setIfInBounds_toArray, List.set_cons_zero, List.set_cons_succ])
        refine wpAnyH_take (i := 30) (oi := ⟨some 39, _, _, _, _, _⟩) (v := ?qdv30) rfl (by kernel_rfl) (by kernel_rfl) (by kernel_rfl) (fun _ _ _ h => h) (Or.inl ⟨by rfl, ?qdhy30⟩) hHeld ?qdr30
        case qdhy30 => (intro w hSw; (try dsimp only at hSw); go_simp; (try with_reducible rfl))
        (try simp only [Act.put, List.setIfInBounds_toArray, List.set_cons_zero, List.set_cons_succ])
        refine wpAnyH_take (i := 31) (oi := ⟨some 40, _, _, _, _, _⟩) (v := ?qdv31) rfl (by kernel_rfl) (by kernel_rfl) (by kernel_rfl) (fun _ _ _ h => h) (Or.inl ⟨by rfl, ?qdhy31⟩) hHeld ?qdr31
        case qdhy31 => (intro w hSw; (try dsimp only at hSw); go_simp; (try with_reducible rfl))
        (try simp only [Act.put, List.setIfInBounds_toArray, List.set_cons_zero, List.set_cons_succ])
        refine wpAnyH_take (i := 32) (oi := ⟨some 41, _, _, _, _, _⟩) (v := undef) rfl (by kernel_rfl) (by kernel_rfl) (by kernel_rfl) (fun _ _ _ h => h) (Or.inr ⟨by rfl, rfl⟩) hHeld ?qdr32
        (try simp only [Act.put, List.setIfInBounds_toArray, List.set_cons_zero, List.set_cons_succ])
        refine wpAnyH_take (i := 33) (oi := ⟨some 42, _, _, _, _, _⟩) (v := undef) rfl (by kernel_rfl) (by kernel_rfl) (by kernel_rfl) (fun _ _ _ h => h) (Or.inr ⟨by rfl, rfl⟩) hHeld ?qdr33
        (try simp only [Act.put, List.setIfInBounds_toArray, List.set_cons_zero, List.set_cons_succ])
        refine wpAnyH_take (i := 34) (oi := ⟨some 43, _, _, _, _, _⟩) (v := undef) rfl (by kernel_rfl) (by kernel_rfl) (by kernel_rfl) (fun _ _ _ h => h) (Or.inr ⟨by rfl, rfl⟩) hHeld ?qdr34
        (try simp only [Act.put, List.setIfInBounds_toArray, List.set_cons_zero, List.set_cons_succ])
        refine wpAnyH_take (i := 35) (oi := ⟨some 44, _, _, _, _, _⟩) (v := undef) rfl (by kernel_rfl) (by kernel_rfl) (by kernel_rfl) (fun _ _ _ h => h) (Or.inr ⟨by rfl, rfl⟩) hHeld ?qdr35
        (try simp only [Act.put, List.setIfInBounds_toArray, List.set_cons_zero, List.set_cons_succ])
        refine wpAnyH_take (i := 36) (oi := ⟨some 45, _, _, _, _, _⟩) (v := undef) rfl (by kernel_rfl) (by kernel_rfl) (by kernel_rfl) (fun _ _ _ h => h) (Or.inr ⟨by rfl, rfl⟩) hHeld ?qdr36
        (try simp only [Act.put, List.setIfInBounds_toArray, List.set_cons_zero, List.set_cons_succ])
        refine wpAnyH_take (i := 37) (oi := ⟨some 46, _, _, _, _, _⟩) (v := undef) rfl (by kernel_rfl) (by kernel_rfl) (by kernel_rfl) (fun _ _ _ h => h) (Or.inr ⟨by rfl, rfl⟩) hHeld ?qdr37
        (try simp only [Act.put, List.setIfInBounds_toArray, List.set_cons_zero, List.set_cons_succ])
        refine wpAnyH_take (i := 38) (oi := ⟨some 47, _, _, _, _, _⟩) (v := undef) rfl (by kernel_rfl) (by kernel_rfl) (by kernel_rfl) (fun _ _ _ h => h) (Or.inr ⟨by rfl, rfl⟩) hHeld ?qdr38
        (try simp only [Act.put, List.setIfInBounds_toArray, List.set_cons_zero, List.set_cons_succ])
        refine wpAnyH_take (i := 39) (oi := ⟨some 48, _, _, _, _, _⟩) (v := undef) rfl (by kernel_rfl) (by kernel_rfl) (by kernel_rfl) (fun _ _ _ h => h) (Or.inr ⟨by rfl, rfl⟩) hHeld ?qdr39
        (try simp only [Act.put, List.setIfInBounds_toArray, List.set_cons_zero, List.set_cons_succ])
        refine wpAnyH_take (i := 40) (oi := ⟨some 49, _, _, _, _, _⟩) (v := undef) rfl (by kernel_rfl) (by kernel_rfl) (by kernel_rfl) (fun _ _ _ h => h) (Or.inr ⟨by rfl, rfl⟩) hHeld ?qdr40
        (try simp only [Act.put, List.setIfInBounds_toArray, List.set_cons_zero, List.set_cons_succ])
        refine wpAnyH_take (i := 41) (oi := ⟨some 50, _, _, _, _, _⟩) (v := undef) rfl (by kernel_rfl) (by kernel_rfl) (by kernel_rfl) (fun _ _ _ h => h) (Or.inr ⟨by rfl, rfl⟩) hHeld ?qdr41
        (try simp only [Act.put, List.setIfInBounds_toArray, List.set_cons_zero, List.set_cons_succ])
        refine wpAnyH_take (i := 42) (oi := ⟨some 51, _, _, _, _, _⟩) (v := undef) rfl (by kernel_rfl) (by kernel_rfl) (by kernel_rfl) (fun _ _ _ h => h) (Or.inr ⟨by rfl, rfl⟩) hHeld ?qdr42
        (try simp only [Act.put, List.setIfInBounds_toArray, List.set_cons_zero, List.set_cons_succ])
        refine wpAnyH_take (i := 43) (oi := ⟨some 52, _, _, _, _, _⟩) (v := undef) rfl (by kernel_rfl) (by kernel_rfl) (by kernel_rfl) (fun _ _ _ h => h) (Or.inr ⟨by rfl, rfl⟩) hHeld ?qdr43
        (try simp only [Act.put, List.setIfInBounds_toArray, List.set_cons_zero, List.set_cons_succ])
        refine wpAnyH_take (i := 44) (oi := ⟨some 53, _, _, _, _, _⟩) (v := undef) rfl (by kernel_rfl) (by kernel_rfl) (by kernel_rfl) (fun _ _ _ h => h) (Or.inr ⟨by rfl, rfl⟩) hHeld ?qdr44
        (try simp only [Act.put, List.setIfInBounds_toArray, List.set_cons_zero, List.set_cons_succ])
        refine wpAnyH_take (i := 45) (oi := ⟨some 54, _, _, _, _, _⟩) (v := ?qdv45) rfl (by kernel_rfl) (by kernel_rfl) (by kernel_rfl) (fun _ _ _ h => h) (Or.inl ⟨by rfl, ?qdhy45⟩) hHeld ?qdr45
        case qdhy45 => (intro w hSw; (try dsimp only at hSw); go_simp; (try with_reducible rfl))
        (try simp only [Act.put, List.setIfInBounds_toArray, List.set_cons_zero, List.set_cons_succ])
        refine wpAnyH_done (by kernel_rfl) ?qddone _
        go_wp2_with fail
        go_meet
        case rel => exact ⟨by rw [HLB.out]; rfl, KN⟩
  case rest =>
    clear KN
    obtain ⟨rfl, KN⟩ := hcut
    cases hlb : labB d s with
    | false =>
      have HLB := Lib.hid hlb
      clear hlb
      go_wp2_with (first | ((with_reducible refine wpList_gate ?_); first | ((refine gate_load (by rfl) ?_); first | (refine ks_load1 KN 67 Tryd.underlying67 ?_) | (refine ks_load1 KN 3 Tryd.underlying3 ?_) | (refine ks_load1 KN 46 Tryd.underlying46 ?_) | (refine ks_load1 KN 9 Tryd.underlying9 ?_) | (refine ks_load1 KN 70 Tryd.underlying70 ?_) | (refine ks_load1 KN 31 Tryd.underlying31 ?_) | (refine ks_load1 KN 23 Tryd.underlying23 ?_)) | ((refine gate_store (by rfl) ?_); first | (refine ks_store1 KN 70 ?_; clear KN; intro wx KN) | (refine ks_store1 KN 31 ?_; clear KN; intro wx KN) | (refine ks_store1 KN 3 ?_; clear KN; intro wx KN))))
      go_ret
      exact ⟨_, _, nl, ql, s, false, ls, rfl, HON.out, HOQ.out, KN, .inl ⟨HLB.out, rfl, rfl, rfl⟩⟩
    | true =>
      have hb : kindB d s 1 = true := by unfold labB at hlb; rw [Bool.and_eq_true] at hlb; exact hlb.1
      have HLB := Lib.hid hlb
      have hin := kind_in (by decide) hb
      obtain ⟨t, ht⟩ : ∃ t, d[s.i]? = some t := ⟨_, List.getElem?_eq_getElem hin⟩
      obtain ⟨b, off, rfl, hbb, _, x1, _, _, _⟩ := HC.out s.i t ht
      have HTK : Hid ((tk d s.i).text = t.raw.text) := Lib.hid (by rw [tk_in ht])
      obtain ⟨rv, hrv⟩ : ∃ rv, rv = regOf t.raw.text := ⟨_, rfl⟩
      have hrb := regOf_bdR t.raw.text
      have HRV := Lib.hid hrv
      rw [← hrv] at hrb
      rw [← HN.out] at hin
      clear hlb hb ht hrv HC
      go_upto_region 4 with fail
      (try go_frame)
      go_cut [4] (fun s4 wz => s4 = .string (str t.raw.text) ∧ Kn [] W wz ((gp, At (parC (.string sv) (.slice (some ⟨b, off, none⟩) dn c) s) 74) :: (ga, At (ascC gp (.slice oa n oc) us (.slice na m nc) (.slice qa m qc)) 72) :: (R ++ (ql ++ nl))))
      case first =>
        replace KN := KN.drew
        refine wp_region_held_drew (S := (fun w' => w'.cell? ⟨gp, 1, none⟩ = some (.slice (some ⟨b, off, none⟩) dn c) ∧ w'.cell? ⟨gp, 2, none⟩ = some (.int .i64 (s.i : Int)) ∧ w'.cell? ⟨b, off + s.i * 5 + 1, none⟩ = some (.string (str t.raw.text)))) (by kernel_rfl) ?qehS (fun hHeld => ?qerest)
        case qehS => exact ⟨KN.cell (g := gp) (o := 1) (by repeat (first | exact Has.here | refine Has.there ?_)) rfl, KN.cell (g := gp) (o := 2) (by repeat (first | exact Has.here | refine Has.there ?_)) rfl, (KN.old hbb (by simp)).trans x1⟩
        refine wpAnyH_take (i := 0) (oi := ⟨some 55, _, _, _, _, _⟩) (v := ?qev0) rfl (by kernel_rfl) (by kernel_rfl) (by kernel_rfl) (fun _ _ _ h => h) (Or.inl ⟨by rfl, ?qehy0⟩) hHeld ?qer0
        case qehy0 => (intro w hSw; (try dsimp only at hSw); go_simp; (try with_reducible rfl))
        (try simp only [Act.put, List.setIfInBounds_toArray, List.set_cons_zero, List.set_cons_succ])
        refine wpAnyH_take (i := 1) (oi := ⟨some 56, _, _, _, _, _⟩) (v := ?qev1) rfl (by kernel_rfl) (by kernel_rfl) (by kernel_rfl) (fun _ _ _ h => h) (Or.inl ⟨by rfl, ?qehy1⟩) hHeld ?qer1
        case qehy1 => (intro w hSw; (try dsimp only at hSw); go_simp; (try with_reducible rfl))
        (try simp only [Act.put, List.setIfInBounds_toArray, List.set_cons_zero, List.set_cons_succ])
        refine wpAnyH_take (i := 2) (oi := ⟨some 57, _, _, _, _, _⟩) (v := ?qev2) rfl (by kernel_rfl) (by kernel_rfl) (by kernel_rfl) (fun _ _ _ h => h) (Or.inl ⟨by rfl, ?qehy2⟩) hHeld ?qer2
        case qehy2 => (intro w hSw; (try dsimp only at hSw); go_simp; (try with_reducible rfl))
        (try simp only [Act.put, List.setIfInBounds_toArray, List.set_cons_zero, List.set_cons_succ])
        refine wpAnyH_take (i := 3) (oi := ⟨some 58, _, _, _, _, _⟩) (v := (.slice (some ⟨b, off, none⟩) dn c)) rfl (by kernel_rfl) (by kernel_rfl) (by kernel_rfl) (fun _ _ _ h => h) (kn_yields_cell (by rfl) 46 _ rfl gp 1 rfl _ (fun _ h => h.1) _ Tryd.underlying46 rfl) hHeld ?qer3
        (try simp only [Act.put, List.setIfInBounds_toArray, List.set_cons_zero, List.set_cons_succ])
        refine wpAnyH_take (i := 4) (oi := ⟨some 59, _, _, _, _, _⟩) (v := ?qev4) rfl (by kernel_rfl) (by kernel_rfl) (by kernel_rfl) (fun _ _ _ h => h) (Or.inl ⟨by rfl, ?qehy4⟩) hHeld ?qer4
        case qehy4 => (intro w hSw; (try dsimp only at hSw); go_simp; (try with_reducible rfl))
        (try simp only [Act.put, List.setIfInBounds_toArray, List.set_cons_zero, List.set_cons_succ])
        refine wpAnyH_take (i := 5) (oi := ⟨some 60, _, _, _, _, _⟩) (v := ?qev5) rfl (by kernel_rfl) (by kernel_rfl) (by kernel_rfl) (fun _ _ _ h => h) (Or.inl ⟨by rfl, ?qehy5⟩) hHeld ?qer5
        case qehy5 => (intro w hSw; (try dsimp only at hSw); go_simp; (try with_reducible rfl))
        (try simp only [Act.put, List.setIfInBounds_toArray, List.set_cons_zero, List.set_cons_succ])
        refine wpAnyH_take (i := 6) (oi := ⟨some 61, _, _, _, _, _⟩) (v := ?qev6) rfl (by kernel_rfl) (by kernel_rfl) (by kernel_rfl) (fun _ _ _ h => h) (Or.inl ⟨by rfl, ?qehy6⟩) hHeld ?qer6
        case qehy6 => (intro w hSw; (try dsimp only at hSw); go_simp; (try with_reducible rfl))
        (try simp only [Act.put, List.setIfInBounds_toArray, List.set_cons_zero, List.set_cons_succ])
        refine wpAnyH_take (i := 7) (oi := ⟨some 62, _, _, _, _, _⟩) (v := (.int .i64 (s.i : Int))) rfl (by kernel_rfl) (by kernel_rfl) (by kernel_rfl) (fun _ _ _ h => h) (kn_yields_cell (by rfl) 3 _ rfl gp 2 rfl _ (fun _ h => h.2.1) _ Tryd.underlying3 rfl) hHeld ?qer7
        (try simp only [Act.put, List.setIfInBounds_toArray, List.set_cons_zero, List.set_cons_succ])
        refine wpAnyH_take (i := 8) (oi := ⟨some 63, _, _, _, _, _⟩) (v := (.pointer (some ⟨b, off + s.i * 5, none⟩))) rfl (by kernel_rfl) (by kernel_rfl) (by kernel_rfl) (fun _ _ _ h => h) (Or.inl ⟨by rfl, ?qehy8⟩) hHeld ?qer8
        case qehy8 => (intro w hSw; (try dsimp only at hSw); go_simp; (try rfl))
        (try simp only [Act.put, List.setIfInBounds_toArray, List.set_cons_zero, List.set_cons_succ])
        refine wpAnyH_take (i := 9) (oi := ⟨some 64, _, _, _, _, _⟩) (v := ?qev9) rfl (by kernel_rfl) (by kernel_rfl) (by kernel_rfl) (fun _ _ _ h => h) (Or.inl ⟨by rfl, ?qehy9⟩) hHeld ?qer9
        case qehy9 => (intro w hSw; (try dsimp only at hSw); go_simp; (try with_reducible rfl))
        (try simp only [Act.put, List.setIfInBounds_toArray, List.set_cons_zero, List.set_cons_succ])
        refine wpAnyH_take (i := 10) (oi := ⟨some 65, _, _, _, _, _⟩) (v := (.string (str t.raw.text))) rfl (by kernel_rfl) (by kernel_rfl) (by kernel_rfl) (fun _ _ _ h => h) (kn_yields_cell (by rfl) 9 _ rfl b (off + s.i * 5 + 1) rfl _ (fun _ h => h.2.2) _ Tryd.underlying9 rfl) hHeld ?qer10
        (try simp only [Act.put, List.setIfInBounds_toArray, List.set_cons_zero, List.set_cons_succ])
        refine wpAnyH_take (i := 11) (oi := ⟨some 4, _, _, _, _, _⟩) (v := ?qev11) rfl (by kernel_rfl) (by kernel_rfl) (by kernel_rfl) (fun _ _ _ h => h) (Or.inl ⟨by rfl, ?qehy11⟩) hHeld ?qer11
        case qehy11 => (intro w hSw; (try dsimp only at hSw); go_simp; (try with_reducible rfl))
        (try simp only [Act.put, List.setIfInBounds_toArray, List.set_cons_zero, List.set_cons_succ])
        refine wpAnyH_done (by kernel_rfl) ?qedone _
        go_wp2_with fail
        go_meet
        exact ⟨rfl, KN⟩
      case rest =>
        clear KN
        obtain ⟨rfl, KN⟩ := hcut
        by_cases h0 : 0 ≤ rv
        · go_wp2_with (first | (go_at_call 71; refine (Register_any t.raw.text _).mono ?_; rw [← HRV.out]; rintro y wx ⟨rfl, rfl⟩) | (go_at_call 35; refine (par_fail KN HT.out (by rw [← HN.out]; exact hd) hs hp s.i (by omega) 50).mono ?_; rintro y wx ⟨rfl, K2⟩; replace KN := K2; clear K2) | ((with_reducible refine wpList_gate ?_); first | ((refine gate_load (by rfl) ?_); first | (refine ks_load1 KN 67 Tryd.underlying67 ?_) | (refine ks_load1 KN 3 Tryd.underlying3 ?_) | (refine ks_load1 KN 46 Tryd.underlying46 ?_) | (refine ks_load1 KN 9 Tryd.underlying9 ?_) | (refine ks_load1 KN 70 Tryd.underlying70 ?_) | (refine ks_load1 KN 31 Tryd.underlying31 ?_) | (refine ks_load1 KN 23 Tryd.underlying23 ?_)) | ((refine gate_store (by rfl) ?_); first | (refine ks_store1 KN 70 ?_; clear KN; intro wx KN) | (refine ks_store1 KN 31 ?_; clear KN; intro wx KN) | (refine ks_store1 KN 3 ?_; clear KN; intro wx KN))))
          go_ret
          exact ⟨_, _, nl, ql, _, false, ls, rfl, HON.out, HOQ.out, KN, .inr (.inl ⟨HLB.out, by rw [HTK.out, ← HRV.out]; exact h0, rfl, rfl, rfl⟩)⟩
        · obtain ⟨s', hs'⟩ : ∃ s', s' = if 0 ≤ findI ls t.raw.text then failP el ec d s s.i 72 else s := ⟨_, rfl⟩
          have hsi : s'.i = s.i := by rw [hs']; split; exact failP_i _ _ _ _ _ _; rfl
          have HS' := Lib.hid hs'
          obtain ⟨fi, hfi⟩ : ∃ fi, fi = findI ls t.raw.text := ⟨_, rfl⟩
          have HFI := Lib.hid hfi
          clear hs' hfi
          go_upto_if 78 with (first | (go_at_call 71; refine (Register_any t.raw.text _).mono ?_; rw [← HRV.out]; rintro y wx ⟨rfl, rfl⟩) | (go_at_call 34; have hr1 := HON.out.row (f := fun o => (gp, _) :: (ga, _) :: (R ++ (ql ++ o))) KN (TailF.cons _ (TailF.cons _ (TailF.app (TailF.app TailF.id ql) R))); have hr2 := HOQ.out.row (f := fun o => (gp, _) :: (ga, _) :: (R ++ (nl ++ o))) (KN.perm ((((List.perm_append_comm).append_left R).cons _).cons _)) (TailF.cons _ (TailF.cons _ (TailF.app (TailF.app TailF.id nl) R))); refine (asr_find (KN.perm (List.Perm.swap _ _ _)) hr1 hr2).mono ?_; rw [← HFI.out]; rintro y wx ⟨rfl, hb⟩; replace KN := KN.below hb; clear hb hr1 hr2) | ((with_reducible refine wpList_gate ?_); first | ((refine gate_load (by rfl) ?_); first | (refine ks_load1 KN 67 Tryd.underlying67 ?_) | (refine ks_load1 KN 3 Tryd.underlying3 ?_) | (refine ks_load1 KN 46 Tryd.underlying46 ?_) | (refine ks_load1 KN 9 Tryd.underlying9 ?_) | (refine ks_load1 KN 70 Tryd.underlying70 ?_) | (refine ks_load1 KN 31 Tryd.underlying31 ?_) | (refine ks_load1 KN 23 Tryd.underlying23 ?_)) | ((refine gate_store (by rfl) ?_); first | (refine ks_store1 KN 70 ?_; clear KN; intro wx KN) | (refine ks_store1 KN 31 ?_; clear KN; intro wx KN) | (refine ks_store1 KN 3 ?_; clear KN; intro wx KN))))
          go_cut [78] (fun _ wz => Kn [] W wz ((gp, At (parC (.string sv) (.slice (some ⟨b, off, none⟩) dn c) s') 74) :: (ga, At (ascC gp (.slice oa n oc) us (.slice na m nc) (.slice qa m qc)) 72) :: (R ++ (ql ++ nl))))
          case first =>
            by_cases hf : 0 ≤ fi
            · have HSF : Hid (s' = failP el ec d s s.i 72) := Lib.hid (by rw [HS'.out, ← HFI.out, if_pos hf])
              go_wp2_with (first | (go_at_call 35; refine (par_fail KN HT.out (by rw [← HN.out]; exact hd) hs hp s.i (by omega) 72).mono ?_; rintro y wx ⟨rfl, K2⟩; replace KN := K2; clear K2) | ((with_reducible refine wpList_gate ?_); first | ((refine gate_load (by rfl) ?_); first | (refine ks_load1 KN 67 Tryd.underlying67 ?_) | (refine ks_load1 KN 3 Tryd.underlying3 ?_) | (refine ks_load1 KN 46 Tryd.underlying46 ?_) | (refine ks_load1 KN 9 Tryd.underlying9 ?_) | (refine ks_load1 KN 70 Tryd.underlying70 ?_) | (refine ks_load1 KN 31 Tryd.underlying31 ?_) | (refine ks_load1 KN 23 Tryd.underlying23 ?_)) | ((refine gate_store (by rfl) ?_); first | (refine ks_store1 KN 70 ?_; clear KN; intro wx KN) | (refine ks_store1 KN 31 ?_; clear KN; intro wx KN) | (refine ks_store1 KN 3 ?_; clear KN; intro wx KN))))
              go_meet
              case rel => exact (by rw [HSF.out]; exact KN)
            · have HSF : Hid (s' = s) := Lib.hid (by rw [HS'.out, ← HFI.out, if_neg hf])
              go_wp2_with fail
              go_meet
              case rel => exact (by rw [HSF.out]; exact KN)
          case rest =>
            clear KN
            have KN := hcut
            go_upto_region 11 with (first | ((with_reducible refine wpList_gate ?_); first | (refine wpList_kn_lit KN rfl 70 9 1 _ rfl 91 rfl Tryd.underlying70 #[.string (str t.raw.text)] (by kernel_rfl) ?_; clear KN; intro g91 wx hg91 KN) | (at_builtin; (refine wpList_kn_append1 KN HON.out (by rfl) _ _ 70 rfl 16 Tryd.underlying70 (by kernel_rfl) (by decide) rfl 1 rfl rfl (by kernel_rfl) (by rw [HNL.out]; unfold maxLen; omega) (by rw [HNL.out]; omega) (f := fun o => (gp, _) :: (ga, _) :: (R ++ (ql ++ o))) (TailF.cons _ (TailF.cons _ (TailF.app (TailF.app TailF.id ql) R))) rfl ?_); clear KN; intro v1 wx nl' OW1 KN; obtain ⟨xa, xc, rfl⟩ := OW1.form) | ((refine gate_load (by rfl) ?_); first | (refine ks_load1 KN 67 Tryd.underlying67 ?_) | (refine ks_load1 KN 3 Tryd.underlying3 ?_) | (refine ks_load1 KN 46 Tryd.underlying46 ?_) | (refine ks_load1 KN 9 Tryd.underlying9 ?_) | (refine ks_load1 KN 70 Tryd.underlying70 ?_) | (refine ks_load1 KN 31 Tryd.underlying31 ?_) | (refine ks_load1 KN 23 Tryd.underlying23 ?_)) | ((refine gate_store (by rfl) ?_); first | (refine ks_store1 KN 70 ?_; clear KN; intro wx KN) | (refine ks_store1 KN 31 ?_; clear KN; intro wx KN) | (refine ks_store1 KN 3 ?_; clear KN; intro wx KN))))
            (try go_frame)
            rw [show (labN ls ++ [#[Value.string (str t.raw.text)].toList]).length = m + 1 from by rw [List.length_append, HNL.out]; rfl] at OW1
            simp only [HNL.out] at KN
            have HO1 := Lib.hid OW1
            clear OW1
            replace KN := KN.as_ ga (ascC gp (.slice oa n oc) us (.slice xa (m + 1) xc) (.slice qa m qc)) (by repeat (first | exact Repl.here | apply Repl.there)) (by rfl)
            replace KN := KN.perm ((((List.perm_append_comm).append_left R).cons _).cons _)
            go_cut [] (fun wz => ∃ (qv' : Value) (ql' : Ents), OwnT 3 1 qv' (labP ls ++ [[Value.int .i64 (n : Int)]]) ql' ∧ Kn [] W wz ((gp, At (parC (.string sv) (.slice (some ⟨b, off, none⟩) dn c) s') 74) :: (ga, At (ascC gp (.slice oa n oc) us (.slice xa (m + 1) xc) qv') 72) :: (R ++ (nl' ++ ql'))))
            case first =>
              replace KN := KN.drew
              refine wp_region_held_drew (S := (fun w' => w'.cell? ⟨ga, 1, none⟩ = some (.slice oa n oc))) (by kernel_rfl) ?qfhS (fun hHeld => ?qfrest)
              case qfhS => exact KN.cell (g := ga) (o := 1) (by repeat (first | exact Has.here | refine Has.there ?_)) (by first | rfl | kernel_rfl)
              refine wpAnyH_take (i := 0) (oi := ⟨some 95, _, _, _, _, _⟩) (v := ?qfv0) rfl (by kernel_rfl) (by kernel_rfl) (by kernel_rfl) (fun _ _ _ h => h) (Or.inl ⟨by rfl, ?qfhy0⟩) hHeld ?qfr0
              case qfhy0 => (intro w hSw; (try dsimp only at hSw); go_simp; (try with_reducible rfl))
              (try simp only [Act.put, List.setIfInBounds_toArray, List.set_cons_zero, List.set_cons_succ])
              refine wpAnyH_take (i := 1) (oi := ⟨some 96, _, _, _, _, _⟩) (v := ?qfv1) rfl (by kernel_rfl) (by kernel_rfl) (by kernel_rfl) (fun _ _ _ h => h) (Or.inl ⟨by rfl, ?qfhy1⟩) hHeld ?qfr1
              case qfhy1 => (intro w hSw; (try dsimp only at hSw); go_simp; (try with_reducible rfl))
              (try simp only [Act.put, List.setIfInBounds_toArray, List.set_cons_zero, List.set_cons_succ])
              refine wpAnyH_take (i := 2) (oi := ⟨some 97, _, _, _, _, _⟩) (v := ?qfv2) rfl (by kernel_rfl) (by kernel_rfl) (by kernel_rfl) (fun _ _ _ h => h) (Or.inl ⟨by rfl, ?qfhy2⟩) hHeld ?qfr2
              case qfhy2 => (intro w hSw; (try dsimp only at hSw); go_simp; (try with_reducible rfl))
              (try simp only [Act.put, List.setIfInBounds_toArray, List.set_cons_zero, List.set_cons_succ])
              refine wpAnyH_take (i := 3) (oi := ⟨some 98, _, _, _, _, _⟩) (v := ?qfv3) rfl (by kernel_rfl) (by kernel_rfl) (by kernel_rfl) (fun _ _ _ h => h) (Or.inl ⟨by rfl, ?qfhy3⟩) hHeld ?qfr3
              case qfhy3 => (intro w hSw; (try dsimp only at hSw); go_simp; (try with_reducible rfl))
              (try simp only [Act.put, List.setIfInBounds_toArray, List.set_cons_zero, List.set_cons_succ])
              refine wpAnyH_take (i := 5) (oi := ⟨some 100, _, _, _, _, _⟩) (v := ?qfv5) rfl (by kernel_rfl) (by kernel_rfl) (by kernel_rfl) (fun _ _ _ h => h) (Or.inl ⟨by rfl, ?qfhy5⟩) hHeld ?qfr5
              case qfhy5 => (intro w hSw; (try dsimp only at hSw); go_simp; (try with_reducible rfl))
              (try simp only [Act.put, List.setIfInBounds_toArray, List.set_cons_zero, List.set_cons_succ])
              refine wpAnyH_take (i := 6) (oi := ⟨some 101, _, _, _, _, _⟩) (v := ?qfv6) rfl (by kernel_rfl) (by kernel_rfl) (by kernel_rfl) (fun _ _ _ h => h) (Or.inl ⟨by rfl, ?qfhy6⟩) hHeld ?qfr6
              case qfhy6 => (intro w hSw; (try dsimp only at hSw); go_simp; (try with_reducible rfl))
              (try simp only [Act.put, List.setIfInBounds_toArray, List.set_cons_zero, List.set_cons_succ])
              refine wpAnyH_take (i := 7) (oi := ⟨some 102, _, _, _, _, _⟩) (v := ?qfv7) rfl (by kernel_rfl) (by kernel_rfl) (by kernel_rfl) (fun _ _ _ h => h) (Or.inl ⟨by rfl, ?qfhy7⟩) hHeld ?qfr7
              case qfhy7 => (intro w hSw; (try dsimp only at hSw); go_simp; (try with_reducible rfl))
              (try simp only [Act.put, List.setIfInBounds_toArray, List.set_cons_zero, List.set_cons_succ])
              refine wpAnyH_take (i := 8) (oi := ⟨some 103, _, _, _, _, _⟩) (v := (.slice oa n oc)) rfl (by kernel_rfl) (by kernel_rfl) (by kernel_rfl) (fun _ _ _ h => h) (kn_yields_cell (by rfl) 23 _ rfl ga 1 rfl _ (fun _ h => h) _ Tryd.underlying23 rfl) hHeld ?qfr8
              (try simp only [Act.put, List.setIfInBounds_toArray, List.set_cons_zero, List.set_cons_succ])
              refine wpAnyH_take (i := 9) (oi := ⟨some 104, _, _, _, _, _⟩) (v := ?qfv9) rfl (by kernel_rfl) (by kernel_rfl) (by kernel_rfl) (fun _ _ _ h => h) (Or.inl ⟨by rfl, ?qfhy9⟩) hHeld ?qfr9
              case qfhy9 => (intro w hSw; (try dsimp only at hSw); go_simp; (try with_reducible rfl))
              (try simp only [Act.put, List.setIfInBounds_toArray, List.set_cons_zero, List.set_cons_succ])
              refine wpAnyH_ready (rs := [4, 10]) (by kernel_rfl) (by simp) ?qfc4_10
              refine (AllReadyH.cons (o := ⟨some 99, _, _, _, _, _⟩) rfl (fun K hK => ?qfst4) (AllReadyH.cons (o := ⟨some 105, _, _, _, _, _⟩) rfl (fun K hK => ?qfst10) AllReadyH.nil))
              case qfst4 =>
                (rw [if_pos (by rfl)]; refine wp_kn_load1 KN 31 _ rfl ga 4 rfl _ _ (by repeat (first | exact Has.here | refine Has.there ?_)) (.slice qa m qc) rfl _ Tryd.underlying31 rfl ?_)
                refine hK.out _ _ ?qf4xk4 (fun hHeld2 => ?qf4xm4)
                case qf4xk4 => exact KN.cell (g := ga) (o := 1) (by repeat (first | exact Has.here | refine Has.there ?_)) (by first | rfl | kernel_rfl)
                clear hK K hHeld
                have hHeld := hHeld2; clear hHeld2
                (try simp only [Act.put, List.setIfInBounds_toArray, List.set_cons_zero, List.set_cons_succ])
                refine wpAnyH_ready (rs := [10]) (by kernel_rfl) (by simp) ?qf4xc10
                refine AllReadyH.cons (o := ⟨some 105, _, _, _, _, _⟩) rfl (fun K hK => ?qf4xst10) AllReadyH.nil
                (rw [if_pos (by rfl)]; refine wp_kn_lit KN 31 3 1 _ rfl 105 rfl Tryd.underlying31 #[.int .i64 (n : Int)] (by kernel_rfl) ?_; clear KN; intro g105 wx hg105 KN)
                refine hK.out _ _ ?qf4xk10 (fun hHeld2 => ?qf4xm10)
                case qf4xk10 => exact KN.cell (g := ga) (o := 1) (by repeat (first | exact Has.here | refine Has.there ?_)) (by first | rfl | kernel_rfl)
                clear hK K hHeld
                have hHeld := hHeld2; clear hHeld2
                (try simp only [Act.put, List.setIfInBounds_toArray, List.set_cons_zero, List.set_cons_succ])
                refine wpAnyH_ready (rs := [11]) (by kernel_rfl) (by simp) ?qf4xc11
                refine AllReadyH.cons (o := ⟨some 106, _, _, _, _, _⟩) rfl (fun K hK => ?qf4xst11) AllReadyH.nil
                (rw [if_pos (by rfl)]; refine wp_kn_append1 KN HOQ.out _ _ 31 rfl 8 Tryd.underlying31 (by kernel_rfl) (by decide) rfl 1 rfl rfl (by kernel_rfl) (by rw [HQL.out]; unfold maxLen; omega) (by rw [HQL.out]; omega) (f := fun o => (gp, _) :: (ga, _) :: (R ++ (nl' ++ o))) (TailF.cons _ (TailF.cons _ (TailF.app (TailF.app TailF.id nl') R))) rfl ?_; clear KN; intro v' wx ql' OW KN; obtain ⟨ya, yc, rfl⟩ := OW.form)
                refine hK.out _ _ ?qf4xk11 (fun hHeld2 => ?qf4xm11)
                case qf4xk11 => exact KN.cell (g := ga) (o := 1) (by repeat (first | exact Has.here | refine Has.there ?_)) (by first | rfl | kernel_rfl)
                clear hK K hHeld
                have hHeld := hHeld2; clear hHeld2
                (try simp only [Act.put, List.setIfInBounds_toArray, List.set_cons_zero, List.set_cons_succ])
                refine wpAnyH_take (i := 12) (oi := ⟨some 107, _, _, _, _, _⟩) (v := ?qf4xv12) rfl (by kernel_rfl) (by kernel_rfl) (by kernel_rfl) (fun _ _ _ h => h) (Or.inl ⟨by rfl, ?qf4xhy12⟩) hHeld ?qf4xr12
                case qf4xhy12 => (intro w hSw; (try dsimp only at hSw); go_simp; (try with_reducible rfl))
                (try simp only [Act.put, List.setIfInBounds_toArray, List.set_cons_zero, List.set_cons_succ])
                refine wpAnyH_take (i := 13) (oi := ⟨some 108, _, _, _, _, _⟩) (v := ?qf4xv13) rfl (by kernel_rfl) (by kernel_rfl) (by kernel_rfl) (fun _ _ _ h => h) (Or.inl ⟨by rfl, ?qf4xhy13⟩) hHeld ?qf4xr13
                case qf4xhy13 => (intro w hSw; (try dsimp only at hSw); go_simp; (try with_reducible rfl))
                (try simp only [Act.put, List.setIfInBounds_toArray, List.set_cons_zero, List.set_cons_succ])
                refine wpAnyH_ready (rs := [14]) (by kernel_rfl) (by simp) ?qf4xc14
                refine AllReadyH.cons (o := ⟨none, _, _, _, _, _⟩) rfl (fun K hK => ?qf4xst14) AllReadyH.nil
                (rw [if_pos (by rfl)]; refine wp_kn_store1 KN 31 _ _ rfl ga 4 rfl _ rfl rfl _ _ (by repeat (first | exact Repl.here | apply Repl.there)) (by simp) (by kernel_rfl) (by rfl) ?_; clear KN; intro wx KN)
                refine hK.out _ _ ?qf4xk14 (fun hHeld2 => ?qf4xm14)
                case qf4xk14 => exact KN.cell (g := ga) (o := 1) (by repeat (first | exact Has.here | refine Has.there ?_)) (by first | rfl | kernel_rfl)
                clear hK K hHeld
                have hHeld := hHeld2; clear hHeld2
                (try simp only [Act.put, List.setIfInBounds_toArray, List.set_cons_zero, List.set_cons_succ])
                refine wpAnyH_done (by kernel_rfl) ?qf4xdone _
                go_wp2_with fail
                go_meet
                exact ⟨_, _, OW, KN⟩
              case qfst10 =>
                (rw [if_pos (by rfl)]; refine wp_kn_lit KN 31 3 1 _ rfl 105 rfl Tryd.underlying31 #[.int .i64 (n : Int)] (by kernel_rfl) ?_; clear KN; intro g105 wx hg105 KN)
                refine hK.out _ _ ?qf10xk10 (fun hHeld2 => ?qf10xm10)
                case qf10xk10 => exact KN.cell (g := ga) (o := 1) (by repeat (first | exact Has.here | refine Has.there ?_)) (by first | rfl | kernel_rfl)
                clear hK K hHeld
                have hHeld := hHeld2; clear hHeld2
                (try simp only [Act.put, List.setIfInBounds_toArray, List.set_cons_zero, List.set_cons_succ])
                refine wpAnyH_ready (rs := [4]) (by kernel_rfl) (by simp) ?qf10xc4
                refine AllReadyH.cons (o := ⟨some 99, _, _, _, _, _⟩) rfl (fun K hK => ?qf10xst4) AllReadyH.nil
                (rw [if_pos (by rfl)]; refine wp_kn_load1 KN 31 _ rfl ga 4 rfl _ _ (by repeat (first | exact Has.here | refine Has.there ?_)) (.slice qa m qc) rfl _ Tryd.underlying31 rfl ?_)
                refine hK.out _ _ ?qf10xk4 (fun hHeld2 => ?qf10xm4)
                case qf10xk4 => exact KN.cell (g := ga) (o := 1) (by repeat (first | exact Has.here | refine Has.there ?_)) (by first | rfl | kernel_rfl)
                clear hK K hHeld
                have hHeld := hHeld2; clear hHeld2
                (try simp only [Act.put, List.setIfInBounds_toArray, List.set_cons_zero, List.set_cons_succ])
                refine wpAnyH_ready (rs := [11]) (by kernel_rfl) (by simp) ?qf10xc11
                refine AllReadyH.cons (o := ⟨some 106, _, _, _, _, _⟩) rfl (fun K hK => ?qf10xst11) AllReadyH.nil
                (rw [if_pos (by rfl)]; refine wp_kn_append1 KN HOQ.out _ _ 31 rfl 8 Tryd.underlying31 (by kernel_rfl) (by decide) rfl 1 rfl rfl (by kernel_rfl) (by rw [HQL.out]; unfold maxLen; omega) (by rw [HQL.out]; omega) (f := fun o => (gp, _) :: (ga, _) :: (R ++ (nl' ++ o))) (TailF.cons _ (TailF.cons _ (TailF.app (TailF.app TailF.id nl') R))) rfl ?_; clear KN; intro v' wx ql' OW KN; obtain ⟨ya, yc, rfl⟩ := OW.form)
                refine hK.out _ _ ?qf10xk11 (fun hHeld2 => ?qf10xm11)
                case qf10xk11 => exact KN.cell (g := ga) (o := 1) (by repeat (first | exact Has.here | refine Has.there ?_)) (by first | rfl | kernel_rfl)
                clear hK K hHeld
                have hHeld := hHeld2; clear hHeld2
                (try simp only [Act.put, List.setIfInBounds_toArray, List.set_cons_zero, List.set_cons_succ])
                refine wpAnyH_take (i := 12) (oi := ⟨some 107, _, _, _, _, _⟩) (v := ?qf10xv12) rfl (by kernel_rfl) (by kernel_rfl) (by kernel_rfl) (fun _ _ _ h => h) (Or.inl ⟨by rfl, ?qf10xhy12⟩) hHeld ?qf10xr12
                case qf10xhy12 => (intro w hSw; (try dsimp only at hSw); go_simp; (try with_reducible rfl))
                (try simp only [Act.put, List.setIfInBounds_toArray, List.set_cons_zero, List.set_cons_succ])
                refine wpAnyH_take (i := 13) (oi := ⟨some 108, _, _, _, _, _⟩) (v := ?qf10xv13) rfl (by kernel_rfl) (by kernel_rfl) (by kernel_rfl) (fun _ _ _ h => h) (Or.inl ⟨by rfl, ?qf10xhy13⟩) hHeld ?qf10xr13
                case qf10xhy13 => (intro w hSw; (try dsimp only at hSw); go_simp; (try with_reducible rfl))
                (try simp only [Act.put, List.setIfInBounds_toArray, List.set_cons_zero, List.set_cons_succ])
                refine wpAnyH_ready (rs := [14]) (by kernel_rfl) (by simp) ?qf10xc14
                refine AllReadyH.cons (o := ⟨none, _, _, _, _, _⟩) rfl (fun K hK => ?qf10xst14) AllReadyH.nil
                (rw [if_pos (by rfl)]; refine wp_kn_store1 KN 31 _ _ rfl ga 4 rfl _ rfl rfl _ _ (by repeat (first | exact Repl.here | apply Repl.there)) (by simp) (by kernel_rfl) (by rfl) ?_; clear KN; intro wx KN)
                refine hK.out _ _ ?qf10xk14 (fun hHeld2 => ?qf10xm14)
                case qf10xk14 => exact KN.cell (g := ga) (o := 1) (by repeat (first | exact Has.here | refine Has.there ?_)) (by first | rfl | kernel_rfl)
                clear hK K hHeld
                have hHeld := hHeld2; clear hHeld2
                (try simp only [Act.put, List.setIfInBounds_toArray, List.set_cons_zero, List.set_cons_succ])
                refine wpAnyH_done (by kernel_rfl) ?qf10xdone _
                go_wp2_with fail
                go_meet
                exact ⟨_, _, OW, KN⟩
            case rest =>
              clear KN
              obtain ⟨qv', ql', OW2, KN⟩ := hcut
              replace KN := KN.perm ((((List.perm_append_comm).append_left R).cons _).cons _)
              go_wp2_with (first | ((with_reducible refine wpList_gate ?_); first | ((refine gate_load (by rfl) ?_); first | (refine ks_load1 KN 67 Tryd.underlying67 ?_) | (refine ks_load1 KN 3 Tryd.underlying3 ?_) | (refine ks_load1 KN 46 Tryd.underlying46 ?_) | (refine ks_load1 KN 9 Tryd.underlying9 ?_) | (refine ks_load1 KN 70 Tryd.underlying70 ?_) | (refine ks_load1 KN 31 Tryd.underlying31 ?_) | (refine ks_load1 KN 23 Tryd.underlying23 ?_)) | ((refine gate_store (by rfl) ?_); first | (refine ks_store1 KN 70 ?_; clear KN; intro wx KN) | (refine ks_store1 KN 31 ?_; clear KN; intro wx KN) | (refine ks_store1 KN 3 ?_; clear KN; intro wx KN))))
              go_ret
              refine ⟨.slice xa (m + 1) xc, qv', nl', ql', stepP (stepP s'), true, ls ++ [(t.raw.text, n)], rfl, ?_, ?_, ?_, .inr (.inr ⟨HLB.out, by rw [HTK.out, ← HRV.out]; omega, rfl, ?_, by rw [HTK.out]⟩)⟩
              · unfold labN at HO1 ⊢; rw [List.map_append]; exact HO1.out
              · unfold labP at OW2 ⊢; rw [List.map_append]; exact OW2
              · have h9 := KN.as_ gp #[.string sv, .slice (some ⟨b, off, none⟩) dn c, .int .i64 ((s.i : Int) + 2), .int .i64 s'.p.1, .int .i64 s'.p.2, .int .i64 s'.er] (by repeat (first | exact Repl.here | apply Repl.there)) (by rfl)
                have e2 : parC (.string sv) (.slice (some ⟨b, off, none⟩) dn c) (stepP (stepP s')) = #[.string sv, .slice (some ⟨b, off, none⟩) dn c, .int .i64 ((s.i : Int) + 2), .int .i64 s'.p.1, .int .i64 s'.p.2, .int .i64 s'.er] := by
                  have e3 : ((s'.i + 1 + 1 : Nat) : Int) = (s.i : Int) + 2 := by omega
                  show #[_, _, Value.int .i64 (((s'.i + 1 + 1 : Nat)) : Int), _, _, _] = _
                  rw [e3]; rfl
                rw [e2]
                exact h9
              · rw [HS'.out, HTK.out]
end Go.Proofs.YtemigcdieghkfaaDoor
