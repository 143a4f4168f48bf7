/- The reference's assembler: an immediate or a target. -/
import Derived.Test.YtemigcdieghkfaaDoorPkAsrReg
set_option linter.unusedVariables false
set_option linter.unusedSimpArgs false
set_option linter.unusedSectionVars false
namespace Go.Proofs.YtemigcdieghkfaaDoor
open Go.RowKit Go.BigFrame

/-- A label that is used: by which instruction, at which token. -/
def useC (n : Nat) (u : List UInt8 × Nat) : List Value := [.string (str u.1), .int .i64 (n : Int), .int .i64 (u.2 : Int)]
def valS (el ec : Int) (d : List Tok) (tg : Bool) (s : PSt) : PSt × Int × List (List UInt8 × Nat) :=
  if kindB d s 1 = true then
    if 0 ≤ regOf (tk d s.i).text then (failP el ec d s s.i 50, 0, []) else (stepP s, 0, [((tk d s.i).text, s.i)])
  else
    let m := !tg && peekB d s 4 [45]
    let s1 := if m = true then stepP s else s
    let v := if kindB d s1 2 = true then (tk d s1.i).value else 0
    let s2 := anyP el ec d s1 2
    if 2147483648 < v ∨ (v = 2147483648 ∧ m = false) then (failP el ec d s2 (s2.i - 1) 6, 0, [])
    else if m = true then (s2, -v, []) else (s2, v, if tg = true then [([], s2.i - 1)] else [])
def ValPost (W : World) (gp ga : Nat) (sv tv out ls ps : Value) (n : Nat) (L : List (List Value)) (R : Ents) (r : PSt × Int × List (List UInt8 × Nat)) (e : Ending) (w' : World) : Prop :=
  ∃ (usv : Value) (ol : Ents), e = .returned (.int .i32 r.2.1) ∧ OwnT 76 3 usv (L ++ r.2.2.map (useC n)) ol ∧
    Kn [] W w' ((gp, At (parC sv tv r.1) 74) :: (ga, At (ascC gp out usv ls ps) 72) :: (R ++ ol))
set_option maxRecDepth 100000 in
set_option maxHeartbeats 40000000 in
theorem asr_value_word {W w : World} {R ol : Ents} {gp ga n : Nat} {oa : Option Addr} {oc : Nat} {tv usv ls ps : Value} {sv : ByteArray} {s : PSt} {d : List Tok} {el ec : Int} {L : List (List Value)} (tg : Bool)
    (KN : Kn [] W w ((gp, At (parC (.string sv) tv s) 74) :: (ga, At (ascC gp (.slice oa n oc) usv ls ps) 72) :: (R ++ ol))) (OW : OwnT 76 3 usv L ol) (hL : L.length ≤ 65536) (hn : n ≤ 65536) (hT : TokRd W tv d) (hd : d.length ≤ 65536) (hi : s.i ≤ 70000) (hs : sv.size ≤ 65536) (hp : Hid (adv sv.data.toList (1, 1) = (el, ec))) (hb : kindB d s 1 = true) :
    Calls Tryd.prog 75 #[.pointer (some ⟨ga, 0, none⟩), .bool tg] w (ValPost W gp ga (.string sv) tv (.slice oa n oc) ls ps n L R (valS el ec d tg s)) := by
  have HT := Lib.hid hT
  have HB := Lib.hid hb
  have HO := Lib.hid OW
  have HLN := Lib.hid hL
  obtain ⟨ua, uc, hu⟩ := OW.form
  subst hu
  obtain ⟨un, hun⟩ : ∃ un, un = L.length := ⟨_, rfl⟩
  have HUN := Lib.hid hun
  rw [← hun] at hL HO KN
  have hin := kind_in (by decide) hb
  obtain ⟨a, c, rfl, hc⟩ := hT
  obtain ⟨dn, hdn⟩ : ∃ dn, dn = d.length := ⟨_, rfl⟩
  have HN := Lib.hid hdn
  obtain ⟨t, ht⟩ : ∃ t, d[s.i]? = some t := ⟨_, List.getElem?_eq_getElem hin⟩
  obtain ⟨b, off, rfl, hbb, _, x1, _, _, _⟩ := hc s.i t ht
  have htk := tk_in ht
  obtain ⟨rv, hrv⟩ : ∃ rv, rv = regOf t.raw.text := ⟨_, rfl⟩
  have hrb := regOf_bdR t.raw.text
  have HRV := Lib.hid hrv
  rw [← hrv] at hrb
  have HV : Hid (valS el ec d tg s = if 0 ≤ rv then (failP el ec d s s.i 50, 0, []) else (stepP s, 0, [(t.raw.text, s.i)])) := Lib.hid (by unfold valS; rw [if_pos hb, htk, ← hrv])
  rw [← hdn] at hd hin KN HT ⊢
  clear OW hun hdn hc hb ht htk hrv
  rw [HV.out]
  go_enter Tryd.func75, Tryd.ntmps75
  go_upto_region 3 with (first | (go_at_call 70; refine (par_kind KN HT.out (by rw [← HN.out]; exact hd) hi 1 (by decide)).mono ?_; rw [HB.out]; rintro y wx ⟨rfl, K2⟩; replace KN := K2; clear K2) | ((with_reducible refine wpList_gate ?_); first | ((refine gate_load (by rfl) ?_); first | (refine ks_load1 KN 67 Tryd.underlying67 ?_) | (refine ks_load1 KN 46 Tryd.underlying46 ?_) | (refine ks_load1 KN 3 Tryd.underlying3 ?_) | (refine ks_load1 KN 9 Tryd.underlying9 ?_) | (refine ks_load1 KN 69 Tryd.underlying69 ?_) | (refine ks_load1 KN 23 Tryd.underlying23 ?_)) | ((refine gate_store (by rfl) ?_); first | (refine ks_store1 KN 69 ?_; clear KN; intro wx KN) | (refine ks_store1 KN 3 ?_; clear KN; intro wx KN))))
  (try go_frame)
  go_cut [6] (fun s6 wz => s6 = .string (str t.raw.text) ∧ Kn [] W wz ((gp, At (parC (.string sv) (.slice (some ⟨b, off, none⟩) dn c) s) 74) :: (ga, At (ascC gp (.slice oa n oc) (.slice ua un uc) ls ps) 72) :: (R ++ ol)))
  case first =>
    replace KN := KN.drew
    refine wp_region_held_drew (S := (fun w' => w'.cell? ⟨gp, 1, none⟩ = some (.slice (some ⟨b, off, none⟩) dn c) ∧ w'.cell? ⟨gp, 2, none⟩ = some (.int .i64 (s.i : Int)) ∧ w'.cell? ⟨b, off + s.i * 5 + 1, none⟩ = some (.string (str t.raw.text)))) (by kernel_rfl) ?qahS (fun hHeld => ?qarest)
    case qahS => exact ⟨KN.cell (g := gp) (o := 1) (by repeat (first | exact Has.here | refine Has.there ?_)) rfl, KN.cell (g := gp) (o := 2) (by repeat (first | exact Has.here | refine Has.there ?_)) rfl, (KN.old hbb (by simp)).trans x1⟩
    refine wpAnyH_take (i := 0) (oi := ⟨some 15, _, _, _, _, _⟩) (v := ?qav0) rfl (by kernel_rfl) (by kernel_rfl) (by kernel_rfl) (fun _ _ _ h => h) (Or.inl ⟨by rfl, ?qahy0⟩) hHeld ?qar0
    case qahy0 => (intro w hSw; (try dsimp only at hSw); go_simp; (try with_reducible rfl))
    (try simp only [Act.put, List.setIfInBounds_toArray, List.set_cons_zero, List.set_cons_succ])
    refine wpAnyH_take (i := 1) (oi := ⟨some 16, _, _, _, _, _⟩) (v := ?qav1) rfl (by kernel_rfl) (by kernel_rfl) (by kernel_rfl) (fun _ _ _ h => h) (Or.inl ⟨by rfl, ?qahy1⟩) hHeld ?qar1
    case qahy1 => (intro w hSw; (try dsimp only at hSw); go_simp; (try with_reducible rfl))
    (try simp only [Act.put, List.setIfInBounds_toArray, List.set_cons_zero, List.set_cons_succ])
    refine wpAnyH_take (i := 2) (oi := ⟨some 17, _, _, _, _, _⟩) (v := ?qav2) rfl (by kernel_rfl) (by kernel_rfl) (by kernel_rfl) (fun _ _ _ h => h) (Or.inl ⟨by rfl, ?qahy2⟩) hHeld ?qar2
    case qahy2 => (intro w hSw; (try dsimp only at hSw); go_simp; (try with_reducible rfl))
    (try simp only [Act.put, List.setIfInBounds_toArray, List.set_cons_zero, List.set_cons_succ])
    refine wpAnyH_take (i := 3) (oi := ⟨some 18, _, _, _, _, _⟩) (v := (.slice (some ⟨b, off, none⟩) dn c)) rfl (by kernel_rfl) (by kernel_rfl) (by kernel_rfl) (fun _ _ _ h => h) (kn_yields_cell (by rfl) 46 _ rfl gp 1 rfl _ (fun _ h => h.1) _ Tryd.underlying46 rfl) hHeld ?qar3
    (try simp only [Act.put, List.setIfInBounds_toArray, List.set_cons_zero, List.set_cons_succ])
    refine wpAnyH_take (i := 4) (oi := ⟨some 19, _, _, _, _, _⟩) (v := ?qav4) rfl (by kernel_rfl) (by kernel_rfl) (by kernel_rfl) (fun _ _ _ h => h) (Or.inl ⟨by rfl, ?qahy4⟩) hHeld ?qar4
    case qahy4 => (intro w hSw; (try dsimp only at hSw); go_simp; (try with_reducible rfl))
    (try simp only [Act.put, List.setIfInBounds_toArray, List.set_cons_zero, List.set_cons_succ])
    refine wpAnyH_take (i := 5) (oi := ⟨some 20, _, _, _, _, _⟩) (v := ?qav5) rfl (by kernel_rfl) (by kernel_rfl) (by kernel_rfl) (fun _ _ _ h => h) (Or.inl ⟨by rfl, ?qahy5⟩) hHeld ?qar5
    case qahy5 => (intro w hSw; (try dsimp only at hSw); go_simp; (try with_reducible rfl))
    (try simp only [Act.put, List.setIfInBounds_toArray, List.set_cons_zero, List.set_cons_succ])
    refine wpAnyH_take (i := 6) (oi := ⟨some 21, _, _, _, _, _⟩) (v := ?qav6) rfl (by kernel_rfl) (by kernel_rfl) (by kernel_rfl) (fun _ _ _ h => h) (Or.inl ⟨by rfl, ?qahy6⟩) hHeld ?qar6
    case qahy6 => (intro w hSw; (try dsimp only at hSw); go_simp; (try with_reducible rfl))
    (try simp only [Act.put, List.setIfInBounds_toArray, List.set_cons_zero, List.set_cons_succ])
    refine wpAnyH_take (i := 7) (oi := ⟨some 22, _, _, _, _, _⟩) (v := (.int .i64 (s.i : Int))) rfl (by kernel_rfl) (by kernel_rfl) (by kernel_rfl) (fun _ _ _ h => h) (kn_yields_cell (by rfl) 3 _ rfl gp 2 rfl _ (fun _ h => h.2.1) _ Tryd.underlying3 rfl) hHeld ?qar7
    (try simp only [Act.put, List.setIfInBounds_toArray, List.set_cons_zero, List.set_cons_succ])
    refine wpAnyH_take (i := 8) (oi := ⟨some 23, _, _, _, _, _⟩) (v := (.pointer (some ⟨b, off + s.i * 5, none⟩))) rfl (by kernel_rfl) (by kernel_rfl) (by kernel_rfl) (fun _ _ _ h => h) (Or.inl ⟨by rfl, ?qahy8⟩) hHeld ?qar8
    case qahy8 => (intro w hSw; (try dsimp only at hSw); go_simp; (try rfl))
    (try simp only [Act.put, List.setIfInBounds_toArray, List.set_cons_zero, List.set_cons_succ])
    refine wpAnyH_take (i := 9) (oi := ⟨some 24, _, _, _, _, _⟩) (v := ?qav9) rfl (by kernel_rfl) (by kernel_rfl) (by kernel_rfl) (fun _ _ _ h => h) (Or.inl ⟨by rfl, ?qahy9⟩) hHeld ?qar9
    case qahy9 => (intro w hSw; (try dsimp only at hSw); go_simp; (try with_reducible rfl))
    (try simp only [Act.put, List.setIfInBounds_toArray, List.set_cons_zero, List.set_cons_succ])
    refine wpAnyH_take (i := 10) (oi := ⟨some 25, _, _, _, _, _⟩) (v := (.string (str t.raw.text))) rfl (by kernel_rfl) (by kernel_rfl) (by kernel_rfl) (fun _ _ _ h => h) (kn_yields_cell (by rfl) 9 _ rfl b (off + s.i * 5 + 1) rfl _ (fun _ h => h.2.2) _ Tryd.underlying9 rfl) hHeld ?qar10
    (try simp only [Act.put, List.setIfInBounds_toArray, List.set_cons_zero, List.set_cons_succ])
    refine wpAnyH_take (i := 11) (oi := ⟨some 6, _, _, _, _, _⟩) (v := ?qav11) rfl (by kernel_rfl) (by kernel_rfl) (by kernel_rfl) (fun _ _ _ h => h) (Or.inl ⟨by rfl, ?qahy11⟩) hHeld ?qar11
    case qahy11 => (intro w hSw; (try dsimp only at hSw); go_simp; (try with_reducible rfl))
    (try simp only [Act.put, List.setIfInBounds_toArray, List.set_cons_zero, List.set_cons_succ])
    refine wpAnyH_done (by kernel_rfl) ?qadone _
    go_wp2_with fail
    go_meet
    exact ⟨rfl, KN⟩
  case rest =>
    clear KN
    obtain ⟨rfl, KN⟩ := hcut
    by_cases h0 : 0 ≤ rv
    · go_wp2_with (first | (go_at_call 71; refine (Register_any t.raw.text _).mono ?_; rw [← HRV.out]; rintro y wx ⟨rfl, rfl⟩) | (go_at_call 35; refine (par_fail KN HT.out (by rw [← HN.out]; exact hd) hs hp s.i hi 50).mono ?_; rintro y wx ⟨rfl, K2⟩; replace KN := K2; clear K2) | ((with_reducible refine wpList_gate ?_); first | ((refine gate_load (by rfl) ?_); first | (refine ks_load1 KN 67 Tryd.underlying67 ?_) | (refine ks_load1 KN 46 Tryd.underlying46 ?_) | (refine ks_load1 KN 3 Tryd.underlying3 ?_) | (refine ks_load1 KN 9 Tryd.underlying9 ?_) | (refine ks_load1 KN 69 Tryd.underlying69 ?_) | (refine ks_load1 KN 23 Tryd.underlying23 ?_)) | ((refine gate_store (by rfl) ?_); first | (refine ks_store1 KN 69 ?_; clear KN; intro wx KN) | (refine ks_store1 KN 3 ?_; clear KN; intro wx KN))))
      go_ret
      first | exact ⟨_, ol, rfl, by simpa using HO.out, KN⟩ | exact ⟨_, ol, by rw [if_pos h0]; rfl, by rw [if_pos h0]; simpa using HO.out, by rw [if_pos h0]; exact KN⟩
    · go_upto_region 7 with (first | (go_at_call 71; refine (Register_any t.raw.text _).mono ?_; rw [← HRV.out]; rintro y wx ⟨rfl, rfl⟩) | ((with_reducible refine wpList_gate ?_); first | ((refine gate_load (by rfl) ?_); first | (refine ks_load1 KN 67 Tryd.underlying67 ?_) | (refine ks_load1 KN 46 Tryd.underlying46 ?_) | (refine ks_load1 KN 3 Tryd.underlying3 ?_) | (refine ks_load1 KN 9 Tryd.underlying9 ?_) | (refine ks_load1 KN 69 Tryd.underlying69 ?_) | (refine ks_load1 KN 23 Tryd.underlying23 ?_)) | ((refine gate_store (by rfl) ?_); first | (refine ks_store1 KN 69 ?_; clear KN; intro wx KN) | (refine ks_store1 KN 3 ?_; clear KN; intro wx KN))))
      (try go_frame)
      go_cut [] (fun wz => ∃ (v' : Value) (ol' : Ents), OwnT 76 3 v' (L ++ [useC n (t.raw.text, s.i)]) ol' ∧ Kn [] W wz ((gp, At (parC (.string sv) (.slice (some ⟨b, off, none⟩) dn c) s) 74) :: (ga, At (ascC gp (.slice oa n oc) v' ls ps) 72) :: (R ++ ol')))
      case first =>
        replace KN := KN.drew
        refine wp_region_held_drew (S := (fun w' => w'.cell? ⟨ga, 1, none⟩ = some (.slice oa n oc) ∧ w'.cell? ⟨gp, 2, none⟩ = some (.int .i64 (s.i : Int)))) (by kernel_rfl) ?qbhS (fun hHeld => ?qbrest)
        case qbhS => exact ⟨KN.cell (g := ga) (o := 1) (by repeat (first | exact Has.here | refine Has.there ?_)) (by first | rfl | kernel_rfl), KN.cell (g := gp) (o := 2) (by repeat (first | exact Has.here | refine Has.there ?_)) rfl⟩
        refine wpAnyH_take (i := 0) (oi := ⟨some 35, _, _, _, _, _⟩) (v := ?qbv0) rfl (by kernel_rfl) (by kernel_rfl) (by kernel_rfl) (fun _ _ _ h => h) (Or.inl ⟨by rfl, ?qbhy0⟩) hHeld ?qbr0
        case qbhy0 => (intro w hSw; (try dsimp only at hSw); go_simp; (try with_reducible rfl))
        (try simp only [Act.put, List.setIfInBounds_toArray, List.set_cons_zero, List.set_cons_succ])
        refine wpAnyH_take (i := 1) (oi := ⟨some 36, _, _, _, _, _⟩) (v := ?qbv1) rfl (by kernel_rfl) (by kernel_rfl) (by kernel_rfl) (fun _ _ _ h => h) (Or.inl ⟨by rfl, ?qbhy1⟩) hHeld ?qbr1
        case qbhy1 => (intro w hSw; (try dsimp only at hSw); go_simp; (try with_reducible rfl))
        (try simp only [Act.put, List.setIfInBounds_toArray, List.set_cons_zero, List.set_cons_succ])
        refine wpAnyH_take (i := 2) (oi := ⟨some 37, _, _, _, _, _⟩) (v := ?qbv2) rfl (by kernel_rfl) (by kernel_rfl) (by kernel_rfl) (fun _ _ _ h => h) (Or.inl ⟨by rfl, ?qbhy2⟩) hHeld ?qbr2
        case qbhy2 => (intro w hSw; (try dsimp only at hSw); go_simp; (try with_reducible rfl))
        (try simp only [Act.put, List.setIfInBounds_toArray, List.set_cons_zero, List.set_cons_succ])
        refine wpAnyH_take (i := 3) (oi := ⟨some 38, _, _, _, _, _⟩) (v := ?qbv3) rfl (by kernel_rfl) (by kernel_rfl) (by kernel_rfl) (fun _ _ _ h => h) (Or.inl ⟨by rfl, ?qbhy3⟩) hHeld ?qbr3
        case qbhy3 => (intro w hSw; (try dsimp only at hSw); go_simp; (try with_reducible rfl))
        (try simp only [Act.put, List.setIfInBounds_toArray, List.set_cons_zero, List.set_cons_succ])
        refine wpAnyH_take (i := 5) (oi := ⟨some 40, _, _, _, _, _⟩) (v := ?qbv5) rfl (by kernel_rfl) (by kernel_rfl) (by kernel_rfl) (fun _ _ _ h => h) (Or.inl ⟨by rfl, ?qbhy5⟩) hHeld ?qbr5
        case qbhy5 => (intro w hSw; (try dsimp only at hSw); go_simp; (try with_reducible rfl))
        (try simp only [Act.put, List.setIfInBounds_toArray, List.set_cons_zero, List.set_cons_succ])
        refine wpAnyH_take (i := 6) (oi := ⟨some 41, _, _, _, _, _⟩) (v := ?qbv6) rfl (by kernel_rfl) (by kernel_rfl) (by kernel_rfl) (fun _ _ _ h => h) (Or.inl ⟨by rfl, ?qbhy6⟩) hHeld ?qbr6
        case qbhy6 => (intro w hSw; (try dsimp only at hSw); go_simp; (try with_reducible rfl))
        (try simp only [Act.put, List.setIfInBounds_toArray, List.set_cons_zero, List.set_cons_succ])
        refine wpAnyH_take (i := 7) (oi := ⟨some 42, _, _, _, _, _⟩) (v := ?qbv7) rfl (by kernel_rfl) (by kernel_rfl) (by kernel_rfl) (fun _ _ _ h => h) (Or.inl ⟨by rfl, ?qbhy7⟩) hHeld ?qbr7
        case qbhy7 => (intro w hSw; (try dsimp only at hSw); go_simp; (try with_reducible rfl))
        (try simp only [Act.put, List.setIfInBounds_toArray, List.set_cons_zero, List.set_cons_succ])
        refine wpAnyH_take (i := 8) (oi := ⟨some 43, _, _, _, _, _⟩) (v := ?qbv8) rfl (by kernel_rfl) (by kernel_rfl) (by kernel_rfl) (fun _ _ _ h => h) (Or.inl ⟨by rfl, ?qbhy8⟩) hHeld ?qbr8
        case qbhy8 => (intro w hSw; (try dsimp only at hSw); go_simp; (try with_reducible rfl))
        (try simp only [Act.put, List.setIfInBounds_toArray, List.set_cons_zero, List.set_cons_succ])
        refine wpAnyH_take (i := 9) (oi := ⟨some 44, _, _, _, _, _⟩) (v := (.slice oa n oc)) rfl (by kernel_rfl) (by kernel_rfl) (by kernel_rfl) (fun _ _ _ h => h) (kn_yields_cell (by rfl) 23 _ rfl ga 1 rfl _ (fun _ h => h.1) _ Tryd.underlying23 rfl) hHeld ?qbr9
        (try simp only [Act.put, List.setIfInBounds_toArray, List.set_cons_zero, List.set_cons_succ])
        refine wpAnyH_take (i := 10) (oi := ⟨some 45, _, _, _, _, _⟩) (v := ?qbv10) rfl (by kernel_rfl) (by kernel_rfl) (by kernel_rfl) (fun _ _ _ h => h) (Or.inl ⟨by rfl, ?qbhy10⟩) hHeld ?qbr10
        case qbhy10 => (intro w hSw; (try dsimp only at hSw); go_simp; (try with_reducible rfl))
        (try simp only [Act.put, List.setIfInBounds_toArray, List.set_cons_zero, List.set_cons_succ])
        refine wpAnyH_take (i := 11) (oi := ⟨some 46, _, _, _, _, _⟩) (v := ?qbv11) rfl (by kernel_rfl) (by kernel_rfl) (by kernel_rfl) (fun _ _ _ h => h) (Or.inl ⟨by rfl, ?qbhy11⟩) hHeld ?qbr11
        case qbhy11 => (intro w hSw; (try dsimp only at hSw); go_simp; (try with_reducible rfl))
        (try simp only [Act.put, List.setIfInBounds_toArray, List.set_cons_zero, List.set_cons_succ])
        refine wpAnyH_take (i := 12) (oi := ⟨some 47, _, _, _, _, _⟩) (v := ?qbv12) rfl (by kernel_rfl) (by kernel_rfl) (by kernel_rfl) (fun _ _ _ h => h) (Or.inl ⟨by rfl, ?qbhy12⟩) hHeld ?qbr12
        case qbhy12 => (intro w hSw; (try dsimp only at hSw); go_simp; (try with_reducible rfl))
        (try simp only [Act.put, List.setIfInBounds_toArray, List.set_cons_zero, List.set_cons_succ])
        refine wpAnyH_take (i := 13) (oi := ⟨some 48, _, _, _, _, _⟩) (v := ?qbv13) rfl (by kernel_rfl) (by kernel_rfl) (by kernel_rfl) (fun _ _ _ h => h) (Or.inl ⟨by rfl, ?qbhy13⟩) hHeld ?qbr13
        case qbhy13 => (intro w hSw; (try dsimp only at hSw); go_simp; (try with_reducible rfl))
        (try simp only [Act.put, List.setIfInBounds_toArray, List.set_cons_zero, List.set_cons_succ])
        refine wpAnyH_take (i := 14) (oi := ⟨some 49, _, _, _, _, _⟩) (v := (.int .i64 (s.i : Int))) rfl (by kernel_rfl) (by kernel_rfl) (by kernel_rfl) (fun _ _ _ h => h) (kn_yields_cell (by rfl) 3 _ rfl gp 2 rfl _ (fun _ h => h.2) _ Tryd.underlying3 rfl) hHeld ?qbr14
        (try simp only [Act.put, List.setIfInBounds_toArray, List.set_cons_zero, List.set_cons_succ])
        refine wpAnyH_take (i := 15) (oi := ⟨some 50, _, _, _, _, _⟩) (v := (.agg (useC n (t.raw.text, s.i)).toArray)) rfl (by kernel_rfl) (by kernel_rfl) (by kernel_rfl) (fun _ _ _ h => h) (.inl ⟨by rfl, fun w _ => by kernel_rfl⟩) hHeld ?qbr15
        (try simp only [Act.put, List.setIfInBounds_toArray, List.set_cons_zero, List.set_cons_succ])
        refine wpAnyH_ready (rs := [4, 16]) (by kernel_rfl) (by simp) ?qbc4_16
        refine (AllReadyH.cons (o := ⟨some 39, _, _, _, _, _⟩) rfl (fun K hK => ?qbst4) (AllReadyH.cons (o := ⟨some 51, _, _, _, _, _⟩) rfl (fun K hK => ?qbst16) AllReadyH.nil))
        case qbst4 =>
          (rw [if_pos (by rfl)]; refine wp_kn_load1 KN 69 _ rfl ga 2 rfl _ _ (by repeat (first | exact Has.here | refine Has.there ?_)) (.slice ua un uc) rfl _ Tryd.underlying69 rfl ?_)
          refine hK.out _ _ ?qb4xk4 (fun hHeld2 => ?qb4xm4)
          case qb4xk4 => exact ⟨KN.cell (g := ga) (o := 1) (by repeat (first | exact Has.here | refine Has.there ?_)) (by first | rfl | kernel_rfl), KN.cell (g := gp) (o := 2) (by repeat (first | exact Has.here | refine Has.there ?_)) rfl⟩
          clear hK K hHeld
          have hHeld := hHeld2; clear hHeld2
          (try simp only [Act.put, List.setIfInBounds_toArray, List.set_cons_zero, List.set_cons_succ])
          refine wpAnyH_ready (rs := [16]) (by kernel_rfl) (by simp) ?qb4xc16
          refine AllReadyH.cons (o := ⟨some 51, _, _, _, _, _⟩) rfl (fun K hK => ?qb4xst16) AllReadyH.nil
          (rw [if_pos (by rfl)]; refine wp_kn_lit KN 69 76 1 _ rfl 51 rfl Tryd.underlying69 (useC n (t.raw.text, s.i)).toArray (by kernel_rfl) ?_; clear KN; intro g51 wx hg51 KN)
          refine hK.out _ _ ?qb4xk16 (fun hHeld2 => ?qb4xm16)
          case qb4xk16 => exact ⟨KN.cell (g := ga) (o := 1) (by repeat (first | exact Has.here | refine Has.there ?_)) (by first | rfl | kernel_rfl), KN.cell (g := gp) (o := 2) (by repeat (first | exact Has.here | refine Has.there ?_)) rfl⟩
          clear hK K hHeld
          have hHeld := hHeld2; clear hHeld2
          (try simp only [Act.put, List.setIfInBounds_toArray, List.set_cons_zero, List.set_cons_succ])
          refine wpAnyH_ready (rs := [17]) (by kernel_rfl) (by simp) ?qb4xc17
          refine AllReadyH.cons (o := ⟨some 52, _, _, _, _, _⟩) rfl (fun K hK => ?qb4xst17) AllReadyH.nil
          (rw [if_pos (by rfl)]; refine wp_kn_append1 KN HO.out _ _ 69 rfl 32 Tryd.underlying69 (by kernel_rfl) (by decide) (by first | rfl | (rw [← HUN.out]; rfl)) 1 rfl rfl (by kernel_rfl) (by rw [← HUN.out]; unfold maxLen; omega) (by rw [← HUN.out]; omega) (f := fun o => (gp, _) :: (ga, _) :: (R ++ o)) (TailF.cons _ (TailF.cons _ (TailF.app TailF.id R))) rfl ?_; clear KN; intro v' wx ol' OW KN; obtain ⟨xa, xc, rfl⟩ := OW.form)
          refine hK.out _ _ ?qb4xk17 (fun hHeld2 => ?qb4xm17)
          case qb4xk17 => exact ⟨KN.cell (g := ga) (o := 1) (by repeat (first | exact Has.here | refine Has.there ?_)) (by first | rfl | kernel_rfl), KN.cell (g := gp) (o := 2) (by repeat (first | exact Has.here | refine Has.there ?_)) rfl⟩
          clear hK K hHeld
          have hHeld := hHeld2; clear hHeld2
          (try simp only [Act.put, List.setIfInBounds_toArray, List.set_cons_zero, List.set_cons_succ])
          refine wpAnyH_take (i := 18) (oi := ⟨some 53, _, _, _, _, _⟩) (v := ?qb4xv18) rfl (by kernel_rfl) (by kernel_rfl) (by kernel_rfl) (fun _ _ _ h => h) (Or.inl ⟨by rfl, ?qb4xhy18⟩) hHeld ?qb4xr18
          case qb4xhy18 => (intro w hSw; (try dsimp only at hSw); go_simp; (try with_reducible rfl))
          (try simp only [Act.put, List.setIfInBounds_toArray, List.set_cons_zero, List.set_cons_succ])
          refine wpAnyH_take (i := 19) (oi := ⟨some 54, _, _, _, _, _⟩) (v := ?qb4xv19) rfl (by kernel_rfl) (by kernel_rfl) (by kernel_rfl) (fun _ _ _ h => h) (Or.inl ⟨by rfl, ?qb4xhy19⟩) hHeld ?qb4xr19
          case qb4xhy19 => (intro w hSw; (try dsimp only at hSw); go_simp; (try with_reducible rfl))
          (try simp only [Act.put, List.setIfInBounds_toArray, List.set_cons_zero, List.set_cons_succ])
          refine wpAnyH_ready (rs := [20]) (by kernel_rfl) (by simp) ?qb4xc20
          refine AllReadyH.cons (o := ⟨none, _, _, _, _, _⟩) rfl (fun K hK => ?qb4xst20) AllReadyH.nil
          (rw [if_pos (by rfl)]; refine wp_kn_store1 KN 69 _ _ rfl ga 2 rfl _ rfl rfl _ _ (by repeat (first | exact Repl.here | apply Repl.there)) (by simp) (by kernel_rfl) (by rfl) ?_; clear KN; intro wx KN)
          refine hK.out _ _ ?qb4xk20 (fun hHeld2 => ?qb4xm20)
          case qb4xk20 => exact ⟨KN.cell (g := ga) (o := 1) (by repeat (first | exact Has.here | refine Has.there ?_)) (by first | rfl | kernel_rfl), KN.cell (g := gp) (o := 2) (by repeat (first | exact Has.here | refine Has.there ?_)) rfl⟩
          clear hK K hHeld
          have hHeld := hHeld2; clear hHeld2
          (try simp only [Act.put, List.setIfInBounds_toArray, List.set_cons_zero, List.set_cons_succ])
          refine wpAnyH_done (by kernel_rfl) ?qb4xdone _
          go_wp2_with fail
          go_meet
          exact ⟨_, _, OW, KN⟩
        case qbst16 =>
          (rw [if_pos (by rfl)]; refine wp_kn_lit KN 69 76 1 _ rfl 51 rfl Tryd.underlying69 (useC n (t.raw.text, s.i)).toArray (by kernel_rfl) ?_; clear KN; intro g51 wx hg51 KN)
          refine hK.out _ _ ?qb16xk16 (fun hHeld2 => ?qb16xm16)
          case qb16xk16 => exact ⟨KN.cell (g := ga) (o := 1) (by repeat (first | exact Has.here | refine Has.there ?_)) (by first | rfl | kernel_rfl), KN.cell (g := gp) (o := 2) (by repeat (first | exact Has.here | refine Has.there ?_)) rfl⟩
          clear hK K hHeld
          have hHeld := hHeld2; clear hHeld2
          (try simp only [Act.put, List.setIfInBounds_toArray, List.set_cons_zero, List.set_cons_succ])
          refine wpAnyH_ready (rs := [4]) (by kernel_rfl) (by simp) ?qb16xc4
          refine AllReadyH.cons (o := ⟨some 39, _, _, _, _, _⟩) rfl (fun K hK => ?qb16xst4) AllReadyH.nil
          (rw [if_pos (by rfl)]; refine wp_kn_load1 KN 69 _ rfl ga 2 rfl _ _ (by repeat (first | exact Has.here | refine Has.there ?_)) (.slice ua un uc) rfl _ Tryd.underlying69 rfl ?_)
          refine hK.out _ _ ?qb16xk4 (fun hHeld2 => ?qb16xm4)
          case qb16xk4 => exact ⟨KN.cell (g := ga) (o := 1) (by repeat (first | exact Has.here | refine Has.there ?_)) (by first | rfl | kernel_rfl), KN.cell (g := gp) (o := 2) (by repeat (first | exact Has.here | refine Has.there ?_)) rfl⟩
          clear hK K hHeld
          have hHeld := hHeld2; clear hHeld2
          (try simp only [Act.put, List.setIfInBounds_toArray, List.set_cons_zero, List.set_cons_succ])
          refine wpAnyH_ready (rs := [17]) (by kernel_rfl) (by simp) ?qb16xc17
          refine AllReadyH.cons (o := ⟨some 52, _, _, _, _, _⟩) rfl (fun K hK => ?qb16xst17) AllReadyH.nil
          (rw [if_pos (by rfl)]; refine wp_kn_append1 KN HO.out _ _ 69 rfl 32 Tryd.underlying69 (by kernel_rfl) (by decide) (by first | rfl | (rw [← HUN.out]; rfl)) 1 rfl rfl (by kernel_rfl) (by rw [← HUN.out]; unfold maxLen; omega) (by rw [← HUN.out]; omega) (f := fun o => (gp, _) :: (ga, _) :: (R ++ o)) (TailF.cons _ (TailF.cons _ (TailF.app TailF.id R))) rfl ?_; clear KN; intro v' wx ol' OW KN; obtain ⟨xa, xc, rfl⟩ := OW.form)
          refine hK.out _ _ ?qb16xk17 (fun hHeld2 => ?qb16xm17)
          case qb16xk17 => exact ⟨KN.cell (g := ga) (o := 1) (by repeat (first | exact Has.here | refine Has.there ?_)) (by first | rfl | kernel_rfl), KN.cell (g := gp) (o := 2) (by repeat (first | exact Has.here | refine Has.there ?_)) rfl⟩
          clear hK K hHeld
          have hHeld := hHeld2; clear hHeld2
          (try simp only [Act.put, List.setIfInBounds_toArray, List.set_cons_zero, List.set_cons_succ])
          refine wpAnyH_take (i := 18) (oi := ⟨some 53, _, _, _, _, _⟩) (v := ?qb16xv18) rfl (by kernel_rfl) (by kernel_rfl) (by kernel_rfl) (fun _ _ _ h => h) (Or.inl ⟨by rfl, ?qb16xhy18⟩) hHeld ?qb16xr18
          case qb16xhy18 => (intro w hSw; (try dsimp only at hSw); go_simp; (try with_reducible rfl))
          (try simp only [Act.put, List.setIfInBounds_toArray, List.set_cons_zero, List.set_cons_succ])
          refine wpAnyH_take (i := 19) (oi := ⟨some 54, _, _, _, _, _⟩) (v := ?qb16xv19) rfl (by kernel_rfl) (by kernel_rfl) (by kernel_rfl) (fun _ _ _ h => h) (Or.inl ⟨by rfl, ?qb16xhy19⟩) hHeld ?qb16xr19
          case qb16xhy19 => (intro w hSw; (try dsimp only at hSw); go_simp; (try with_reducible rfl))
          (try simp only [Act.put, List.setIfInBounds_toArray, List.set_cons_zero, List.set_cons_succ])
          refine wpAnyH_ready (rs := [20]) (by kernel_rfl) (by simp) ?qb16xc20
          refine AllReadyH.cons (o := ⟨none, _, _, _, _, _⟩) rfl (fun K hK => ?qb16xst20) AllReadyH.nil
          (rw [if_pos (by rfl)]; refine wp_kn_store1 KN 69 _ _ rfl ga 2 rfl _ rfl rfl _ _ (by repeat (first | exact Repl.here | apply Repl.there)) (by simp) (by kernel_rfl) (by rfl) ?_; clear KN; intro wx KN)
          refine hK.out _ _ ?qb16xk20 (fun hHeld2 => ?qb16xm20)
          case qb16xk20 => exact ⟨KN.cell (g := ga) (o := 1) (by repeat (first | exact Has.here | refine Has.there ?_)) (by first | rfl | kernel_rfl), KN.cell (g := gp) (o := 2) (by repeat (first | exact Has.here | refine Has.there ?_)) rfl⟩
          clear hK K hHeld
          have hHeld := hHeld2; clear hHeld2
          (try simp only [Act.put, List.setIfInBounds_toArray, List.set_cons_zero, List.set_cons_succ])
          refine wpAnyH_done (by kernel_rfl) ?qb16xdone _
          go_wp2_with fail
          go_meet
          exact ⟨_, _, OW, KN⟩
      case rest =>
        clear KN
        obtain ⟨v', ol', OW, KN⟩ := hcut
        go_wp2_with (first | ((with_reducible refine wpList_gate ?_); first | ((refine gate_load (by rfl) ?_); first | (refine ks_load1 KN 67 Tryd.underlying67 ?_) | (refine ks_load1 KN 46 Tryd.underlying46 ?_) | (refine ks_load1 KN 3 Tryd.underlying3 ?_) | (refine ks_load1 KN 9 Tryd.underlying9 ?_) | (refine ks_load1 KN 69 Tryd.underlying69 ?_) | (refine ks_load1 KN 23 Tryd.underlying23 ?_)) | ((refine gate_store (by rfl) ?_); first | (refine ks_store1 KN 69 ?_; clear KN; intro wx KN) | (refine ks_store1 KN 3 ?_; clear KN; intro wx KN))))
        go_ret
        exact ⟨v', ol', rfl, OW, KN.as_ gp _ (by repeat (first | exact Repl.here | apply Repl.there)) (by kernel_rfl)⟩
theorem field_val (a b c d e : Value) (w : World) : Sem.run Tryd.prog (Instr.field 45 (.agg #[a, b, c, d, e]) 2) w = .ok c w := by kernel_rfl
theorem anyTok_val (el ec : Int) (d : List Tok) (s : PSt) : ∃ a b e f, anyTok el ec d s 2 = #[a, b, .int .u64 (if kindB d s 2 = true then (tk d s.i).value else 0), e, f] := by
  unfold anyTok zeroTok
  split
  · exact ⟨_, _, _, _, rfl⟩
  · exact ⟨_, _, _, _, rfl⟩
set_option maxRecDepth 100000 in
set_option maxHeartbeats 40000000 in
theorem asr_value_num {W w : World} {R ol : Ents} {gp ga n : Nat} {oa : Option Addr} {oc : Nat} {tv usv ls ps : Value} {sv : ByteArray} {s : PSt} {d : List Tok} {el ec : Int} {L : List (List Value)} (tg : Bool)
    (KN : Kn [] W w ((gp, At (parC (.string sv) tv s) 74) :: (ga, At (ascC gp (.slice oa n oc) usv ls ps) 72) :: (R ++ ol))) (OW : OwnT 76 3 usv L ol) (hL : L.length ≤ 65536) (hn : n ≤ 65536) (hT : TokRd W tv d) (hd : d.length ≤ 65536) (hv : ∀ t ∈ d, 0 ≤ t.raw.value ∧ t.raw.value ≤ 18446744073709551615) (hi1 : 1 ≤ s.i) (hi : s.i ≤ 69000) (hs : sv.size ≤ 65536) (hp : Hid (adv sv.data.toList (1, 1) = (el, ec))) (hb : kindB d s 1 = false) :
    Calls Tryd.prog 75 #[.pointer (some ⟨ga, 0, none⟩), .bool tg] w (ValPost W gp ga (.string sv) tv (.slice oa n oc) ls ps n L R (valS el ec d tg s)) := by
  have HT := Lib.hid hT
  have HB := Lib.hid hb
  have HO := Lib.hid OW
  obtain ⟨ua, uc, hu⟩ := OW.form
  subst hu
  obtain ⟨un, hun⟩ : ∃ un, un = L.length := ⟨_, rfl⟩
  have HUN := Lib.hid hun
  rw [← hun] at hL HO KN
  obtain ⟨m, hm⟩ : ∃ m, m = (!tg && peekB d s 4 [45]) := ⟨_, rfl⟩
  obtain ⟨s1, hs1⟩ : ∃ s1, s1 = if m = true then stepP s else s := ⟨_, rfl⟩
  obtain ⟨v, hvv⟩ : ∃ v, v = if kindB d s1 2 = true then (tk d s1.i).value else 0 := ⟨_, rfl⟩
  obtain ⟨s2, hs2⟩ : ∃ s2, s2 = anyP el ec d s1 2 := ⟨_, rfl⟩
  have HV : Hid (valS el ec d tg s = if 2147483648 < v ∨ (v = 2147483648 ∧ m = false) then (failP el ec d s2 (s2.i - 1) 6, 0, []) else if m = true then (s2, -v, []) else (s2, v, if tg = true then [([], s2.i - 1)] else [])) := Lib.hid (by
    unfold valS
    rw [if_neg (by rw [hb]; decide)]
    simp only [← hm, ← hs1, ← hvv, ← hs2])
  have v0 : 0 ≤ v := by
    rw [hvv]
    split
    · unfold tk
      cases hd : d[s1.i]? with
      | none => simp
      | some t => exact (hv t (List.mem_of_getElem? hd)).1
    · omega
  have hs1i : 1 ≤ s1.i ∧ s1.i ≤ 69001 := by
    rw [hs1]
    split
    · show 1 ≤ s.i + 1 ∧ s.i + 1 ≤ 69001; omega
    · omega
  have hs2i : 1 ≤ s2.i ∧ s2.i ≤ 69002 := by
    rw [hs2]
    unfold anyP
    split
    · show 1 ≤ s1.i + 1 ∧ s1.i + 1 ≤ 69002; omega
    · rw [failP_i]; omega
  have HM := Lib.hid hm
  have HS1 := Lib.hid hs1
  have HVV := Lib.hid hvv
  have HS2 := Lib.hid hs2
  have hfld := field_val
  obtain ⟨r, hr⟩ : ∃ r, r = valS el ec d tg s := ⟨_, rfl⟩
  rw [← hr] at HV ⊢
  clear hr
  clear OW hun hb hT hm hs1 hvv hs2 hv
  go_enter Tryd.func75, Tryd.ntmps75
  go_upto_region 10 with (first | (go_at_call 70; refine (par_kind KN HT.out hd (by omega) 1 (by decide)).mono ?_; rw [HB.out]; rintro y wx ⟨rfl, K2⟩; replace KN := K2; clear K2) | ((with_reducible refine wpList_gate ?_); first | ((refine gate_load (by rfl) ?_); first | (refine ks_load1 KN 67 Tryd.underlying67 ?_) | (refine ks_load1 KN 46 Tryd.underlying46 ?_) | (refine ks_load1 KN 3 Tryd.underlying3 ?_) | (refine ks_load1 KN 9 Tryd.underlying9 ?_) | (refine ks_load1 KN 69 Tryd.underlying69 ?_) | (refine ks_load1 KN 23 Tryd.underlying23 ?_)) | ((refine gate_store (by rfl) ?_); first | (refine ks_store1 KN 69 ?_; clear KN; intro wx KN) | (refine ks_store1 KN 3 ?_; clear KN; intro wx KN))))
  (try go_frame)
  go_cut [7] (fun s7 wz => s7 = .bool m ∧ Kn [] W wz ((gp, At (parC (.string sv) tv s1) 74) :: (ga, At (ascC gp (.slice oa n oc) (.slice ua un uc) ls ps) 72) :: (R ++ ol)))
  case first =>
    cases tg with
    | true =>
      have hm := HM.out
      have hs1 := HS1.out
      simp only [Bool.not_true, Bool.false_and] at hm
      subst hm
      rw [if_neg (by decide)] at hs1
      subst hs1
      clear HM HS1
      go_wp2_with fail
      go_meet
      case rel => exact ⟨rfl, KN⟩
    | false =>
      have hm := HM.out
      simp only [Bool.not_false, Bool.true_and] at hm
      have HTK : Hid (takeP d s 4 [45] = s1) := Lib.hid (by rw [HS1.out, hm]; rfl)
      have HPK := Lib.hid hm.symm
      clear hm HM HS1
      have h45 : str [45] = ⟨#[45]⟩ := rfl
      go_wp2_with (go_at_call 96; rw [← h45]; refine (par_take KN HT.out hd (by omega) 4 (by decide) [45]).mono ?_; rw [HPK.out, HTK.out]; rintro y wx ⟨rfl, K2⟩; replace KN := K2; clear K2)
      go_meet
      case rel => exact ⟨rfl, KN⟩
  case rest =>
    clear KN
    obtain ⟨rfl, KN⟩ := hcut
    obtain ⟨ta, tb, te, tf, hat⟩ := anyTok_val el ec d s1
    rw [← HVV.out] at hat
    have HAT := Lib.hid hat
    clear hat
    go_upto_region 12 with (first | (go_at_call 97; refine (par_any KN HT.out hd (by omega) hs hp 2 (by decide)).mono ?_; rw [HAT.out, ← HS2.out]; rintro y wx ⟨rfl, K2⟩; replace KN := K2; clear K2) | ((with_reducible refine wpList_gate ?_); first | ((refine gate_load (by rfl) ?_); first | (refine ks_load1 KN 67 Tryd.underlying67 ?_) | (refine ks_load1 KN 46 Tryd.underlying46 ?_) | (refine ks_load1 KN 3 Tryd.underlying3 ?_) | (refine ks_load1 KN 9 Tryd.underlying9 ?_) | (refine ks_load1 KN 69 Tryd.underlying69 ?_) | (refine ks_load1 KN 23 Tryd.underlying23 ?_)) | ((refine gate_store (by rfl) ?_); first | (refine ks_store1 KN 69 ?_; clear KN; intro wx KN) | (refine ks_store1 KN 3 ?_; clear KN; intro wx KN))))
    (try go_frame)
    clear hfld HAT
    by_cases hbig : 2147483648 < v
    · have hr : r = (failP el ec d s2 (s2.i - 1) 6, 0, []) := by rw [HV.out, if_pos (.inl hbig)]
      subst hr
      obtain ⟨j, hj⟩ : ∃ j, s2.i = j + 1 := ⟨s2.i - 1, by omega⟩
      have hj' : s2.i - 1 = j := by omega
      rw [hj']
      have hwr : IntKind.i64.wrap (j : Int) = (j : Int) := by rw [IntKind.wrap_i64]; omega
      have K9 := Lib.hid KN
      go_wp2_with (first | (go_at_call 35; refine (par_fail KN HT.out hd hs hp j (by omega) 6).mono ?_; rintro y wx ⟨rfl, K2⟩; replace KN := K2; clear K2) | ((with_reducible refine wpList_gate ?_); first | ((refine gate_load (by rfl) ?_); first | (refine ks_load1 KN 67 Tryd.underlying67 ?_) | (refine ks_load1 KN 46 Tryd.underlying46 ?_) | (refine ks_load1 KN 3 Tryd.underlying3 ?_) | (refine ks_load1 KN 9 Tryd.underlying9 ?_) | (refine ks_load1 KN 69 Tryd.underlying69 ?_) | (refine ks_load1 KN 23 Tryd.underlying23 ?_)) | ((refine gate_store (by rfl) ?_); first | (refine ks_store1 KN 69 ?_; clear KN; intro wx KN) | (refine ks_store1 KN 3 ?_; clear KN; intro wx KN))))
      go_ret
      exact ⟨_, ol, rfl, by simpa using HO.out, by first | exact KN | (rw [hj']; exact KN)⟩
    · cases m with
      | true =>
        have hr : r = (s2, -v, []) := by rw [HV.out, if_neg (by rintro (h | ⟨_, h⟩); exact hbig h; cases h), if_pos rfl]
        subst hr
        have hneg : IntKind.i32.wrap (-v) = -v := by rw [IntKind.wrap_i32]; omega
        by_cases heq : v = 2147483648
        · subst heq
          go_wp2_with (first | ((with_reducible refine wpList_gate ?_); first | ((refine gate_load (by rfl) ?_); first | (refine ks_load1 KN 67 Tryd.underlying67 ?_) | (refine ks_load1 KN 46 Tryd.underlying46 ?_) | (refine ks_load1 KN 3 Tryd.underlying3 ?_) | (refine ks_load1 KN 9 Tryd.underlying9 ?_) | (refine ks_load1 KN 69 Tryd.underlying69 ?_) | (refine ks_load1 KN 23 Tryd.underlying23 ?_)) | ((refine gate_store (by rfl) ?_); first | (refine ks_store1 KN 69 ?_; clear KN; intro wx KN) | (refine ks_store1 KN 3 ?_; clear KN; intro wx KN))))
          go_ret
          exact ⟨_, ol, rfl, by simpa using HO.out, KN⟩
        · have heq2 : (v == 2147483648) = false := by rw [beq_eq_false_iff_ne]; exact heq
          go_wp2_with (first | ((with_reducible refine wpList_gate ?_); first | ((refine gate_load (by rfl) ?_); first | (refine ks_load1 KN 67 Tryd.underlying67 ?_) | (refine ks_load1 KN 46 Tryd.underlying46 ?_) | (refine ks_load1 KN 3 Tryd.underlying3 ?_) | (refine ks_load1 KN 9 Tryd.underlying9 ?_) | (refine ks_load1 KN 69 Tryd.underlying69 ?_) | (refine ks_load1 KN 23 Tryd.underlying23 ?_)) | ((refine gate_store (by rfl) ?_); first | (refine ks_store1 KN 69 ?_; clear KN; intro wx KN) | (refine ks_store1 KN 3 ?_; clear KN; intro wx KN))))
          go_ret
          exact ⟨_, ol, by first | rfl | (rw [hneg]), by simpa using HO.out, KN⟩
      | false =>
        by_cases heq : v = 2147483648
        · subst heq
          have hr : r = (failP el ec d s2 (s2.i - 1) 6, 0, []) := by rw [HV.out, if_pos (.inr ⟨rfl, rfl⟩)]
          subst hr
          obtain ⟨j, hj⟩ : ∃ j, s2.i = j + 1 := ⟨s2.i - 1, by omega⟩
          have hj' : s2.i - 1 = j := by omega
          rw [hj']
          have hwr : IntKind.i64.wrap (j : Int) = (j : Int) := by rw [IntKind.wrap_i64]; omega
          go_wp2_with (first | (go_at_call 35; refine (par_fail KN HT.out hd hs hp j (by omega) 6).mono ?_; rintro y wx ⟨rfl, K2⟩; replace KN := K2; clear K2) | ((with_reducible refine wpList_gate ?_); first | ((refine gate_load (by rfl) ?_); first | (refine ks_load1 KN 67 Tryd.underlying67 ?_) | (refine ks_load1 KN 46 Tryd.underlying46 ?_) | (refine ks_load1 KN 3 Tryd.underlying3 ?_) | (refine ks_load1 KN 9 Tryd.underlying9 ?_) | (refine ks_load1 KN 69 Tryd.underlying69 ?_) | (refine ks_load1 KN 23 Tryd.underlying23 ?_)) | ((refine gate_store (by rfl) ?_); first | (refine ks_store1 KN 69 ?_; clear KN; intro wx KN) | (refine ks_store1 KN 3 ?_; clear KN; intro wx KN))))
          go_ret
          exact ⟨_, ol, rfl, by simpa using HO.out, by first | exact KN | (rw [hj']; exact KN)⟩
        · have heq2 : (v == 2147483648) = false := by rw [beq_eq_false_iff_ne]; exact heq
          have hlt : v < 2147483648 := by omega
          have hnb : ¬ (2147483648 < v ∨ (v = 2147483648 ∧ false = false)) := by rintro (h | ⟨h, _⟩); exact hbig h; exact heq h
          have hpos : IntKind.i32.wrap v = v := by rw [IntKind.wrap_i32]; omega
          cases tg with
          | false =>
            have hr : r = (s2, v, []) := by rw [HV.out, if_neg hnb, if_neg (by decide), if_neg (by decide)]
            subst hr
            clear hnb
            go_wp2_with (first | ((with_reducible refine wpList_gate ?_); first | ((refine gate_load (by rfl) ?_); first | (refine ks_load1 KN 67 Tryd.underlying67 ?_) | (refine ks_load1 KN 46 Tryd.underlying46 ?_) | (refine ks_load1 KN 3 Tryd.underlying3 ?_) | (refine ks_load1 KN 9 Tryd.underlying9 ?_) | (refine ks_load1 KN 69 Tryd.underlying69 ?_) | (refine ks_load1 KN 23 Tryd.underlying23 ?_)) | ((refine gate_store (by rfl) ?_); first | (refine ks_store1 KN 69 ?_; clear KN; intro wx KN) | (refine ks_store1 KN 3 ?_; clear KN; intro wx KN))))
            go_ret
            exact ⟨_, ol, by first | rfl | (rw [hpos]), by simpa using HO.out, KN⟩
          | true =>
            obtain ⟨j, hj⟩ : ∃ j, s2.i = j + 1 := ⟨s2.i - 1, by omega⟩
            have hr : r = (s2, v, [([], j)]) := by rw [HV.out, if_neg hnb, if_neg (by decide), if_pos rfl, show s2.i - 1 = j from by omega]
            subst hr
            clear hnb
            have hwr : IntKind.i64.wrap (j : Int) = (j : Int) := by rw [IntKind.wrap_i64]; omega
            go_upto_region 18 with (first | ((with_reducible refine wpList_gate ?_); first | ((refine gate_load (by rfl) ?_); first | (refine ks_load1 KN 67 Tryd.underlying67 ?_) | (refine ks_load1 KN 46 Tryd.underlying46 ?_) | (refine ks_load1 KN 3 Tryd.underlying3 ?_) | (refine ks_load1 KN 9 Tryd.underlying9 ?_) | (refine ks_load1 KN 69 Tryd.underlying69 ?_) | (refine ks_load1 KN 23 Tryd.underlying23 ?_)) | ((refine gate_store (by rfl) ?_); first | (refine ks_store1 KN 69 ?_; clear KN; intro wx KN) | (refine ks_store1 KN 3 ?_; clear KN; intro wx KN))))
            (try go_frame)
            go_cut [] (fun wz => ∃ (v' : Value) (ol' : Ents), OwnT 76 3 v' (L ++ [useC n ([], j)]) ol' ∧ Kn [] W wz ((gp, At (parC (.string sv) tv s2) 74) :: (ga, At (ascC gp (.slice oa n oc) v' ls ps) 72) :: (R ++ ol')))
            case first =>
              replace KN := KN.drew
              refine wp_region_held_drew (S := (fun w' => w'.cell? ⟨ga, 1, none⟩ = some (.slice oa n oc) ∧ w'.cell? ⟨gp, 2, none⟩ = some (.int .i64 (s2.i : Int)))) (by kernel_rfl) ?qchS (fun hHeld => ?qcrest)
              case qchS => exact ⟨KN.cell (g := ga) (o := 1) (by repeat (first | exact Has.here | refine Has.there ?_)) (by first | rfl | kernel_rfl), KN.cell (g := gp) (o := 2) (by repeat (first | exact Has.here | refine Has.there ?_)) rfl⟩
              refine wpAnyH_take (i := 0) (oi := ⟨some 94, _, _, _, _, _⟩) (v := ?qcv0) rfl (by kernel_rfl) (by kernel_rfl) (by kernel_rfl) (fun _ _ _ h => h) (Or.inl ⟨by rfl, ?qchy0⟩) hHeld ?qcr0
              case qchy0 => (intro w hSw; (try dsimp only at hSw); go_simp; (try with_reducible rfl))
              (try simp only [Act.put, List.setIfInBounds_toArray, List.set_cons_zero, List.set_cons_succ])
              refine wpAnyH_take (i := 1) (oi := ⟨some 95, _, _, _, _, _⟩) (v := ?qcv1) rfl (by kernel_rfl) (by kernel_rfl) (by kernel_rfl) (fun _ _ _ h => h) (Or.inl ⟨by rfl, ?qchy1⟩) hHeld ?qcr1
              case qchy1 => (intro w hSw; (try dsimp only at hSw); go_simp; (try with_reducible rfl))
              (try simp only [Act.put, List.setIfInBounds_toArray, List.set_cons_zero, List.set_cons_succ])
              refine wpAnyH_take (i := 2) (oi := ⟨some 96, _, _, _, _, _⟩) (v := ?qcv2) rfl (by kernel_rfl) (by kernel_rfl) (by kernel_rfl) (fun _ _ _ h => h) (Or.inl ⟨by rfl, ?qchy2⟩) hHeld ?qcr2
              case qchy2 => (intro w hSw; (try dsimp only at hSw); go_simp; (try with_reducible rfl))
              (try simp only [Act.put, List.setIfInBounds_toArray, List.set_cons_zero, List.set_cons_succ])
              refine wpAnyH_take (i := 3) (oi := ⟨some 97, _, _, _, _, _⟩) (v := ?qcv3) rfl (by kernel_rfl) (by kernel_rfl) (by kernel_rfl) (fun _ _ _ h => h) (Or.inl ⟨by rfl, ?qchy3⟩) hHeld ?qcr3
              case qchy3 => (intro w hSw; (try dsimp only at hSw); go_simp; (try with_reducible rfl))
              (try simp only [Act.put, List.setIfInBounds_toArray, List.set_cons_zero, List.set_cons_succ])
              refine wpAnyH_take (i := 5) (oi := ⟨some 99, _, _, _, _, _⟩) (v := ?qcv5) rfl (by kernel_rfl) (by kernel_rfl) (by kernel_rfl) (fun _ _ _ h => h) (Or.inl ⟨by rfl, ?qchy5⟩) hHeld ?qcr5
              case qchy5 => (intro w hSw; (try dsimp only at hSw); go_simp; (try with_reducible rfl))
              (try simp only [Act.put, List.setIfInBounds_toArray, List.set_cons_zero, List.set_cons_succ])
              refine wpAnyH_take (i := 6) (oi := ⟨some 100, _, _, _, _, _⟩) (v := ?qcv6) rfl (by kernel_rfl) (by kernel_rfl) (by kernel_rfl) (fun _ _ _ h => h) (Or.inl ⟨by rfl, ?qchy6⟩) hHeld ?qcr6
              case qchy6 => (intro w hSw; (try dsimp only at hSw); go_simp; (try with_reducible rfl))
              (try simp only [Act.put, List.setIfInBounds_toArray, List.set_cons_zero, List.set_cons_succ])
              refine wpAnyH_take (i := 7) (oi := ⟨some 101, _, _, _, _, _⟩) (v := ?qcv7) rfl (by kernel_rfl) (by kernel_rfl) (by kernel_rfl) (fun _ _ _ h => h) (Or.inl ⟨by rfl, ?qchy7⟩) hHeld ?qcr7
              case qchy7 => (intro w hSw; (try dsimp only at hSw); go_simp; (try with_reducible rfl))
              (try simp only [Act.put, List.setIfInBounds_toArray, List.set_cons_zero, List.set_cons_succ])
              refine wpAnyH_take (i := 8) (oi := ⟨some 102, _, _, _, _, _⟩) (v := (.slice oa n oc)) rfl (by kernel_rfl) (by kernel_rfl) (by kernel_rfl) (fun _ _ _ h => h) (kn_yields_cell (by rfl) 23 _ rfl ga 1 rfl _ (fun _ h => h.1) _ Tryd.underlying23 rfl) hHeld ?qcr8
              (try simp only [Act.put, List.setIfInBounds_toArray, List.set_cons_zero, List.set_cons_succ])
              refine wpAnyH_take (i := 9) (oi := ⟨some 103, _, _, _, _, _⟩) (v := ?qcv9) rfl (by kernel_rfl) (by kernel_rfl) (by kernel_rfl) (fun _ _ _ h => h) (Or.inl ⟨by rfl, ?qchy9⟩) hHeld ?qcr9
              case qchy9 => (intro w hSw; (try dsimp only at hSw); go_simp; (try with_reducible rfl))
              (try simp only [Act.put, List.setIfInBounds_toArray, List.set_cons_zero, List.set_cons_succ])
              refine wpAnyH_take (i := 10) (oi := ⟨some 104, _, _, _, _, _⟩) (v := ?qcv10) rfl (by kernel_rfl) (by kernel_rfl) (by kernel_rfl) (fun _ _ _ h => h) (Or.inl ⟨by rfl, ?qchy10⟩) hHeld ?qcr10
              case qchy10 => (intro w hSw; (try dsimp only at hSw); go_simp; (try with_reducible rfl))
              (try simp only [Act.put, List.setIfInBounds_toArray, List.set_cons_zero, List.set_cons_succ])
              refine wpAnyH_take (i := 11) (oi := ⟨some 105, _, _, _, _, _⟩) (v := ?qcv11) rfl (by kernel_rfl) (by kernel_rfl) (by kernel_rfl) (fun _ _ _ h => h) (Or.inl ⟨by rfl, ?qchy11⟩) hHeld ?qcr11
              case qchy11 => (intro w hSw; (try dsimp only at hSw); go_simp; (try with_reducible rfl))
              (try simp only [Act.put, List.setIfInBounds_toArray, List.set_cons_zero, List.set_cons_succ])
              refine wpAnyH_take (i := 12) (oi := ⟨some 106, _, _, _, _, _⟩) (v := ?qcv12) rfl (by kernel_rfl) (by kernel_rfl) (by kernel_rfl) (fun _ _ _ h => h) (Or.inl ⟨by rfl, ?qchy12⟩) hHeld ?qcr12
              case qchy12 => (intro w hSw; (try dsimp only at hSw); go_simp; (try with_reducible rfl))
              (try simp only [Act.put, List.setIfInBounds_toArray, List.set_cons_zero, List.set_cons_succ])
              refine wpAnyH_take (i := 13) (oi := ⟨some 107, _, _, _, _, _⟩) (v := (.int .i64 (s2.i : Int))) rfl (by kernel_rfl) (by kernel_rfl) (by kernel_rfl) (fun _ _ _ h => h) (kn_yields_cell (by rfl) 3 _ rfl gp 2 rfl _ (fun _ h => h.2) _ Tryd.underlying3 rfl) hHeld ?qcr13
              (try simp only [Act.put, List.setIfInBounds_toArray, List.set_cons_zero, List.set_cons_succ])
              refine wpAnyH_take (i := 14) (oi := ⟨some 108, _, _, _, _, _⟩) (v := (.int .i64 (j : Int))) rfl (by kernel_rfl) (by kernel_rfl) (by kernel_rfl) (fun _ _ _ h => h) (.inl ⟨by rfl, by intro w _; go_simp; (try simp only [hwr])⟩) hHeld ?qcr14
              (try simp only [Act.put, List.setIfInBounds_toArray, List.set_cons_zero, List.set_cons_succ])
              refine wpAnyH_take (i := 15) (oi := ⟨some 109, _, _, _, _, _⟩) (v := (.agg (useC n ([], j)).toArray)) rfl (by kernel_rfl) (by kernel_rfl) (by kernel_rfl) (fun _ _ _ h => h) (.inl ⟨by rfl, fun w _ => by kernel_rfl⟩) hHeld ?qcr15
              (try simp only [Act.put, List.setIfInBounds_toArray, List.set_cons_zero, List.set_cons_succ])
              refine wpAnyH_ready (rs := [4, 16]) (by kernel_rfl) (by simp) ?qcc4_16
              refine (AllReadyH.cons (o := ⟨some 98, _, _, _, _, _⟩) rfl (fun K hK => ?qcst4) (AllReadyH.cons (o := ⟨some 110, _, _, _, _, _⟩) rfl (fun K hK => ?qcst16) AllReadyH.nil))
              case qcst4 =>
                (rw [if_pos (by rfl)]; refine wp_kn_load1 KN 69 _ rfl ga 2 rfl _ _ (by repeat (first | exact Has.here | refine Has.there ?_)) (.slice ua un uc) rfl _ Tryd.underlying69 rfl ?_)
                refine hK.out _ _ ?qc4xk4 (fun hHeld2 => ?qc4xm4)
                case qc4xk4 => exact ⟨KN.cell (g := ga) (o := 1) (by repeat (first | exact Has.here | refine Has.there ?_)) (by first | rfl | kernel_rfl), KN.cell (g := gp) (o := 2) (by repeat (first | exact Has.here | refine Has.there ?_)) rfl⟩
                clear hK K hHeld
                have hHeld := hHeld2; clear hHeld2
                (try simp only [Act.put, List.setIfInBounds_toArray, List.set_cons_zero, List.set_cons_succ])
                refine wpAnyH_ready (rs := [16]) (by kernel_rfl) (by simp) ?qc4xc16
                refine AllReadyH.cons (o := ⟨some 110, _, _, _, _, _⟩) rfl (fun K hK => ?qc4xst16) AllReadyH.nil
                (rw [if_pos (by rfl)]; refine wp_kn_lit KN 69 76 1 _ rfl 110 rfl Tryd.underlying69 (useC n ([], j)).toArray (by kernel_rfl) ?_; clear KN; intro g51 wx hg51 KN)
                refine hK.out _ _ ?qc4xk16 (fun hHeld2 => ?qc4xm16)
                case qc4xk16 => exact ⟨KN.cell (g := ga) (o := 1) (by repeat (first | exact Has.here | refine Has.there ?_)) (by first | rfl | kernel_rfl), KN.cell (g := gp) (o := 2) (by repeat (first | exact Has.here | refine Has.there ?_)) rfl⟩
                clear hK K hHeld
                have hHeld := hHeld2; clear hHeld2
                (try simp only [Act.put, List.setIfInBounds_toArray, List.set_cons_zero, List.set_cons_succ])
                refine wpAnyH_ready (rs := [17]) (by kernel_rfl) (by simp) ?qc4xc17
                refine AllReadyH.cons (o := ⟨some 111, _, _, _, _, _⟩) rfl (fun K hK => ?qc4xst17) AllReadyH.nil
                (rw [if_pos (by rfl)]; refine wp_kn_append1 KN HO.out _ _ 69 rfl 32 Tryd.underlying69 (by kernel_rfl) (by decide) (by first | rfl | (rw [← HUN.out]; rfl)) 1 rfl rfl (by kernel_rfl) (by rw [← HUN.out]; unfold maxLen; omega) (by rw [← HUN.out]; omega) (f := fun o => (gp, _) :: (ga, _) :: (R ++ o)) (TailF.cons _ (TailF.cons _ (TailF.app TailF.id R))) rfl ?_; clear KN; intro v' wx ol' OW KN; obtain ⟨xa, xc, rfl⟩ := OW.form)
                refine hK.out _ _ ?qc4xk17 (fun hHeld2 => ?qc4xm17)
                case qc4xk17 => exact ⟨KN.cell (g := ga) (o := 1) (by repeat (first | exact Has.here | refine Has.there ?_)) (by first | rfl | kernel_rfl), KN.cell (g := gp) (o := 2) (by repeat (first | exact Has.here | refine Has.there ?_)) rfl⟩
                clear hK K hHeld
                have hHeld := hHeld2; clear hHeld2
                (try simp only [Act.put, List.setIfInBounds_toArray, List.set_cons_zero, List.set_cons_succ])
                refine wpAnyH_take (i := 18) (oi := ⟨some 112, _, _, _, _, _⟩) (v := ?qc4xv18) rfl (by kernel_rfl) (by kernel_rfl) (by kernel_rfl) (fun _ _ _ h => h) (Or.inl ⟨by rfl, ?qc4xhy18⟩) hHeld ?qc4xr18
                case qc4xhy18 => (intro w hSw; (try dsimp only at hSw); go_simp; (try with_reducible rfl))
                (try simp only [Act.put, List.setIfInBounds_toArray, List.set_cons_zero, List.set_cons_succ])
                refine wpAnyH_take (i := 19) (oi := ⟨some 113, _, _, _, _, _⟩) (v := ?qc4xv19) rfl (by kernel_rfl) (by kernel_rfl) (by kernel_rfl) (fun _ _ _ h => h) (Or.inl ⟨by rfl, ?qc4xhy19⟩) hHeld ?qc4xr19
                case qc4xhy19 => (intro w hSw; (try dsimp only at hSw); go_simp; (try with_reducible rfl))
                (try simp only [Act.put, List.setIfInBounds_toArray, List.set_cons_zero, List.set_cons_succ])
                refine wpAnyH_ready (rs := [20]) (by kernel_rfl) (by simp) ?qc4xc20
                refine AllReadyH.cons (o := ⟨none, _, _, _, _, _⟩) rfl (fun K hK => ?qc4xst20) AllReadyH.nil
                (rw [if_pos (by rfl)]; refine wp_kn_store1 KN 69 _ _ rfl ga 2 rfl _ rfl rfl _ _ (by repeat (first | exact Repl.here | apply Repl.there)) (by simp) (by kernel_rfl) (by rfl) ?_; clear KN; intro wx KN)
                refine hK.out _ _ ?qc4xk20 (fun hHeld2 => ?qc4xm20)
                case qc4xk20 => exact ⟨KN.cell (g := ga) (o := 1) (by repeat (first | exact Has.here | refine Has.there ?_)) (by first | rfl | kernel_rfl), KN.cell (g := gp) (o := 2) (by repeat (first | exact Has.here | refine Has.there ?_)) rfl⟩
                clear hK K hHeld
                have hHeld := hHeld2; clear hHeld2
                (try simp only [Act.put, List.setIfInBounds_toArray, List.set_cons_zero, List.set_cons_succ])
                refine wpAnyH_done (by kernel_rfl) ?qc4xdone _
                go_wp2_with fail
                go_meet
                exact ⟨_, _, OW, KN⟩
              case qcst16 =>
                (rw [if_pos (by rfl)]; refine wp_kn_lit KN 69 76 1 _ rfl 110 rfl Tryd.underlying69 (useC n ([], j)).toArray (by kernel_rfl) ?_; clear KN; intro g51 wx hg51 KN)
                refine hK.out _ _ ?qc16xk16 (fun hHeld2 => ?qc16xm16)
                case qc16xk16 => exact ⟨KN.cell (g := ga) (o := 1) (by repeat (first | exact Has.here | refine Has.there ?_)) (by first | rfl | kernel_rfl), KN.cell (g := gp) (o := 2) (by repeat (first | exact Has.here | refine Has.there ?_)) rfl⟩
                clear hK K hHeld
                have hHeld := hHeld2; clear hHeld2
                (try simp only [Act.put, List.setIfInBounds_toArray, List.set_cons_zero, List.set_cons_succ])
                refine wpAnyH_ready (rs := [4]) (by kernel_rfl) (by simp) ?qc16xc4
                refine AllReadyH.cons (o := ⟨some 98, _, _, _, _, _⟩) rfl (fun K hK => ?qc16xst4) AllReadyH.nil
                (rw [if_pos (by rfl)]; refine wp_kn_load1 KN 69 _ rfl ga 2 rfl _ _ (by repeat (first | exact Has.here | refine Has.there ?_)) (.slice ua un uc) rfl _ Tryd.underlying69 rfl ?_)
                refine hK.out _ _ ?qc16xk4 (fun hHeld2 => ?qc16xm4)
                case qc16xk4 => exact ⟨KN.cell (g := ga) (o := 1) (by repeat (first | exact Has.here | refine Has.there ?_)) (by first | rfl | kernel_rfl), KN.cell (g := gp) (o := 2) (by repeat (first | exact Has.here | refine Has.there ?_)) rfl⟩
                clear hK K hHeld
                have hHeld := hHeld2; clear hHeld2
                (try simp only [Act.put, List.setIfInBounds_toArray, List.set_cons_zero, List.set_cons_succ])
                refine wpAnyH_ready (rs := [17]) (by kernel_rfl) (by simp) ?qc16xc17
                refine AllReadyH.cons (o := ⟨some 111, _, _, _, _, _⟩) rfl (fun K hK => ?qc16xst17) AllReadyH.nil
                (rw [if_pos (by rfl)]; refine wp_kn_append1 KN HO.out _ _ 69 rfl 32 Tryd.underlying69 (by kernel_rfl) (by decide) (by first | rfl | (rw [← HUN.out]; rfl)) 1 rfl rfl (by kernel_rfl) (by rw [← HUN.out]; unfold maxLen; omega) (by rw [← HUN.out]; omega) (f := fun o => (gp, _) :: (ga, _) :: (R ++ o)) (TailF.cons _ (TailF.cons _ (TailF.app TailF.id R))) rfl ?_; clear KN; intro v' wx ol' OW KN; obtain ⟨xa, xc, rfl⟩ := OW.form)
                refine hK.out _ _ ?qc16xk17 (fun hHeld2 => ?qc16xm17)
                case qc16xk17 => exact ⟨KN.cell (g := ga) (o := 1) (by repeat (first | exact Has.here | refine Has.there ?_)) (by first | rfl | kernel_rfl), KN.cell (g := gp) (o := 2) (by repeat (first | exact Has.here | refine Has.there ?_)) rfl⟩
                clear hK K hHeld
                have hHeld := hHeld2; clear hHeld2
                (try simp only [Act.put, List.setIfInBounds_toArray, List.set_cons_zero, List.set_cons_succ])
                refine wpAnyH_take (i := 18) (oi := ⟨some 112, _, _, _, _, _⟩) (v := ?qc16xv18) rfl (by kernel_rfl) (by kernel_rfl) (by kernel_rfl) (fun _ _ _ h => h) (Or.inl ⟨by rfl, ?qc16xhy18⟩) hHeld ?qc16xr18
                case qc16xhy18 => (intro w hSw; (try dsimp only at hSw); go_simp; (try with_reducible rfl))
                (try simp only [Act.put, List.setIfInBounds_toArray, List.set_cons_zero, List.set_cons_succ])
                refine wpAnyH_take (i := 19) (oi := ⟨some 113, _, _, _, _, _⟩) (v := ?qc16xv19) rfl (by kernel_rfl) (by kernel_rfl) (by kernel_rfl) (fun _ _ _ h => h) (Or.inl ⟨by rfl, ?qc16xhy19⟩) hHeld ?qc16xr19
                case qc16xhy19 => (intro w hSw; (try dsimp only at hSw); go_simp; (try with_reducible rfl))
                (try simp only [Act.put, List.setIfInBounds_toArray, List.set_cons_zero, List.set_cons_succ])
                refine wpAnyH_ready (rs := [20]) (by kernel_rfl) (by simp) ?qc16xc20
                refine AllReadyH.cons (o := ⟨none, _, _, _, _, _⟩) rfl (fun K hK => ?qc16xst20) AllReadyH.nil
                (rw [if_pos (by rfl)]; refine wp_kn_store1 KN 69 _ _ rfl ga 2 rfl _ rfl rfl _ _ (by repeat (first | exact Repl.here | apply Repl.there)) (by simp) (by kernel_rfl) (by rfl) ?_; clear KN; intro wx KN)
                refine hK.out _ _ ?qc16xk20 (fun hHeld2 => ?qc16xm20)
                case qc16xk20 => exact ⟨KN.cell (g := ga) (o := 1) (by repeat (first | exact Has.here | refine Has.there ?_)) (by first | rfl | kernel_rfl), KN.cell (g := gp) (o := 2) (by repeat (first | exact Has.here | refine Has.there ?_)) rfl⟩
                clear hK K hHeld
                have hHeld := hHeld2; clear hHeld2
                (try simp only [Act.put, List.setIfInBounds_toArray, List.set_cons_zero, List.set_cons_succ])
                refine wpAnyH_done (by kernel_rfl) ?qc16xdone _
                go_wp2_with fail
                go_meet
                exact ⟨_, _, OW, KN⟩
            case rest =>
              clear KN
              obtain ⟨v', ol', OW, KN⟩ := hcut
              go_wp2_with (first | ((with_reducible refine wpList_gate ?_); first | ((refine gate_load (by rfl) ?_); first | (refine ks_load1 KN 67 Tryd.underlying67 ?_) | (refine ks_load1 KN 46 Tryd.underlying46 ?_) | (refine ks_load1 KN 3 Tryd.underlying3 ?_) | (refine ks_load1 KN 9 Tryd.underlying9 ?_) | (refine ks_load1 KN 69 Tryd.underlying69 ?_) | (refine ks_load1 KN 23 Tryd.underlying23 ?_)) | ((refine gate_store (by rfl) ?_); first | (refine ks_store1 KN 69 ?_; clear KN; intro wx KN) | (refine ks_store1 KN 3 ?_; clear KN; intro wx KN))))
              go_ret
              exact ⟨v', ol', by first | rfl | (rw [hpos]), OW, KN⟩
end Go.Proofs.YtemigcdieghkfaaDoor
