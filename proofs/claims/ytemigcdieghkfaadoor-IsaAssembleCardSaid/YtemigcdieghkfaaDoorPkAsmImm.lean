/- The assembler's method readImm. -/
import Derived.Test.YtemigcdieghkfaaDoorPkAsmTR
set_option linter.unusedVariables false
set_option linter.unusedSimpArgs false
set_option linter.unusedSectionVars false
namespace Go.Proofs.YtemigcdieghkfaaDoor
open Go.RowKit Go.BigFrame

abbrev refC (el ec : Int) (d : List Tok) (u : ARef) : List Value := [.int .i64 (u.instr : Int), .string (str u.label), .bool u.target, .int .i64 (posE el ec d u.at_).1, .int .i64 (posE el ec d u.at_).2]
theorem field_yields {P : Program} {ops : Array Oper} {op : Oper} {a : Act} {S : World → Prop} (hw : Region.wanted op (yielded ops a.tmps) = true) (t : TypeId) (x : Operand) (k : Nat) (ho : op.op = .field t x k) (u v : Value) (hx : a.eval x = u)
    (hr : ∀ w, Sem.run P (Instr.field t u k) w = .ok v w) : YieldsIf P ops S op v a :=
  .inl ⟨hw, fun w _ => by
    unfold execOp
    simp only [ho, hx, Sem.run_bind, hr w]
    rfl⟩
/-- Where readImm stands behind its first statement. -/
def ImmRel (W : World) (g : Nat) (cs : Array Value) (el ec : Int) (d : List Tok) (n i : Nat) (tg : Bool) (l : Ents) (s5 : Value) (wz : World) : Prop :=
  ∃ g5 : Nat, s5 = .pointer (some ⟨g5, 0, none⟩) ∧ Kn [] W wz ((g5, At (refC el ec d ⟨n, [], tg, i⟩).toArray 128) :: (g, At cs 64) :: l)
/-- Where readImm stands behind its append. -/
def ImmOut (W : World) (g : Nat) (tv tb pv mv : Value) (el ec : Int) (d : List Tok) (i : Nat) (refs : List ARef) (L : Ents) (wz : World) : Prop :=
  ∃ ov' ol', OwnT 128 5 ov' (refs.map (refC el ec d)) ol' ∧ Kn [] W wz ((g, At (asmC tv i el ec tb pv mv ov') 64) :: (L ++ ol'))
def ImmMid (W : World) (g g9 : Nat) (c9 : Array Value) (tv tb pv mv : Value) (el ec : Int) (d : List Tok) (i : Nat) (refs : List ARef) (L : Ents) (wz : World) : Prop :=
  ∃ ov' ol', OwnT 128 5 ov' (refs.map (refC el ec d)) ol' ∧ Kn [] W wz ((g9, At c9 45) :: (g, At (asmC tv i el ec tb pv mv ov') 64) :: (L ++ ol'))
/-- What readImm comes to. -/
def ImmPost (W : World) (g : Nat) (tv tb pv mv : Value) (el ec : Int) (d : List Tok) (refs : List ARef) (L : Ents) (r : Except AErr (Int × Nat × List ARef)) (e : Ending) (w' : World) : Prop := match r with
  | .ok x => e = .returned (.int .i32 x.1) ∧ ImmOut W g tv tb pv mv el ec d x.2.1 (refs ++ x.2.2) L w'
  | .error x => e = failE (posE el ec d x.1) x.2 ∧ Below W.heap.size W w'
section
variable {d : List Tok} {n i : Nat} {tg : Bool}
theorem aImm_w1 (hk : (tk d i).kind = 1) (hr : 0 ≤ regOf (tk d i).text) : aImm d n tg i = .error (i, 50) := by unfold aImm; rw [if_pos hk, if_pos hr]
theorem aImm_w2 (hk : (tk d i).kind = 1) (hr : regOf (tk d i).text < 0) : aImm d n tg i = .ok (0, i + 1, [⟨n, (tk d i).text, tg, i⟩]) := by unfold aImm; rw [if_pos hk, if_neg (by omega)]
theorem aImm_m1 (hk : ¬ (tk d i).kind = 1) (hm : (!tg && isP d i [45]) = true) (h2 : ¬ (tk d (i + 1)).kind = 2) : aImm d n tg i = .error (i + 1, 50) := by unfold aImm; rw [if_neg hk, if_pos hm, if_pos h2]
theorem aImm_m2 (hk : ¬ (tk d i).kind = 1) (hm : (!tg && isP d i [45]) = true) (h2 : (tk d (i + 1)).kind = 2) (hv : 2147483648 < (tk d (i + 1)).value) : aImm d n tg i = .error (i + 1, 6) := by unfold aImm; rw [if_neg hk, if_pos hm, if_neg (fun q => q h2), if_pos hv]
theorem aImm_m3 (hk : ¬ (tk d i).kind = 1) (hm : (!tg && isP d i [45]) = true) (h2 : (tk d (i + 1)).kind = 2) (hv : ¬ 2147483648 < (tk d (i + 1)).value) : aImm d n tg i = .ok (-(tk d (i + 1)).value, i + 2, []) := by unfold aImm; rw [if_neg hk, if_pos hm, if_neg (fun q => q h2), if_neg hv]
theorem aImm_p1 (hk : ¬ (tk d i).kind = 1) (hm : (!tg && isP d i [45]) = false) (h2 : ¬ (tk d i).kind = 2) : aImm d n tg i = .error (i, 50) := by unfold aImm; rw [if_neg hk, if_neg (by rw [hm]; decide), if_pos h2]
theorem aImm_p2 (hk : ¬ (tk d i).kind = 1) (hm : (!tg && isP d i [45]) = false) (h2 : (tk d i).kind = 2) (hv : 2147483647 < (tk d i).value) : aImm d n tg i = .error (i, 6) := by unfold aImm; rw [if_neg hk, if_neg (by rw [hm]; decide), if_neg (fun q => q h2), if_pos hv]
theorem aImm_p3 (hk : ¬ (tk d i).kind = 1) (hm : (!tg && isP d i [45]) = false) (h2 : (tk d i).kind = 2) (hv : ¬ 2147483647 < (tk d i).value) : aImm d n tg i = .ok ((tk d i).value, i + 1, if tg then [⟨n, [], true, i⟩] else []) := by unfold aImm; rw [if_neg hk, if_neg (by rw [hm]; decide), if_neg (fun q => q h2), if_neg hv]
end
theorem ImmPost.ok {W : World} {g : Nat} {tv tb pv mv : Value} {el ec : Int} {d : List Tok} {refs us : List ARef} {L : Ents} {r : Except AErr (Int × Nat × List ARef)} {v : Int} {j : Nat} {w' : World} (h : Hid (r = .ok (v, j, us))) (ho : ImmOut W g tv tb pv mv el ec d j (refs ++ us) L w') :
    ImmPost W g tv tb pv mv el ec d refs L r (.returned (.int .i32 v)) w' := by rw [h.out]; exact ⟨rfl, ho⟩
theorem ImmPost.err {W : World} {g : Nat} {tv tb pv mv : Value} {el ec : Int} {d : List Tok} {refs : List ARef} {L : Ents} {r : Except AErr (Int × Nat × List ARef)} {x : AErr} {w' : World} (h : Hid (r = .error x)) (hb : Below W.heap.size W w') :
    ImmPost W g tv tb pv mv el ec d refs L r (failE (posE el ec d x.1) x.2) w' := by rw [h.out]; exact ⟨rfl, hb⟩
theorem OwnT.nilapp_map {el ec : Int} {d : List Tok} {refs : List ARef} {e : TypeId} {v : Value} {ol : Ents} (h : OwnT e 5 v (refs.map (refC el ec d)) ol) : OwnT e 5 v ((refs ++ []).map (refC el ec d)) ol := by rw [List.append_nil]; exact h
set_option maxRecDepth 100000 in
set_option maxHeartbeats 40000000 in
theorem asm_imm {W w : World} {L ol : Ents} {g n i : Nat} {tv tb mv ov : Value} {pa : Option Addr} {pc : Nat} {el ec : Int} {d : List Tok} {refs : List ARef} (KN : Kn [] W w ((g, At (asmC tv i el ec tb (.slice pa n pc) mv ov) 64) :: (L ++ ol)))
    (OW : OwnT 128 5 ov (refs.map (refC el ec d)) ol) (hl : refs.length ≤ 100000) (hT : TokRd W tv d) (hd : d.length ≤ 65536) (hi : i ≤ 69990) (tg : Bool) (hv : ∀ t ∈ d, 0 ≤ t.raw.value ∧ t.raw.value ≤ 18446744073709551615) :
    Calls Tryd.prog 68 #[.pointer (some ⟨g, 0, none⟩), .bool tg] w (ImmPost W g tv tb (.slice pa n pc) mv el ec d refs L (aImm d n tg i)) := by
  have HT := Lib.hid hT
  obtain ⟨oa, oc, rfl⟩ := OW.form
  rw [List.length_map] at KN OW
  have HO := Lib.hid OW
  have hfld := field_pos
  clear hT OW
  go_enter Tryd.func68, Tryd.ntmps68
  go_wp2_with fail
  go_cut [5] (fun s5 wz => ImmRel W g (asmC tv i el ec tb (.slice pa n pc) mv (.slice oa refs.length oc)) el ec d n i tg (L ++ ol) s5 wz)
  case first =>
    replace KN := KN.drew
    refine wp_region_held_drew (S := (fun w' => BlkT w' g (asmC tv i el ec tb (.slice pa n pc) mv (.slice oa refs.length oc)) 64)) (by kernel_rfl) ?qfhS (fun hHeld => ?qfrest)
    case qfhS => exact KN.at_ (by repeat (first | exact Has.here | refine Has.there ?_))
    refine wpAnyH_take (i := 0) (oi := ⟨some 10, _, _, _, _, _⟩) (v := ?qfv0) rfl (by kernel_rfl) (by kernel_rfl) (by kernel_rfl) (fun _ _ _ h => h) (Or.inl ⟨by rfl, ?qfhy0⟩) hHeld ?qfr0
    case qfhy0 => (intro w hSw; (try dsimp only at hSw); go_simp; (try with_reducible rfl))
    (try simp only [Act.put, List.setIfInBounds_toArray, List.set_cons_zero, List.set_cons_succ])
    refine wpAnyH_take (i := 1) (oi := ⟨some 11, _, _, _, _, _⟩) (v := ?qfv1) rfl (by kernel_rfl) (by kernel_rfl) (by kernel_rfl) (fun _ _ _ h => h) (Or.inl ⟨by rfl, ?qfhy1⟩) hHeld ?qfr1
    case qfhy1 => (intro w hSw; (try dsimp only at hSw); go_simp; (try with_reducible rfl))
    (try simp only [Act.put, List.setIfInBounds_toArray, List.set_cons_zero, List.set_cons_succ])
    refine wpAnyH_take (i := 2) (oi := ⟨some 12, _, _, _, _, _⟩) (v := ?qfv2) rfl (by kernel_rfl) (by kernel_rfl) (by kernel_rfl) (fun _ _ _ h => h) (Or.inl ⟨by rfl, ?qfhy2⟩) hHeld ?qfr2
    case qfhy2 => (intro w hSw; (try dsimp only at hSw); go_simp; (try with_reducible rfl))
    (try simp only [Act.put, List.setIfInBounds_toArray, List.set_cons_zero, List.set_cons_succ])
    refine wpAnyH_take (i := 3) (oi := ⟨some 13, _, _, _, _, _⟩) (v := (.slice pa n pc)) rfl (by kernel_rfl) (by kernel_rfl) (by kernel_rfl) (fun _ _ _ h => h) (kn_yields1 (by rfl) 23 _ rfl g 5 rfl _ 64 (fun _ h => h) _ rfl _ Tryd.underlying23 rfl) hHeld ?qfr3
    (try simp only [Act.put, List.setIfInBounds_toArray, List.set_cons_zero, List.set_cons_succ])
    refine wpAnyH_take (i := 4) (oi := ⟨some 14, _, _, _, _, _⟩) (v := ?qfv4) rfl (by kernel_rfl) (by kernel_rfl) (by kernel_rfl) (fun _ _ _ h => h) (Or.inl ⟨by rfl, ?qfhy4⟩) hHeld ?qfr4
    case qfhy4 => (intro w hSw; (try dsimp only at hSw); go_simp; (try with_reducible rfl))
    (try simp only [Act.put, List.setIfInBounds_toArray, List.set_cons_zero, List.set_cons_succ])
    refine wpAnyH_take (i := 5) (oi := ⟨some 15, _, _, _, _, _⟩) (v := ?qfv5) rfl (by kernel_rfl) (by kernel_rfl) (by kernel_rfl) (fun _ _ _ h => h) (Or.inl ⟨by rfl, ?qfhy5⟩) hHeld ?qfr5
    case qfhy5 => (intro w hSw; (try dsimp only at hSw); go_simp; (try with_reducible rfl))
    (try simp only [Act.put, List.setIfInBounds_toArray, List.set_cons_zero, List.set_cons_succ])
    refine wpAnyH_take (i := 6) (oi := ⟨some 16, _, _, _, _, _⟩) (v := ?qfv6) rfl (by kernel_rfl) (by kernel_rfl) (by kernel_rfl) (fun _ _ _ h => h) (Or.inl ⟨by rfl, ?qfhy6⟩) hHeld ?qfr6
    case qfhy6 => (intro w hSw; (try dsimp only at hSw); go_simp; (try with_reducible rfl))
    (try simp only [Act.put, List.setIfInBounds_toArray, List.set_cons_zero, List.set_cons_succ])
    refine wpAnyH_ready (rs := [7, 10]) (by kernel_rfl) (by simp) ?qfc7_10
    refine (AllReadyH.cons (o := ⟨some 17, _, _, _, _, _⟩) rfl (fun K hK => ?qfst7) (AllReadyH.cons (o := ⟨some 5, _, _, _, _, _⟩) rfl (fun K hK => ?qfst10) AllReadyH.nil))
    case qfst7 =>
      go_simp
      (refine (asm_token_has KN (by repeat (first | exact Has.here | refine Has.there ?_)) HT.out hd (by omega) 0 (by omega)).mono ?_; rintro e wx ⟨rfl, K2⟩; replace KN := K2; clear K2; unfold tokC; (try rw [show i + 0 = i from rfl]))
      refine hK.out _ _ ?qf7xk7 (fun hHeld2 => ?qf7xm7)
      case qf7xk7 => exact KN.at_ (by repeat (first | exact Has.here | refine Has.there ?_))
      clear hK K hHeld
      have hHeld := hHeld2; clear hHeld2
      (try simp only [Act.put, List.setIfInBounds_toArray, List.set_cons_zero, List.set_cons_succ])
      refine wpAnyH_take (i := 8) (oi := ⟨some 18, _, _, _, _, _⟩) (v := (.agg #[.int .i64 (posE el ec d i).1, .int .i64 (posE el ec d i).2])) rfl (by kernel_rfl) (by kernel_rfl) (by kernel_rfl) (fun _ _ _ h => h) (field_yields (by rfl) 45 _ 3 rfl (.agg #[.int .i64 (tk d i).kind, .string (str (tk d i).text), .int .u64 (tk d i).value, .int .i64 (posE el ec d i).1, .int .i64 (posE el ec d i).2]) _ rfl (fun w => hfld _ _ _ _ _ w)) hHeld ?qf7xr8
      (try simp only [Act.put, List.setIfInBounds_toArray, List.set_cons_zero, List.set_cons_succ])
      refine wpAnyH_take (i := 9) (oi := ⟨some 19, _, _, _, _, _⟩) (v := ?qf7xv9) rfl (by kernel_rfl) (by kernel_rfl) (by kernel_rfl) (fun _ _ _ h => h) (Or.inl ⟨by rfl, ?qf7xhy9⟩) hHeld ?qf7xr9
      case qf7xhy9 => (intro w hSw; (try dsimp only at hSw); go_simp; (try with_reducible rfl))
      (try simp only [Act.put, List.setIfInBounds_toArray, List.set_cons_zero, List.set_cons_succ])
      refine wpAnyH_ready (rs := [10]) (by kernel_rfl) (by simp) ?qf7xc10
      refine AllReadyH.cons (o := ⟨some 5, _, _, _, _, _⟩) rfl (fun K hK => ?qf7xst10) AllReadyH.nil
      (rw [if_pos (by rfl)]; refine wp_kn_alloc KN 128 rfl 5 rfl #[.int .i64 0, .string ByteArray.empty, .bool false, .int .i64 0, .int .i64 0] (by kernel_rfl) ?_; clear KN; intro g5 wx hg5 KN hb1; clear hb1)
      refine hK.out _ _ ?qf7xk10 (fun hHeld2 => ?qf7xm10)
      case qf7xk10 => exact KN.at_ (by repeat (first | exact Has.here | refine Has.there ?_))
      clear hK K hHeld
      have hHeld := hHeld2; clear hHeld2
      (try simp only [Act.put, List.setIfInBounds_toArray, List.set_cons_zero, List.set_cons_succ])
      refine wpAnyH_ready (rs := [11]) (by kernel_rfl) (by simp) ?qf7xc11
      refine AllReadyH.cons (o := ⟨none, _, _, _, _, _⟩) rfl (fun K hK => ?qf7xst11) AllReadyH.nil
      (rw [if_pos (by rfl)]; refine wp_kn_storeW KN 128 _ _ rfl _ rfl (refC el ec d ⟨n, [], tg, i⟩).toArray rfl _ _ (by repeat (first | exact Repl.here | apply Repl.there)) (by kernel_rfl) (by kernel_rfl) (by kernel_rfl) ?_; clear KN; intro wx KN)
      refine hK.out _ _ ?qf7xk11 (fun hHeld2 => ?qf7xm11)
      case qf7xk11 => exact KN.at_ (by repeat (first | exact Has.here | refine Has.there ?_))
      clear hK K hHeld
      have hHeld := hHeld2; clear hHeld2
      (try simp only [Act.put, List.setIfInBounds_toArray, List.set_cons_zero, List.set_cons_succ])
      refine wpAnyH_done (by kernel_rfl) ?qf7xdone _
      go_wp2_with fail
      go_meet
      exact ⟨_, rfl, KN⟩
    case qfst10 =>
      (rw [if_pos (by rfl)]; refine wp_kn_alloc KN 128 rfl 5 rfl #[.int .i64 0, .string ByteArray.empty, .bool false, .int .i64 0, .int .i64 0] (by kernel_rfl) ?_; clear KN; intro g5 wx hg5 KN hb1; clear hb1)
      refine hK.out _ _ ?qf10xk10 (fun hHeld2 => ?qf10xm10)
      case qf10xk10 => exact KN.at_ (by repeat (first | exact Has.here | refine Has.there ?_))
      clear hK K hHeld
      have hHeld := hHeld2; clear hHeld2
      (try simp only [Act.put, List.setIfInBounds_toArray, List.set_cons_zero, List.set_cons_succ])
      refine wpAnyH_ready (rs := [7]) (by kernel_rfl) (by simp) ?qf10xc7
      refine AllReadyH.cons (o := ⟨some 17, _, _, _, _, _⟩) rfl (fun K hK => ?qf10xst7) AllReadyH.nil
      go_simp
      (refine (asm_token_has KN (by repeat (first | exact Has.here | refine Has.there ?_)) HT.out hd (by omega) 0 (by omega)).mono ?_; rintro e wx ⟨rfl, K2⟩; replace KN := K2; clear K2; unfold tokC; (try rw [show i + 0 = i from rfl]))
      refine hK.out _ _ ?qf10xk7 (fun hHeld2 => ?qf10xm7)
      case qf10xk7 => exact KN.at_ (by repeat (first | exact Has.here | refine Has.there ?_))
      clear hK K hHeld
      have hHeld := hHeld2; clear hHeld2
      (try simp only [Act.put, List.setIfInBounds_toArray, List.set_cons_zero, List.set_cons_succ])
      refine wpAnyH_take (i := 8) (oi := ⟨some 18, _, _, _, _, _⟩) (v := (.agg #[.int .i64 (posE el ec d i).1, .int .i64 (posE el ec d i).2])) rfl (by kernel_rfl) (by kernel_rfl) (by kernel_rfl) (fun _ _ _ h => h) (field_yields (by rfl) 45 _ 3 rfl (.agg #[.int .i64 (tk d i).kind, .string (str (tk d i).text), .int .u64 (tk d i).value, .int .i64 (posE el ec d i).1, .int .i64 (posE el ec d i).2]) _ rfl (fun w => hfld _ _ _ _ _ w)) hHeld ?qf10xr8
      (try simp only [Act.put, List.setIfInBounds_toArray, List.set_cons_zero, List.set_cons_succ])
      refine wpAnyH_take (i := 9) (oi := ⟨some 19, _, _, _, _, _⟩) (v := ?qf10xv9) rfl (by kernel_rfl) (by kernel_rfl) (by kernel_rfl) (fun _ _ _ h => h) (Or.inl ⟨by rfl, ?qf10xhy9⟩) hHeld ?qf10xr9
      case qf10xhy9 => (intro w hSw; (try dsimp only at hSw); go_simp; (try with_reducible rfl))
      (try simp only [Act.put, List.setIfInBounds_toArray, List.set_cons_zero, List.set_cons_succ])
      refine wpAnyH_ready (rs := [11]) (by kernel_rfl) (by simp) ?qf10xc11
      refine AllReadyH.cons (o := ⟨none, _, _, _, _, _⟩) rfl (fun K hK => ?qf10xst11) AllReadyH.nil
      (rw [if_pos (by rfl)]; refine wp_kn_storeW KN 128 _ _ rfl _ rfl (refC el ec d ⟨n, [], tg, i⟩).toArray rfl _ _ (by repeat (first | exact Repl.here | apply Repl.there)) (by kernel_rfl) (by kernel_rfl) (by kernel_rfl) ?_; clear KN; intro wx KN)
      refine hK.out _ _ ?qf10xk11 (fun hHeld2 => ?qf10xm11)
      case qf10xk11 => exact KN.at_ (by repeat (first | exact Has.here | refine Has.there ?_))
      clear hK K hHeld
      have hHeld := hHeld2; clear hHeld2
      (try simp only [Act.put, List.setIfInBounds_toArray, List.set_cons_zero, List.set_cons_succ])
      refine wpAnyH_done (by kernel_rfl) ?qf10xdone _
      go_wp2_with fail
      go_meet
      exact ⟨_, rfl, KN⟩
  case rest =>
    clear KN
    obtain ⟨g5, rfl, KN⟩ := hcut
    have vbd : ∀ j, 0 ≤ (tk d j).value ∧ (tk d j).value ≤ 18446744073709551615 := by
      intro j
      unfold tk
      cases hd' : d[j]? with
      | none => exact ⟨by show (0 : Int) ≤ 0; decide, by show (0 : Int) ≤ _; decide⟩
      | some t => exact hv t (List.mem_of_getElem? hd')
    have HV := Lib.hid vbd
    have hw : IntKind.i64.wrap ((i : Int) + 1) = ((i + 1 : Nat) : Int) := by rw [IntKind.wrap_i64]; omega
    have HW := Lib.hid hw
    clear hv vbd hw
    by_cases hk : (tk d i).kind = 1
    · have hk' : ((tk d i).kind == 1) = true := by rw [hk]; rfl
      have HK := Lib.hid hk
      by_cases hr : 0 ≤ regOf (tk d i).text
      · have HA := Lib.hid (aImm_w1 (n := n) (tg := tg) hk hr)
        obtain ⟨r, hre⟩ : ∃ r, r = regOf (tk d i).text := ⟨_, rfl⟩
        rw [← hre] at hr
        have HR := Lib.hid hre
        clear hre hk
        go_wp2_with (first | (go_at_call 61; refine (asm_token_has KN (by repeat (first | exact Has.here | refine Has.there ?_)) HT.out hd (by omega) 0 (by omega)).mono ?_; rintro e wx ⟨rfl, K2⟩; replace KN := K2; clear K2; rw [show i + 0 = i from rfl]; unfold tokC) | (go_at_call 64; refine (reg_any _ _).mono ?_; rintro e w' ⟨rfl, rfl⟩; rw [← HR.out]) | (go_at_call 65; refine (asm_fail_has KN (by repeat (first | exact Has.here | refine Has.there ?_)) HT.out hd (by omega) _).mono ?_; rintro e wx ⟨rfl, hb⟩) | ((with_reducible refine wpList_gate ?_); first | ((refine gate_load (by rfl) ?_); first | (refine ks_load1 KN 23 Tryd.underlying23 ?_) | (refine ks_load1 KN 3 Tryd.underlying3 ?_) | (refine ks_load1 KN 9 Tryd.underlying9 ?_) | (refine ks_load1 KN 62 Tryd.underlying62 ?_) | (refine ks_loadW KN 128 Tryd.underlying128 ?_) | (refine ks_load1 KN 42 Tryd.underlying42 ?_)) | ((refine gate_store (by rfl) ?_); first | (refine ks_storeW KN 128 ?_; clear KN; intro wx KN) | (refine ks_storeA KN 128 ?_; clear KN; intro wx KN) | (refine ks_storeW KN 45 ?_; clear KN; intro wx KN) | (refine ks_storeA KN 45 ?_; clear KN; intro wx KN) | (refine ks_store1 KN 9 ?_; clear KN; intro wx KN) | (refine ks_store1 KN 62 ?_; clear KN; intro wx KN) | (refine ks_store1 KN 3 ?_; clear KN; intro wx KN)) | ((refine gate_new (by rfl) ?_); first | (refine ks_alloc KN 128 (q := 5) #[.int .i64 0, .string ByteArray.empty, .bool false, .int .i64 0, .int .i64 0] ?_; clear KN; intro g5 wx hg5 KN) | (refine ks_alloc KN 45 (q := 6) #[.int .i64 0, .string ByteArray.empty, .int .u64 0, .int .i64 0, .int .i64 0] ?_; clear KN; intro g6 wx hg6 KN) | (refine ks_alloc KN 45 (q := 9) #[.int .i64 0, .string ByteArray.empty, .int .u64 0, .int .i64 0, .int .i64 0] ?_; clear KN; intro g9 wx hg9 KN))))
        exact ⟨rfl, ImmPost.err HA hb⟩
      · have hr : regOf (tk d i).text < 0 := by omega
        have HA := Lib.hid (aImm_w2 (n := n) (tg := tg) hk hr)
        obtain ⟨r, hre⟩ : ∃ r, r = regOf (tk d i).text := ⟨_, rfl⟩
        rw [← hre] at hr
        have HR := Lib.hid hre
        clear hre hk
        go_wp2_with (first | (go_at_call 61; refine (asm_token_has KN (by repeat (first | exact Has.here | refine Has.there ?_)) HT.out hd (by omega) 0 (by omega)).mono ?_; rintro e wx ⟨rfl, K2⟩; replace KN := K2; clear K2; rw [show i + 0 = i from rfl]; unfold tokC) | (go_at_call 64; refine (reg_any _ _).mono ?_; rintro e w' ⟨rfl, rfl⟩; rw [← HR.out]) | ((with_reducible refine wpList_gate ?_); first | ((refine gate_load (by rfl) ?_); first | (refine ks_load1 KN 23 Tryd.underlying23 ?_) | (refine ks_load1 KN 3 Tryd.underlying3 ?_) | (refine ks_load1 KN 9 Tryd.underlying9 ?_) | (refine ks_load1 KN 62 Tryd.underlying62 ?_) | (refine ks_loadW KN 128 Tryd.underlying128 ?_) | (refine ks_load1 KN 42 Tryd.underlying42 ?_)) | ((refine gate_store (by rfl) ?_); first | (refine ks_storeW KN 128 ?_; clear KN; intro wx KN) | (refine ks_storeA KN 128 ?_; clear KN; intro wx KN) | (refine ks_storeW KN 45 ?_; clear KN; intro wx KN) | (refine ks_storeA KN 45 ?_; clear KN; intro wx KN) | (refine ks_store1 KN 9 ?_; clear KN; intro wx KN) | (refine ks_store1 KN 62 ?_; clear KN; intro wx KN) | (refine ks_store1 KN 3 ?_; clear KN; intro wx KN)) | ((refine gate_new (by rfl) ?_); first | (refine ks_alloc KN 128 (q := 5) #[.int .i64 0, .string ByteArray.empty, .bool false, .int .i64 0, .int .i64 0] ?_; clear KN; intro g5 wx hg5 KN) | (refine ks_alloc KN 45 (q := 6) #[.int .i64 0, .string ByteArray.empty, .int .u64 0, .int .i64 0, .int .i64 0] ?_; clear KN; intro g6 wx hg6 KN) | (refine ks_alloc KN 45 (q := 9) #[.int .i64 0, .string ByteArray.empty, .int .u64 0, .int .i64 0, .int .i64 0] ?_; clear KN; intro g9 wx hg9 KN))))
        replace KN := KN.as_ g5 (refC el ec d ⟨n, (tk d i).text, tg, i⟩).toArray (by repeat (first | exact Repl.here | apply Repl.there)) (by rfl)
        go_frame
        go_cut [41] (fun _ wz => ImmOut W g tv tb (.slice pa n pc) mv el ec d i (refs ++ [(⟨n, (tk d i).text, tg, i⟩ : ARef)]) L wz)
        case first =>
          replace KN := KN.drew
          refine wp_region_held_drew (S := (fun w' => BlkT w' g5 (refC el ec d ⟨n, (tk d i).text, tg, i⟩).toArray 128)) (by kernel_rfl) ?qghS (fun hHeld => ?qgrest)
          case qghS => exact KN.at_ (by repeat (first | exact Has.here | refine Has.there ?_))
          refine wpAnyH_take (i := 0) (oi := ⟨some 34, _, _, _, _, _⟩) (v := ?qgv0) rfl (by kernel_rfl) (by kernel_rfl) (by kernel_rfl) (fun _ _ _ h => h) (Or.inl ⟨by rfl, ?qghy0⟩) hHeld ?qgr0
          case qghy0 => (intro w hSw; (try dsimp only at hSw); go_simp; (try with_reducible rfl))
          (try simp only [Act.put, List.setIfInBounds_toArray, List.set_cons_zero, List.set_cons_succ])
          refine wpAnyH_take (i := 1) (oi := ⟨some 35, _, _, _, _, _⟩) (v := ?qgv1) rfl (by kernel_rfl) (by kernel_rfl) (by kernel_rfl) (fun _ _ _ h => h) (Or.inl ⟨by rfl, ?qghy1⟩) hHeld ?qgr1
          case qghy1 => (intro w hSw; (try dsimp only at hSw); go_simp; (try with_reducible rfl))
          (try simp only [Act.put, List.setIfInBounds_toArray, List.set_cons_zero, List.set_cons_succ])
          refine wpAnyH_take (i := 2) (oi := ⟨some 36, _, _, _, _, _⟩) (v := ?qgv2) rfl (by kernel_rfl) (by kernel_rfl) (by kernel_rfl) (fun _ _ _ h => h) (Or.inl ⟨by rfl, ?qghy2⟩) hHeld ?qgr2
          case qghy2 => (intro w hSw; (try dsimp only at hSw); go_simp; (try with_reducible rfl))
          (try simp only [Act.put, List.setIfInBounds_toArray, List.set_cons_zero, List.set_cons_succ])
          refine wpAnyH_take (i := 3) (oi := ⟨some 37, _, _, _, _, _⟩) (v := ?qgv3) rfl (by kernel_rfl) (by kernel_rfl) (by kernel_rfl) (fun _ _ _ h => h) (Or.inl ⟨by rfl, ?qghy3⟩) hHeld ?qgr3
          case qghy3 => (intro w hSw; (try dsimp only at hSw); go_simp; (try with_reducible rfl))
          (try simp only [Act.put, List.setIfInBounds_toArray, List.set_cons_zero, List.set_cons_succ])
          refine wpAnyH_take (i := 5) (oi := ⟨some 39, _, _, _, _, _⟩) (v := (.agg (refC el ec d ⟨n, (tk d i).text, tg, i⟩).toArray)) rfl (by kernel_rfl) (by kernel_rfl) (by kernel_rfl) (fun _ _ _ h => h) (kn_yieldsN (by rfl) 128 _ rfl g5 0 rfl _ 128 (fun _ h => h) _ (extract_whole _) _ Tryd.underlying128 rfl (by kernel_rfl)) hHeld ?qgr5
          (try simp only [Act.put, List.setIfInBounds_toArray, List.set_cons_zero, List.set_cons_succ])
          refine wpAnyH_ready (rs := [4, 6]) (by kernel_rfl) (by simp) ?qgc4_6
          refine (AllReadyH.cons (o := ⟨some 38, _, _, _, _, _⟩) rfl (fun K hK => ?qgst4) (AllReadyH.cons (o := ⟨some 40, _, _, _, _, _⟩) rfl (fun K hK => ?qgst6) AllReadyH.nil))
          case qgst4 =>
            (rw [if_pos (by rfl)]; refine wp_kn_load1 KN 62 _ rfl g 7 rfl _ _ (by repeat (first | exact Has.here | refine Has.there ?_)) (.slice oa refs.length oc) rfl _ Tryd.underlying62 rfl ?_)
            refine hK.out _ _ ?qg4xk4 (fun hHeld2 => ?qg4xm4)
            case qg4xk4 => exact KN.at_ (by repeat (first | exact Has.here | refine Has.there ?_))
            clear hK K hHeld
            have hHeld := hHeld2; clear hHeld2
            (try simp only [Act.put, List.setIfInBounds_toArray, List.set_cons_zero, List.set_cons_succ])
            refine wpAnyH_ready (rs := [6]) (by kernel_rfl) (by simp) ?qg4xc6
            refine AllReadyH.cons (o := ⟨some 40, _, _, _, _, _⟩) rfl (fun K hK => ?qg4xst6) AllReadyH.nil
            (rw [if_pos (by rfl)]; refine wp_kn_lit KN 62 128 1 _ rfl 40 rfl Tryd.underlying62 (refC el ec d ⟨n, (tk d i).text, tg, i⟩).toArray (by kernel_rfl) ?_; clear KN; intro g40 wx hg40 KN)
            refine hK.out _ _ ?qg4xk6 (fun hHeld2 => ?qg4xm6)
            case qg4xk6 => exact KN.at_ (by repeat (first | exact Has.here | refine Has.there ?_))
            clear hK K hHeld
            have hHeld := hHeld2; clear hHeld2
            (try simp only [Act.put, List.setIfInBounds_toArray, List.set_cons_zero, List.set_cons_succ])
            refine wpAnyH_ready (rs := [7]) (by kernel_rfl) (by simp) ?qg4xc7
            refine AllReadyH.cons (o := ⟨some 41, _, _, _, _, _⟩) rfl (fun K hK => ?qg4xst7) AllReadyH.nil
            (rw [if_pos (by rfl)]; refine wp_kn_append1 KN HO.out _ _ 62 rfl 48 Tryd.underlying62 (by kernel_rfl) (by decide) rfl 1 rfl rfl (by kernel_rfl) (by simp [maxLen]; omega) (by simp; omega) (f := fun o => (g6, _) :: (g5, _) :: (g, _) :: (L ++ o)) (TailF.cons _ (TailF.cons _ (TailF.cons _ (TailF.app TailF.id L)))) rfl ?_; clear KN; intro v' wx ol' OW KN; obtain ⟨xa, xc, rfl⟩ := OW.form)
            refine hK.out _ _ ?qg4xk7 (fun hHeld2 => ?qg4xm7)
            case qg4xk7 => exact KN.at_ (by repeat (first | exact Has.here | refine Has.there ?_))
            clear hK K hHeld
            have hHeld := hHeld2; clear hHeld2
            (try simp only [Act.put, List.setIfInBounds_toArray, List.set_cons_zero, List.set_cons_succ])
            refine wpAnyH_take (i := 8) (oi := ⟨some 42, _, _, _, _, _⟩) (v := ?qg4xv8) rfl (by kernel_rfl) (by kernel_rfl) (by kernel_rfl) (fun _ _ _ h => h) (Or.inl ⟨by rfl, ?qg4xhy8⟩) hHeld ?qg4xr8
            case qg4xhy8 => (intro w hSw; (try dsimp only at hSw); go_simp; (try with_reducible rfl))
            (try simp only [Act.put, List.setIfInBounds_toArray, List.set_cons_zero, List.set_cons_succ])
            refine wpAnyH_take (i := 9) (oi := ⟨some 43, _, _, _, _, _⟩) (v := ?qg4xv9) rfl (by kernel_rfl) (by kernel_rfl) (by kernel_rfl) (fun _ _ _ h => h) (Or.inl ⟨by rfl, ?qg4xhy9⟩) hHeld ?qg4xr9
            case qg4xhy9 => (intro w hSw; (try dsimp only at hSw); go_simp; (try with_reducible rfl))
            (try simp only [Act.put, List.setIfInBounds_toArray, List.set_cons_zero, List.set_cons_succ])
            refine wpAnyH_ready (rs := [10]) (by kernel_rfl) (by simp) ?qg4xc10
            refine AllReadyH.cons (o := ⟨none, _, _, _, _, _⟩) rfl (fun K hK => ?qg4xst10) AllReadyH.nil
            (rw [if_pos (by rfl)]; refine wp_kn_store1 KN 62 _ _ rfl g 7 rfl _ rfl rfl _ _ (by repeat (first | exact Repl.here | apply Repl.there)) (by simp) (by kernel_rfl) (by rfl) ?_; clear KN; intro wx KN)
            refine hK.out _ _ ?qg4xk10 (fun hHeld2 => ?qg4xm10)
            case qg4xk10 => exact KN.at_ (by repeat (first | exact Has.here | refine Has.there ?_))
            clear hK K hHeld
            have hHeld := hHeld2; clear hHeld2
            (try simp only [Act.put, List.setIfInBounds_toArray, List.set_cons_zero, List.set_cons_succ])
            refine wpAnyH_done (by kernel_rfl) ?qg4xdone _
            go_wp2_with fail
            go_meet
            exact ⟨_, _, by rw [List.map_append]; exact OW, (KN.drop .here).drop .here⟩
          case qgst6 =>
            (rw [if_pos (by rfl)]; refine wp_kn_lit KN 62 128 1 _ rfl 40 rfl Tryd.underlying62 (refC el ec d ⟨n, (tk d i).text, tg, i⟩).toArray (by kernel_rfl) ?_; clear KN; intro g40 wx hg40 KN)
            refine hK.out _ _ ?qg6xk6 (fun hHeld2 => ?qg6xm6)
            case qg6xk6 => exact KN.at_ (by repeat (first | exact Has.here | refine Has.there ?_))
            clear hK K hHeld
            have hHeld := hHeld2; clear hHeld2
            (try simp only [Act.put, List.setIfInBounds_toArray, List.set_cons_zero, List.set_cons_succ])
            refine wpAnyH_ready (rs := [4]) (by kernel_rfl) (by simp) ?qg6xc4
            refine AllReadyH.cons (o := ⟨some 38, _, _, _, _, _⟩) rfl (fun K hK => ?qg6xst4) AllReadyH.nil
            (rw [if_pos (by rfl)]; refine wp_kn_load1 KN 62 _ rfl g 7 rfl _ _ (by repeat (first | exact Has.here | refine Has.there ?_)) (.slice oa refs.length oc) rfl _ Tryd.underlying62 rfl ?_)
            refine hK.out _ _ ?qg6xk4 (fun hHeld2 => ?qg6xm4)
            case qg6xk4 => exact KN.at_ (by repeat (first | exact Has.here | refine Has.there ?_))
            clear hK K hHeld
            have hHeld := hHeld2; clear hHeld2
            (try simp only [Act.put, List.setIfInBounds_toArray, List.set_cons_zero, List.set_cons_succ])
            refine wpAnyH_ready (rs := [7]) (by kernel_rfl) (by simp) ?qg6xc7
            refine AllReadyH.cons (o := ⟨some 41, _, _, _, _, _⟩) rfl (fun K hK => ?qg6xst7) AllReadyH.nil
            (rw [if_pos (by rfl)]; refine wp_kn_append1 KN HO.out _ _ 62 rfl 48 Tryd.underlying62 (by kernel_rfl) (by decide) rfl 1 rfl rfl (by kernel_rfl) (by simp [maxLen]; omega) (by simp; omega) (f := fun o => (g6, _) :: (g5, _) :: (g, _) :: (L ++ o)) (TailF.cons _ (TailF.cons _ (TailF.cons _ (TailF.app TailF.id L)))) rfl ?_; clear KN; intro v' wx ol' OW KN; obtain ⟨xa, xc, rfl⟩ := OW.form)
            refine hK.out _ _ ?qg6xk7 (fun hHeld2 => ?qg6xm7)
            case qg6xk7 => exact KN.at_ (by repeat (first | exact Has.here | refine Has.there ?_))
            clear hK K hHeld
            have hHeld := hHeld2; clear hHeld2
            (try simp only [Act.put, List.setIfInBounds_toArray, List.set_cons_zero, List.set_cons_succ])
            refine wpAnyH_take (i := 8) (oi := ⟨some 42, _, _, _, _, _⟩) (v := ?qg6xv8) rfl (by kernel_rfl) (by kernel_rfl) (by kernel_rfl) (fun _ _ _ h => h) (Or.inl ⟨by rfl, ?qg6xhy8⟩) hHeld ?qg6xr8
            case qg6xhy8 => (intro w hSw; (try dsimp only at hSw); go_simp; (try with_reducible rfl))
            (try simp only [Act.put, List.setIfInBounds_toArray, List.set_cons_zero, List.set_cons_succ])
            refine wpAnyH_take (i := 9) (oi := ⟨some 43, _, _, _, _, _⟩) (v := ?qg6xv9) rfl (by kernel_rfl) (by kernel_rfl) (by kernel_rfl) (fun _ _ _ h => h) (Or.inl ⟨by rfl, ?qg6xhy9⟩) hHeld ?qg6xr9
            case qg6xhy9 => (intro w hSw; (try dsimp only at hSw); go_simp; (try with_reducible rfl))
            (try simp only [Act.put, List.setIfInBounds_toArray, List.set_cons_zero, List.set_cons_succ])
            refine wpAnyH_ready (rs := [10]) (by kernel_rfl) (by simp) ?qg6xc10
            refine AllReadyH.cons (o := ⟨none, _, _, _, _, _⟩) rfl (fun K hK => ?qg6xst10) AllReadyH.nil
            (rw [if_pos (by rfl)]; refine wp_kn_store1 KN 62 _ _ rfl g 7 rfl _ rfl rfl _ _ (by repeat (first | exact Repl.here | apply Repl.there)) (by simp) (by kernel_rfl) (by rfl) ?_; clear KN; intro wx KN)
            refine hK.out _ _ ?qg6xk10 (fun hHeld2 => ?qg6xm10)
            case qg6xk10 => exact KN.at_ (by repeat (first | exact Has.here | refine Has.there ?_))
            clear hK K hHeld
            have hHeld := hHeld2; clear hHeld2
            (try simp only [Act.put, List.setIfInBounds_toArray, List.set_cons_zero, List.set_cons_succ])
            refine wpAnyH_done (by kernel_rfl) ?qg6xdone _
            go_wp2_with fail
            go_meet
            exact ⟨_, _, by rw [List.map_append]; exact OW, (KN.drop .here).drop .here⟩
        case rest =>
          clear KN
          obtain ⟨ov', ol', OW, KN⟩ := hcut
          go_wp2_with (first | ((with_reducible refine wpList_gate ?_); first | ((refine gate_load (by rfl) ?_); first | (refine ks_load1 KN 23 Tryd.underlying23 ?_) | (refine ks_load1 KN 3 Tryd.underlying3 ?_) | (refine ks_load1 KN 9 Tryd.underlying9 ?_) | (refine ks_load1 KN 62 Tryd.underlying62 ?_) | (refine ks_loadW KN 128 Tryd.underlying128 ?_) | (refine ks_load1 KN 42 Tryd.underlying42 ?_)) | ((refine gate_store (by rfl) ?_); first | (refine ks_storeW KN 128 ?_; clear KN; intro wx KN) | (refine ks_storeA KN 128 ?_; clear KN; intro wx KN) | (refine ks_storeW KN 45 ?_; clear KN; intro wx KN) | (refine ks_storeA KN 45 ?_; clear KN; intro wx KN) | (refine ks_store1 KN 9 ?_; clear KN; intro wx KN) | (refine ks_store1 KN 62 ?_; clear KN; intro wx KN) | (refine ks_store1 KN 3 ?_; clear KN; intro wx KN)) | ((refine gate_new (by rfl) ?_); first | (refine ks_alloc KN 128 (q := 5) #[.int .i64 0, .string ByteArray.empty, .bool false, .int .i64 0, .int .i64 0] ?_; clear KN; intro g5 wx hg5 KN) | (refine ks_alloc KN 45 (q := 6) #[.int .i64 0, .string ByteArray.empty, .int .u64 0, .int .i64 0, .int .i64 0] ?_; clear KN; intro g6 wx hg6 KN) | (refine ks_alloc KN 45 (q := 9) #[.int .i64 0, .string ByteArray.empty, .int .u64 0, .int .i64 0, .int .i64 0] ?_; clear KN; intro g9 wx hg9 KN))))
          go_ret
          exact ImmPost.ok HA ⟨ov', ol', OW, KN⟩
    · have hk' : ((tk d i).kind == 1) = false := by rw [beq_eq_false_iff_ne]; exact hk
      rcases Bool.eq_false_or_eq_true (!tg && isP d i [45]) with hm | hm
      · have htg : tg = false := by cases tg <;> simp_all
        have hmi : isP d i [45] = true := by subst htg; simpa using hm
        have HM := Lib.hid hmi
        have hw1 : IntKind.i64.wrap ((i : Int) + 1 + 1) = ((i + 2 : Nat) : Int) := by rw [IntKind.wrap_i64]; omega
        have HW1 := Lib.hid hw1
        have hvb := HV.out (i + 1)
        by_cases h2 : (tk d (i + 1)).kind = 2
        · by_cases hv : 2147483648 < (tk d (i + 1)).value
          · have HA := Lib.hid (aImm_m2 (n := n) (tg := tg) hk hm h2 hv)
            have h2' : ((tk d (i + 1)).kind != 2) = false := by rw [h2]; rfl
            subst htg
            clear hk hm hmi h2 hvb hw1
            go_wp2_with (first | (go_at_call 61; refine (asm_token_has KN (by repeat (first | exact Has.here | refine Has.there ?_)) HT.out hd (by omega) 0 (by omega)).mono ?_; rintro e wx ⟨rfl, K2⟩; replace KN := K2; clear K2; (first | rw [show i + 0 = i from rfl] | rw [show i + 1 + 0 = i + 1 from rfl]); unfold tokC) | (go_at_call 65; refine (asm_fail_has KN (by repeat (first | exact Has.here | refine Has.there ?_)) HT.out hd (by omega) _).mono ?_; rintro e wx ⟨rfl, hb⟩) | (go_at_call 62; refine (asm_is_has KN (by repeat (first | exact Has.here | refine Has.there ?_)) HT.out hd (by omega) 0 (by omega) [45]).mono ?_; rintro e wx ⟨rfl, K2⟩; replace KN := K2; clear K2; rw [show i + 0 = i from rfl, HM.out]) | ((with_reducible refine wpList_gate ?_); first | ((refine gate_load (by rfl) ?_); first | (refine ks_load1 KN 23 Tryd.underlying23 ?_) | (refine ks_load1 KN 3 Tryd.underlying3 ?_) | (refine ks_load1 KN 9 Tryd.underlying9 ?_) | (refine ks_load1 KN 62 Tryd.underlying62 ?_) | (refine ks_loadW KN 128 Tryd.underlying128 ?_) | (refine ks_load1 KN 42 Tryd.underlying42 ?_)) | ((refine gate_store (by rfl) ?_); first | (refine wpList_kn_store1 KN (by rfl) 3 _ (.tmp 62) rfl g 1 rfl (.int .i64 ((i : Int) + 1)) rfl rfl _ _ (by repeat (first | exact Repl.here | apply Repl.there)) (by simp) (by kernel_rfl) (by rfl) ?_; clear KN; intro wx KN; replace KN := KN.as_ g (asmC tv (i + 1) el ec tb (.slice pa n pc) mv (.slice oa refs.length oc)) (by repeat (first | exact Repl.here | apply Repl.there)) (by rfl)) | (refine ks_storeW KN 128 ?_; clear KN; intro wx KN) | (refine ks_storeA KN 128 ?_; clear KN; intro wx KN) | (refine ks_storeW KN 45 ?_; clear KN; intro wx KN) | (refine ks_storeA KN 45 ?_; clear KN; intro wx KN) | (refine ks_store1 KN 9 ?_; clear KN; intro wx KN) | (refine ks_store1 KN 62 ?_; clear KN; intro wx KN) | (refine ks_store1 KN 3 ?_; clear KN; intro wx KN)) | ((refine gate_new (by rfl) ?_); first | (refine ks_alloc KN 128 (q := 5) #[.int .i64 0, .string ByteArray.empty, .bool false, .int .i64 0, .int .i64 0] ?_; clear KN; intro g5 wx hg5 KN) | (refine ks_alloc KN 45 (q := 6) #[.int .i64 0, .string ByteArray.empty, .int .u64 0, .int .i64 0, .int .i64 0] ?_; clear KN; intro g6 wx hg6 KN) | (refine ks_alloc KN 45 (q := 9) #[.int .i64 0, .string ByteArray.empty, .int .u64 0, .int .i64 0, .int .i64 0] ?_; clear KN; intro g9 wx hg9 KN))))
            exact ⟨rfl, ImmPost.err HA hb⟩
          · have HA := Lib.hid (aImm_m3 (n := n) (tg := tg) hk hm h2 hv)
            have h2' : ((tk d (i + 1)).kind != 2) = false := by rw [h2]; rfl
            obtain ⟨x, hx⟩ : ∃ x, x = (tk d (i + 1)).value := ⟨_, rfl⟩
            rw [← hx] at hv hvb
            have w1 : IntKind.i64.wrap x = x := by rw [IntKind.wrap_i64]; omega
            have w2 : IntKind.i64.wrap (-x) = -x := by rw [IntKind.wrap_i64]; omega
            have w3 : IntKind.i32.wrap (-x) = -x := by rw [IntKind.wrap_i32]; omega
            have HX := Lib.hid hx
            subst htg
            clear hk hm hmi h2 hvb hw1 hx
            go_wp2_with (first | (go_at_call 61; refine (asm_token_has KN (by repeat (first | exact Has.here | refine Has.there ?_)) HT.out hd (by omega) 0 (by omega)).mono ?_; rintro e wx ⟨rfl, K2⟩; replace KN := K2; clear K2; (first | rw [show i + 0 = i from rfl] | rw [show i + 1 + 0 = i + 1 from rfl]); unfold tokC; (try rw [← HX.out])) | (go_at_call 65; refine (asm_fail_has KN (by repeat (first | exact Has.here | refine Has.there ?_)) HT.out hd (by omega) _).mono ?_; rintro e wx ⟨rfl, hb⟩) | (go_at_call 62; refine (asm_is_has KN (by repeat (first | exact Has.here | refine Has.there ?_)) HT.out hd (by omega) 0 (by omega) [45]).mono ?_; rintro e wx ⟨rfl, K2⟩; replace KN := K2; clear K2; rw [show i + 0 = i from rfl, HM.out]) | ((with_reducible refine wpList_gate ?_); first | ((refine gate_load (by rfl) ?_); first | (refine ks_load1 KN 23 Tryd.underlying23 ?_) | (refine ks_load1 KN 3 Tryd.underlying3 ?_) | (refine ks_load1 KN 9 Tryd.underlying9 ?_) | (refine ks_load1 KN 62 Tryd.underlying62 ?_) | (refine ks_loadW KN 128 Tryd.underlying128 ?_) | (refine ks_load1 KN 42 Tryd.underlying42 ?_)) | ((refine gate_store (by rfl) ?_); first | (refine wpList_kn_store1 KN (by rfl) 3 _ (.tmp 62) rfl g 1 rfl (.int .i64 ((i : Int) + 1)) rfl rfl _ _ (by repeat (first | exact Repl.here | apply Repl.there)) (by simp) (by kernel_rfl) (by rfl) ?_; clear KN; intro wx KN; replace KN := KN.as_ g (asmC tv (i + 1) el ec tb (.slice pa n pc) mv (.slice oa refs.length oc)) (by repeat (first | exact Repl.here | apply Repl.there)) (by rfl)) | (refine ks_storeW KN 128 ?_; clear KN; intro wx KN) | (refine ks_storeA KN 128 ?_; clear KN; intro wx KN) | (refine ks_storeW KN 45 ?_; clear KN; intro wx KN) | (refine ks_storeA KN 45 ?_; clear KN; intro wx KN) | (refine ks_store1 KN 9 ?_; clear KN; intro wx KN) | (refine ks_store1 KN 62 ?_; clear KN; intro wx KN) | (refine ks_store1 KN 3 ?_; clear KN; intro wx KN)) | ((refine gate_new (by rfl) ?_); first | (refine ks_alloc KN 128 (q := 5) #[.int .i64 0, .string ByteArray.empty, .bool false, .int .i64 0, .int .i64 0] ?_; clear KN; intro g5 wx hg5 KN) | (refine ks_alloc KN 45 (q := 6) #[.int .i64 0, .string ByteArray.empty, .int .u64 0, .int .i64 0, .int .i64 0] ?_; clear KN; intro g6 wx hg6 KN) | (refine ks_alloc KN 45 (q := 9) #[.int .i64 0, .string ByteArray.empty, .int .u64 0, .int .i64 0, .int .i64 0] ?_; clear KN; intro g9 wx hg9 KN))))
            go_ret
            rw [← HX.out] at HA
            exact ImmPost.ok HA ⟨_, _, OwnT.nilapp_map HO.out, ((KN.drop .here).drop .here).drop .here⟩
        · have HA := Lib.hid (aImm_m1 (n := n) (tg := tg) hk hm h2)
          have h2' : ((tk d (i + 1)).kind != 2) = true := by rw [bne_iff_ne]; exact h2
          subst htg
          clear hk hm hmi h2 hvb hw1
          go_wp2_with (first | (go_at_call 61; refine (asm_token_has KN (by repeat (first | exact Has.here | refine Has.there ?_)) HT.out hd (by omega) 0 (by omega)).mono ?_; rintro e wx ⟨rfl, K2⟩; replace KN := K2; clear K2; (first | rw [show i + 0 = i from rfl] | rw [show i + 1 + 0 = i + 1 from rfl]); unfold tokC) | (go_at_call 65; refine (asm_fail_has KN (by repeat (first | exact Has.here | refine Has.there ?_)) HT.out hd (by omega) _).mono ?_; rintro e wx ⟨rfl, hb⟩) | (go_at_call 62; refine (asm_is_has KN (by repeat (first | exact Has.here | refine Has.there ?_)) HT.out hd (by omega) 0 (by omega) [45]).mono ?_; rintro e wx ⟨rfl, K2⟩; replace KN := K2; clear K2; rw [show i + 0 = i from rfl, HM.out]) | ((with_reducible refine wpList_gate ?_); first | ((refine gate_load (by rfl) ?_); first | (refine ks_load1 KN 23 Tryd.underlying23 ?_) | (refine ks_load1 KN 3 Tryd.underlying3 ?_) | (refine ks_load1 KN 9 Tryd.underlying9 ?_) | (refine ks_load1 KN 62 Tryd.underlying62 ?_) | (refine ks_loadW KN 128 Tryd.underlying128 ?_) | (refine ks_load1 KN 42 Tryd.underlying42 ?_)) | ((refine gate_store (by rfl) ?_); first | (refine wpList_kn_store1 KN (by rfl) 3 _ (.tmp 62) rfl g 1 rfl (.int .i64 ((i : Int) + 1)) rfl rfl _ _ (by repeat (first | exact Repl.here | apply Repl.there)) (by simp) (by kernel_rfl) (by rfl) ?_; clear KN; intro wx KN; replace KN := KN.as_ g (asmC tv (i + 1) el ec tb (.slice pa n pc) mv (.slice oa refs.length oc)) (by repeat (first | exact Repl.here | apply Repl.there)) (by rfl)) | (refine ks_storeW KN 128 ?_; clear KN; intro wx KN) | (refine ks_storeA KN 128 ?_; clear KN; intro wx KN) | (refine ks_storeW KN 45 ?_; clear KN; intro wx KN) | (refine ks_storeA KN 45 ?_; clear KN; intro wx KN) | (refine ks_store1 KN 9 ?_; clear KN; intro wx KN) | (refine ks_store1 KN 62 ?_; clear KN; intro wx KN) | (refine ks_store1 KN 3 ?_; clear KN; intro wx KN)) | ((refine gate_new (by rfl) ?_); first | (refine ks_alloc KN 128 (q := 5) #[.int .i64 0, .string ByteArray.empty, .bool false, .int .i64 0, .int .i64 0] ?_; clear KN; intro g5 wx hg5 KN) | (refine ks_alloc KN 45 (q := 6) #[.int .i64 0, .string ByteArray.empty, .int .u64 0, .int .i64 0, .int .i64 0] ?_; clear KN; intro g6 wx hg6 KN) | (refine ks_alloc KN 45 (q := 9) #[.int .i64 0, .string ByteArray.empty, .int .u64 0, .int .i64 0, .int .i64 0] ?_; clear KN; intro g9 wx hg9 KN))))
          exact ⟨rfl, ImmPost.err HA hb⟩
      · have hvb := HV.out i
        cases tg with
        | true =>
          by_cases h2 : (tk d i).kind = 2
          · obtain ⟨x, hx⟩ : ∃ x, x = (tk d i).value := ⟨_, rfl⟩
            have HX := Lib.hid hx
            by_cases hv : 2147483647 < x
            · have HA := Lib.hid (aImm_p2 (n := n) (tg := true) hk hm h2 (by rw [← hx]; exact hv))
              have h2' : ((tk d i).kind != 2) = false := by rw [h2]; rfl
              clear hk hm h2 hvb hx
              go_wp2_with (first | (go_at_call 61; refine (asm_token_has KN (by repeat (first | exact Has.here | refine Has.there ?_)) HT.out hd (by omega) 0 (by omega)).mono ?_; rintro e wx ⟨rfl, K2⟩; replace KN := K2; clear K2; rw [show i + 0 = i from rfl]; unfold tokC; (try rw [← HX.out])) | (go_at_call 65; refine (asm_fail_has KN (by repeat (first | exact Has.here | refine Has.there ?_)) HT.out hd (by omega) _).mono ?_; rintro e wx ⟨rfl, hb⟩) | (go_at_call 62; refine (asm_is_has KN (by repeat (first | exact Has.here | refine Has.there ?_)) HT.out hd (by omega) 0 (by omega) [45]).mono ?_; rintro e wx ⟨rfl, K2⟩; replace KN := K2; clear K2; rw [show i + 0 = i from rfl, HM.out]) | ((with_reducible refine wpList_gate ?_); first | ((refine gate_load (by rfl) ?_); first | (refine ks_load1 KN 23 Tryd.underlying23 ?_) | (refine ks_load1 KN 3 Tryd.underlying3 ?_) | (refine ks_load1 KN 9 Tryd.underlying9 ?_) | (refine ks_load1 KN 62 Tryd.underlying62 ?_) | (refine ks_loadW KN 128 Tryd.underlying128 ?_) | (refine ks_load1 KN 42 Tryd.underlying42 ?_)) | ((refine gate_store (by rfl) ?_); first | (refine wpList_kn_store1 KN (by rfl) 3 _ (.tmp 84) rfl g 1 rfl (.int .i64 ((i : Int) + 1)) rfl rfl _ _ (by repeat (first | exact Repl.here | apply Repl.there)) (by simp) (by kernel_rfl) (by rfl) ?_; clear KN; intro wx KN; replace KN := KN.as_ g (asmC tv (i + 1) el ec tb (.slice pa n pc) mv (.slice oa refs.length oc)) (by repeat (first | exact Repl.here | apply Repl.there)) (by rfl)) | (refine ks_storeW KN 128 ?_; clear KN; intro wx KN) | (refine ks_storeA KN 128 ?_; clear KN; intro wx KN) | (refine ks_storeW KN 45 ?_; clear KN; intro wx KN) | (refine ks_storeA KN 45 ?_; clear KN; intro wx KN) | (refine ks_store1 KN 9 ?_; clear KN; intro wx KN) | (refine ks_store1 KN 62 ?_; clear KN; intro wx KN) | (refine ks_store1 KN 3 ?_; clear KN; intro wx KN)) | ((refine gate_new (by rfl) ?_); first | (refine ks_alloc KN 128 (q := 5) #[.int .i64 0, .string ByteArray.empty, .bool false, .int .i64 0, .int .i64 0] ?_; clear KN; intro g5 wx hg5 KN) | (refine ks_alloc KN 45 (q := 6) #[.int .i64 0, .string ByteArray.empty, .int .u64 0, .int .i64 0, .int .i64 0] ?_; clear KN; intro g6 wx hg6 KN) | (refine ks_alloc KN 45 (q := 9) #[.int .i64 0, .string ByteArray.empty, .int .u64 0, .int .i64 0, .int .i64 0] ?_; clear KN; intro g9 wx hg9 KN))))
              exact ⟨rfl, ImmPost.err HA hb⟩
            · have HA := Lib.hid (aImm_p3 (n := n) (tg := true) hk hm h2 (by rw [← hx]; exact hv))
              have h2' : ((tk d i).kind != 2) = false := by rw [h2]; rfl
              rw [← hx] at hvb
              have w3 : IntKind.i32.wrap x = x := by rw [IntKind.wrap_i32]; omega
              clear hk hm h2 hvb hx
              go_wp2_with (first | (go_at_call 61; refine (asm_token_has KN (by repeat (first | exact Has.here | refine Has.there ?_)) HT.out hd (by omega) 0 (by omega)).mono ?_; rintro e wx ⟨rfl, K2⟩; replace KN := K2; clear K2; rw [show i + 0 = i from rfl]; unfold tokC; (try rw [← HX.out])) | (go_at_call 65; refine (asm_fail_has KN (by repeat (first | exact Has.here | refine Has.there ?_)) HT.out hd (by omega) _).mono ?_; rintro e wx ⟨rfl, hb⟩) | (go_at_call 62; refine (asm_is_has KN (by repeat (first | exact Has.here | refine Has.there ?_)) HT.out hd (by omega) 0 (by omega) [45]).mono ?_; rintro e wx ⟨rfl, K2⟩; replace KN := K2; clear K2; rw [show i + 0 = i from rfl, HM.out]) | ((with_reducible refine wpList_gate ?_); first | ((refine gate_load (by rfl) ?_); first | (refine ks_load1 KN 23 Tryd.underlying23 ?_) | (refine ks_load1 KN 3 Tryd.underlying3 ?_) | (refine ks_load1 KN 9 Tryd.underlying9 ?_) | (refine ks_load1 KN 62 Tryd.underlying62 ?_) | (refine ks_loadW KN 128 Tryd.underlying128 ?_) | (refine ks_load1 KN 42 Tryd.underlying42 ?_)) | ((refine gate_store (by rfl) ?_); first | (refine wpList_kn_store1 KN (by rfl) 3 _ (.tmp 84) rfl g 1 rfl (.int .i64 ((i : Int) + 1)) rfl rfl _ _ (by repeat (first | exact Repl.here | apply Repl.there)) (by simp) (by kernel_rfl) (by rfl) ?_; clear KN; intro wx KN; replace KN := KN.as_ g (asmC tv (i + 1) el ec tb (.slice pa n pc) mv (.slice oa refs.length oc)) (by repeat (first | exact Repl.here | apply Repl.there)) (by rfl)) | (refine ks_storeW KN 128 ?_; clear KN; intro wx KN) | (refine ks_storeA KN 128 ?_; clear KN; intro wx KN) | (refine ks_storeW KN 45 ?_; clear KN; intro wx KN) | (refine ks_storeA KN 45 ?_; clear KN; intro wx KN) | (refine ks_store1 KN 9 ?_; clear KN; intro wx KN) | (refine ks_store1 KN 62 ?_; clear KN; intro wx KN) | (refine ks_store1 KN 3 ?_; clear KN; intro wx KN)) | ((refine gate_new (by rfl) ?_); first | (refine ks_alloc KN 128 (q := 5) #[.int .i64 0, .string ByteArray.empty, .bool false, .int .i64 0, .int .i64 0] ?_; clear KN; intro g5 wx hg5 KN) | (refine ks_alloc KN 45 (q := 6) #[.int .i64 0, .string ByteArray.empty, .int .u64 0, .int .i64 0, .int .i64 0] ?_; clear KN; intro g6 wx hg6 KN) | (refine ks_alloc KN 45 (q := 9) #[.int .i64 0, .string ByteArray.empty, .int .u64 0, .int .i64 0, .int .i64 0] ?_; clear KN; intro g9 wx hg9 KN))))
              (try go_frame)
              go_cut [95] (fun _ wz => ImmMid W g g9 #[.int .i64 (tk d i).kind, .string (str (tk d i).text), .int .u64 x, .int .i64 (posE el ec d i).1, .int .i64 (posE el ec d i).2] tv tb (.slice pa n pc) mv el ec d (i + 1) (refs ++ [(⟨n, [], true, i⟩ : ARef)]) L wz)
              case first =>
                replace KN := KN.drew
                refine wp_region_held_drew (S := (fun w' => BlkT w' g5 (refC el ec d ⟨n, [], true, i⟩).toArray 128)) (by kernel_rfl) ?qhhS (fun hHeld => ?qhrest)
                case qhhS => exact KN.at_ (by repeat (first | exact Has.here | refine Has.there ?_))
                refine wpAnyH_take (i := 0) (oi := ⟨some 88, _, _, _, _, _⟩) (v := ?qhv0) rfl (by kernel_rfl) (by kernel_rfl) (by kernel_rfl) (fun _ _ _ h => h) (Or.inl ⟨by rfl, ?qhhy0⟩) hHeld ?qhr0
                case qhhy0 => (intro w hSw; (try dsimp only at hSw); go_simp; (try with_reducible rfl))
                (try simp only [Act.put, List.setIfInBounds_toArray, List.set_cons_zero, List.set_cons_succ])
                refine wpAnyH_take (i := 1) (oi := ⟨some 89, _, _, _, _, _⟩) (v := ?qhv1) rfl (by kernel_rfl) (by kernel_rfl) (by kernel_rfl) (fun _ _ _ h => h) (Or.inl ⟨by rfl, ?qhhy1⟩) hHeld ?qhr1
                case qhhy1 => (intro w hSw; (try dsimp only at hSw); go_simp; (try with_reducible rfl))
                (try simp only [Act.put, List.setIfInBounds_toArray, List.set_cons_zero, List.set_cons_succ])
                refine wpAnyH_take (i := 2) (oi := ⟨some 90, _, _, _, _, _⟩) (v := ?qhv2) rfl (by kernel_rfl) (by kernel_rfl) (by kernel_rfl) (fun _ _ _ h => h) (Or.inl ⟨by rfl, ?qhhy2⟩) hHeld ?qhr2
                case qhhy2 => (intro w hSw; (try dsimp only at hSw); go_simp; (try with_reducible rfl))
                (try simp only [Act.put, List.setIfInBounds_toArray, List.set_cons_zero, List.set_cons_succ])
                refine wpAnyH_take (i := 3) (oi := ⟨some 91, _, _, _, _, _⟩) (v := ?qhv3) rfl (by kernel_rfl) (by kernel_rfl) (by kernel_rfl) (fun _ _ _ h => h) (Or.inl ⟨by rfl, ?qhhy3⟩) hHeld ?qhr3
                case qhhy3 => (intro w hSw; (try dsimp only at hSw); go_simp; (try with_reducible rfl))
                (try simp only [Act.put, List.setIfInBounds_toArray, List.set_cons_zero, List.set_cons_succ])
                refine wpAnyH_take (i := 5) (oi := ⟨some 93, _, _, _, _, _⟩) (v := (.agg (refC el ec d ⟨n, [], true, i⟩).toArray)) rfl (by kernel_rfl) (by kernel_rfl) (by kernel_rfl) (fun _ _ _ h => h) (kn_yieldsN (by rfl) 128 _ rfl g5 0 rfl _ 128 (fun _ h => h) _ (extract_whole _) _ Tryd.underlying128 rfl (by kernel_rfl)) hHeld ?qhr5
                (try simp only [Act.put, List.setIfInBounds_toArray, List.set_cons_zero, List.set_cons_succ])
                refine wpAnyH_ready (rs := [4, 6]) (by kernel_rfl) (by simp) ?qhc4_6
                refine (AllReadyH.cons (o := ⟨some 92, _, _, _, _, _⟩) rfl (fun K hK => ?qhst4) (AllReadyH.cons (o := ⟨some 94, _, _, _, _, _⟩) rfl (fun K hK => ?qhst6) AllReadyH.nil))
                case qhst4 =>
                  (rw [if_pos (by rfl)]; refine wp_kn_load1 KN 62 _ rfl g 7 rfl _ _ (by repeat (first | exact Has.here | refine Has.there ?_)) (.slice oa refs.length oc) rfl _ Tryd.underlying62 rfl ?_)
                  refine hK.out _ _ ?qh4xk4 (fun hHeld2 => ?qh4xm4)
                  case qh4xk4 => exact KN.at_ (by repeat (first | exact Has.here | refine Has.there ?_))
                  clear hK K hHeld
                  have hHeld := hHeld2; clear hHeld2
                  (try simp only [Act.put, List.setIfInBounds_toArray, List.set_cons_zero, List.set_cons_succ])
                  refine wpAnyH_ready (rs := [6]) (by kernel_rfl) (by simp) ?qh4xc6
                  refine AllReadyH.cons (o := ⟨some 94, _, _, _, _, _⟩) rfl (fun K hK => ?qh4xst6) AllReadyH.nil
                  (rw [if_pos (by rfl)]; refine wp_kn_lit KN 62 128 1 _ rfl 94 rfl Tryd.underlying62 (refC el ec d ⟨n, [], true, i⟩).toArray (by kernel_rfl) ?_; clear KN; intro g94 wx hg94 KN)
                  refine hK.out _ _ ?qh4xk6 (fun hHeld2 => ?qh4xm6)
                  case qh4xk6 => exact KN.at_ (by repeat (first | exact Has.here | refine Has.there ?_))
                  clear hK K hHeld
                  have hHeld := hHeld2; clear hHeld2
                  (try simp only [Act.put, List.setIfInBounds_toArray, List.set_cons_zero, List.set_cons_succ])
                  refine wpAnyH_ready (rs := [7]) (by kernel_rfl) (by simp) ?qh4xc7
                  refine AllReadyH.cons (o := ⟨some 95, _, _, _, _, _⟩) rfl (fun K hK => ?qh4xst7) AllReadyH.nil
                  (rw [if_pos (by rfl)]; refine wp_kn_append1 KN HO.out _ _ 62 rfl 48 Tryd.underlying62 (by kernel_rfl) (by decide) rfl 1 rfl rfl (by kernel_rfl) (by simp [maxLen]; omega) (by simp; omega) (f := fun o => (g9, _) :: (g6, _) :: (g5, _) :: (g, _) :: (L ++ o)) (TailF.cons _ (TailF.cons _ (TailF.cons _ (TailF.cons _ (TailF.app TailF.id L))))) rfl ?_; clear KN; intro v' wx ol' OW KN; obtain ⟨xa, xc, rfl⟩ := OW.form)
                  refine hK.out _ _ ?qh4xk7 (fun hHeld2 => ?qh4xm7)
                  case qh4xk7 => exact KN.at_ (by repeat (first | exact Has.here | refine Has.there ?_))
                  clear hK K hHeld
                  have hHeld := hHeld2; clear hHeld2
                  (try simp only [Act.put, List.setIfInBounds_toArray, List.set_cons_zero, List.set_cons_succ])
                  refine wpAnyH_take (i := 8) (oi := ⟨some 96, _, _, _, _, _⟩) (v := ?qh4xv8) rfl (by kernel_rfl) (by kernel_rfl) (by kernel_rfl) (fun _ _ _ h => h) (Or.inl ⟨by rfl, ?qh4xhy8⟩) hHeld ?qh4xr8
                  case qh4xhy8 => (intro w hSw; (try dsimp only at hSw); go_simp; (try with_reducible rfl))
                  (try simp only [Act.put, List.setIfInBounds_toArray, List.set_cons_zero, List.set_cons_succ])
                  refine wpAnyH_take (i := 9) (oi := ⟨some 97, _, _, _, _, _⟩) (v := ?qh4xv9) rfl (by kernel_rfl) (by kernel_rfl) (by kernel_rfl) (fun _ _ _ h => h) (Or.inl ⟨by rfl, ?qh4xhy9⟩) hHeld ?qh4xr9
                  case qh4xhy9 => (intro w hSw; (try dsimp only at hSw); go_simp; (try with_reducible rfl))
                  (try simp only [Act.put, List.setIfInBounds_toArray, List.set_cons_zero, List.set_cons_succ])
                  refine wpAnyH_ready (rs := [10]) (by kernel_rfl) (by simp) ?qh4xc10
                  refine AllReadyH.cons (o := ⟨none, _, _, _, _, _⟩) rfl (fun K hK => ?qh4xst10) AllReadyH.nil
                  (rw [if_pos (by rfl)]; refine wp_kn_store1 KN 62 _ _ rfl g 7 rfl _ rfl rfl _ _ (by repeat (first | exact Repl.here | apply Repl.there)) (by simp) (by kernel_rfl) (by rfl) ?_; clear KN; intro wx KN)
                  refine hK.out _ _ ?qh4xk10 (fun hHeld2 => ?qh4xm10)
                  case qh4xk10 => exact KN.at_ (by repeat (first | exact Has.here | refine Has.there ?_))
                  clear hK K hHeld
                  have hHeld := hHeld2; clear hHeld2
                  (try simp only [Act.put, List.setIfInBounds_toArray, List.set_cons_zero, List.set_cons_succ])
                  refine wpAnyH_done (by kernel_rfl) ?qh4xdone _
                  go_wp2_with fail
                  go_meet
                  exact ⟨_, _, by rw [List.map_append]; exact OW, (KN.drop (.there .here)).drop (.there .here)⟩
                case qhst6 =>
                  (rw [if_pos (by rfl)]; refine wp_kn_lit KN 62 128 1 _ rfl 94 rfl Tryd.underlying62 (refC el ec d ⟨n, [], true, i⟩).toArray (by kernel_rfl) ?_; clear KN; intro g94 wx hg94 KN)
                  refine hK.out _ _ ?qh6xk6 (fun hHeld2 => ?qh6xm6)
                  case qh6xk6 => exact KN.at_ (by repeat (first | exact Has.here | refine Has.there ?_))
                  clear hK K hHeld
                  have hHeld := hHeld2; clear hHeld2
                  (try simp only [Act.put, List.setIfInBounds_toArray, List.set_cons_zero, List.set_cons_succ])
                  refine wpAnyH_ready (rs := [4]) (by kernel_rfl) (by simp) ?qh6xc4
                  refine AllReadyH.cons (o := ⟨some 92, _, _, _, _, _⟩) rfl (fun K hK => ?qh6xst4) AllReadyH.nil
                  (rw [if_pos (by rfl)]; refine wp_kn_load1 KN 62 _ rfl g 7 rfl _ _ (by repeat (first | exact Has.here | refine Has.there ?_)) (.slice oa refs.length oc) rfl _ Tryd.underlying62 rfl ?_)
                  refine hK.out _ _ ?qh6xk4 (fun hHeld2 => ?qh6xm4)
                  case qh6xk4 => exact KN.at_ (by repeat (first | exact Has.here | refine Has.there ?_))
                  clear hK K hHeld
                  have hHeld := hHeld2; clear hHeld2
                  (try simp only [Act.put, List.setIfInBounds_toArray, List.set_cons_zero, List.set_cons_succ])
                  refine wpAnyH_ready (rs := [7]) (by kernel_rfl) (by simp) ?qh6xc7
                  refine AllReadyH.cons (o := ⟨some 95, _, _, _, _, _⟩) rfl (fun K hK => ?qh6xst7) AllReadyH.nil
                  (rw [if_pos (by rfl)]; refine wp_kn_append1 KN HO.out _ _ 62 rfl 48 Tryd.underlying62 (by kernel_rfl) (by decide) rfl 1 rfl rfl (by kernel_rfl) (by simp [maxLen]; omega) (by simp; omega) (f := fun o => (g9, _) :: (g6, _) :: (g5, _) :: (g, _) :: (L ++ o)) (TailF.cons _ (TailF.cons _ (TailF.cons _ (TailF.cons _ (TailF.app TailF.id L))))) rfl ?_; clear KN; intro v' wx ol' OW KN; obtain ⟨xa, xc, rfl⟩ := OW.form)
                  refine hK.out _ _ ?qh6xk7 (fun hHeld2 => ?qh6xm7)
                  case qh6xk7 => exact KN.at_ (by repeat (first | exact Has.here | refine Has.there ?_))
                  clear hK K hHeld
                  have hHeld := hHeld2; clear hHeld2
                  (try simp only [Act.put, List.setIfInBounds_toArray, List.set_cons_zero, List.set_cons_succ])
                  refine wpAnyH_take (i := 8) (oi := ⟨some 96, _, _, _, _, _⟩) (v := ?qh6xv8) rfl (by kernel_rfl) (by kernel_rfl) (by kernel_rfl) (fun _ _ _ h => h) (Or.inl ⟨by rfl, ?qh6xhy8⟩) hHeld ?qh6xr8
                  case qh6xhy8 => (intro w hSw; (try dsimp only at hSw); go_simp; (try with_reducible rfl))
                  (try simp only [Act.put, List.setIfInBounds_toArray, List.set_cons_zero, List.set_cons_succ])
                  refine wpAnyH_take (i := 9) (oi := ⟨some 97, _, _, _, _, _⟩) (v := ?qh6xv9) rfl (by kernel_rfl) (by kernel_rfl) (by kernel_rfl) (fun _ _ _ h => h) (Or.inl ⟨by rfl, ?qh6xhy9⟩) hHeld ?qh6xr9
                  case qh6xhy9 => (intro w hSw; (try dsimp only at hSw); go_simp; (try with_reducible rfl))
                  (try simp only [Act.put, List.setIfInBounds_toArray, List.set_cons_zero, List.set_cons_succ])
                  refine wpAnyH_ready (rs := [10]) (by kernel_rfl) (by simp) ?qh6xc10
                  refine AllReadyH.cons (o := ⟨none, _, _, _, _, _⟩) rfl (fun K hK => ?qh6xst10) AllReadyH.nil
                  (rw [if_pos (by rfl)]; refine wp_kn_store1 KN 62 _ _ rfl g 7 rfl _ rfl rfl _ _ (by repeat (first | exact Repl.here | apply Repl.there)) (by simp) (by kernel_rfl) (by rfl) ?_; clear KN; intro wx KN)
                  refine hK.out _ _ ?qh6xk10 (fun hHeld2 => ?qh6xm10)
                  case qh6xk10 => exact KN.at_ (by repeat (first | exact Has.here | refine Has.there ?_))
                  clear hK K hHeld
                  have hHeld := hHeld2; clear hHeld2
                  (try simp only [Act.put, List.setIfInBounds_toArray, List.set_cons_zero, List.set_cons_succ])
                  refine wpAnyH_done (by kernel_rfl) ?qh6xdone _
                  go_wp2_with fail
                  go_meet
                  exact ⟨_, _, by rw [List.map_append]; exact OW, (KN.drop (.there .here)).drop (.there .here)⟩
              case rest =>
                clear KN
                obtain ⟨ov', ol', OW, KN⟩ := hcut
                go_wp2_with (first | ((with_reducible refine wpList_gate ?_); first | ((refine gate_load (by rfl) ?_); first | (refine ks_load1 KN 23 Tryd.underlying23 ?_) | (refine ks_load1 KN 3 Tryd.underlying3 ?_) | (refine ks_load1 KN 9 Tryd.underlying9 ?_) | (refine ks_load1 KN 62 Tryd.underlying62 ?_) | (refine ks_loadW KN 128 Tryd.underlying128 ?_) | (refine ks_load1 KN 42 Tryd.underlying42 ?_)) | ((refine gate_store (by rfl) ?_); first | (refine ks_storeW KN 128 ?_; clear KN; intro wx KN) | (refine ks_storeA KN 128 ?_; clear KN; intro wx KN) | (refine ks_storeW KN 45 ?_; clear KN; intro wx KN) | (refine ks_storeA KN 45 ?_; clear KN; intro wx KN) | (refine ks_store1 KN 9 ?_; clear KN; intro wx KN) | (refine ks_store1 KN 62 ?_; clear KN; intro wx KN) | (refine ks_store1 KN 3 ?_; clear KN; intro wx KN)) | ((refine gate_new (by rfl) ?_); first | (refine ks_alloc KN 128 (q := 5) #[.int .i64 0, .string ByteArray.empty, .bool false, .int .i64 0, .int .i64 0] ?_; clear KN; intro g5 wx hg5 KN) | (refine ks_alloc KN 45 (q := 6) #[.int .i64 0, .string ByteArray.empty, .int .u64 0, .int .i64 0, .int .i64 0] ?_; clear KN; intro g6 wx hg6 KN) | (refine ks_alloc KN 45 (q := 9) #[.int .i64 0, .string ByteArray.empty, .int .u64 0, .int .i64 0, .int .i64 0] ?_; clear KN; intro g9 wx hg9 KN))))
                go_ret
                have HA2 := HA.out
                rw [← HX.out] at HA2
                exact ImmPost.ok (us := [⟨n, [], true, i⟩]) (Lib.hid HA2) ⟨ov', ol', OW, KN.drop .here⟩
          · have HA := Lib.hid (aImm_p1 (n := n) (tg := true) hk hm h2)
            have HX : Hid (((tk d i).value : Int) = (tk d i).value) := Lib.hid rfl
            have h2' : ((tk d i).kind != 2) = true := by rw [bne_iff_ne]; exact h2
            clear hk hm h2 hvb
            go_wp2_with (first | (go_at_call 61; refine (asm_token_has KN (by repeat (first | exact Has.here | refine Has.there ?_)) HT.out hd (by omega) 0 (by omega)).mono ?_; rintro e wx ⟨rfl, K2⟩; replace KN := K2; clear K2; rw [show i + 0 = i from rfl]; unfold tokC; (try rw [← HX.out])) | (go_at_call 65; refine (asm_fail_has KN (by repeat (first | exact Has.here | refine Has.there ?_)) HT.out hd (by omega) _).mono ?_; rintro e wx ⟨rfl, hb⟩) | (go_at_call 62; refine (asm_is_has KN (by repeat (first | exact Has.here | refine Has.there ?_)) HT.out hd (by omega) 0 (by omega) [45]).mono ?_; rintro e wx ⟨rfl, K2⟩; replace KN := K2; clear K2; rw [show i + 0 = i from rfl, HM.out]) | ((with_reducible refine wpList_gate ?_); first | ((refine gate_load (by rfl) ?_); first | (refine ks_load1 KN 23 Tryd.underlying23 ?_) | (refine ks_load1 KN 3 Tryd.underlying3 ?_) | (refine ks_load1 KN 9 Tryd.underlying9 ?_) | (refine ks_load1 KN 62 Tryd.underlying62 ?_) | (refine ks_loadW KN 128 Tryd.underlying128 ?_) | (refine ks_load1 KN 42 Tryd.underlying42 ?_)) | ((refine gate_store (by rfl) ?_); first | (refine wpList_kn_store1 KN (by rfl) 3 _ (.tmp 84) rfl g 1 rfl (.int .i64 ((i : Int) + 1)) rfl rfl _ _ (by repeat (first | exact Repl.here | apply Repl.there)) (by simp) (by kernel_rfl) (by rfl) ?_; clear KN; intro wx KN; replace KN := KN.as_ g (asmC tv (i + 1) el ec tb (.slice pa n pc) mv (.slice oa refs.length oc)) (by repeat (first | exact Repl.here | apply Repl.there)) (by rfl)) | (refine ks_storeW KN 128 ?_; clear KN; intro wx KN) | (refine ks_storeA KN 128 ?_; clear KN; intro wx KN) | (refine ks_storeW KN 45 ?_; clear KN; intro wx KN) | (refine ks_storeA KN 45 ?_; clear KN; intro wx KN) | (refine ks_store1 KN 9 ?_; clear KN; intro wx KN) | (refine ks_store1 KN 62 ?_; clear KN; intro wx KN) | (refine ks_store1 KN 3 ?_; clear KN; intro wx KN)) | ((refine gate_new (by rfl) ?_); first | (refine ks_alloc KN 128 (q := 5) #[.int .i64 0, .string ByteArray.empty, .bool false, .int .i64 0, .int .i64 0] ?_; clear KN; intro g5 wx hg5 KN) | (refine ks_alloc KN 45 (q := 6) #[.int .i64 0, .string ByteArray.empty, .int .u64 0, .int .i64 0, .int .i64 0] ?_; clear KN; intro g6 wx hg6 KN) | (refine ks_alloc KN 45 (q := 9) #[.int .i64 0, .string ByteArray.empty, .int .u64 0, .int .i64 0, .int .i64 0] ?_; clear KN; intro g9 wx hg9 KN))))
            exact ⟨rfl, ImmPost.err HA hb⟩
        | false =>
          have hmi : isP d i [45] = false := by simpa using hm
          have HM := Lib.hid hmi
          clear hmi
          by_cases h2 : (tk d i).kind = 2
          · obtain ⟨x, hx⟩ : ∃ x, x = (tk d i).value := ⟨_, rfl⟩
            have HX := Lib.hid hx
            by_cases hv : 2147483647 < x
            · have HA := Lib.hid (aImm_p2 (n := n) (tg := false) hk hm h2 (by rw [← hx]; exact hv))
              have h2' : ((tk d i).kind != 2) = false := by rw [h2]; rfl
              clear hk hm h2 hvb hx
              go_wp2_with (first | (go_at_call 61; refine (asm_token_has KN (by repeat (first | exact Has.here | refine Has.there ?_)) HT.out hd (by omega) 0 (by omega)).mono ?_; rintro e wx ⟨rfl, K2⟩; replace KN := K2; clear K2; rw [show i + 0 = i from rfl]; unfold tokC; (try rw [← HX.out])) | (go_at_call 65; refine (asm_fail_has KN (by repeat (first | exact Has.here | refine Has.there ?_)) HT.out hd (by omega) _).mono ?_; rintro e wx ⟨rfl, hb⟩) | (go_at_call 62; refine (asm_is_has KN (by repeat (first | exact Has.here | refine Has.there ?_)) HT.out hd (by omega) 0 (by omega) [45]).mono ?_; rintro e wx ⟨rfl, K2⟩; replace KN := K2; clear K2; rw [show i + 0 = i from rfl, HM.out]) | ((with_reducible refine wpList_gate ?_); first | ((refine gate_load (by rfl) ?_); first | (refine ks_load1 KN 23 Tryd.underlying23 ?_) | (refine ks_load1 KN 3 Tryd.underlying3 ?_) | (refine ks_load1 KN 9 Tryd.underlying9 ?_) | (refine ks_load1 KN 62 Tryd.underlying62 ?_) | (refine ks_loadW KN 128 Tryd.underlying128 ?_) | (refine ks_load1 KN 42 Tryd.underlying42 ?_)) | ((refine gate_store (by rfl) ?_); first | (refine wpList_kn_store1 KN (by rfl) 3 _ (.tmp 84) rfl g 1 rfl (.int .i64 ((i : Int) + 1)) rfl rfl _ _ (by repeat (first | exact Repl.here | apply Repl.there)) (by simp) (by kernel_rfl) (by rfl) ?_; clear KN; intro wx KN; replace KN := KN.as_ g (asmC tv (i + 1) el ec tb (.slice pa n pc) mv (.slice oa refs.length oc)) (by repeat (first | exact Repl.here | apply Repl.there)) (by rfl)) | (refine ks_storeW KN 128 ?_; clear KN; intro wx KN) | (refine ks_storeA KN 128 ?_; clear KN; intro wx KN) | (refine ks_storeW KN 45 ?_; clear KN; intro wx KN) | (refine ks_storeA KN 45 ?_; clear KN; intro wx KN) | (refine ks_store1 KN 9 ?_; clear KN; intro wx KN) | (refine ks_store1 KN 62 ?_; clear KN; intro wx KN) | (refine ks_store1 KN 3 ?_; clear KN; intro wx KN)) | ((refine gate_new (by rfl) ?_); first | (refine ks_alloc KN 128 (q := 5) #[.int .i64 0, .string ByteArray.empty, .bool false, .int .i64 0, .int .i64 0] ?_; clear KN; intro g5 wx hg5 KN) | (refine ks_alloc KN 45 (q := 6) #[.int .i64 0, .string ByteArray.empty, .int .u64 0, .int .i64 0, .int .i64 0] ?_; clear KN; intro g6 wx hg6 KN) | (refine ks_alloc KN 45 (q := 9) #[.int .i64 0, .string ByteArray.empty, .int .u64 0, .int .i64 0, .int .i64 0] ?_; clear KN; intro g9 wx hg9 KN))))
              exact ⟨rfl, ImmPost.err HA hb⟩
            · have HA := Lib.hid (aImm_p3 (n := n) (tg := false) hk hm h2 (by rw [← hx]; exact hv))
              have h2' : ((tk d i).kind != 2) = false := by rw [h2]; rfl
              rw [← hx] at hvb
              have w3 : IntKind.i32.wrap x = x := by rw [IntKind.wrap_i32]; omega
              clear hk hm h2 hvb hx
              go_wp2_with (first | (go_at_call 61; refine (asm_token_has KN (by repeat (first | exact Has.here | refine Has.there ?_)) HT.out hd (by omega) 0 (by omega)).mono ?_; rintro e wx ⟨rfl, K2⟩; replace KN := K2; clear K2; rw [show i + 0 = i from rfl]; unfold tokC; (try rw [← HX.out])) | (go_at_call 65; refine (asm_fail_has KN (by repeat (first | exact Has.here | refine Has.there ?_)) HT.out hd (by omega) _).mono ?_; rintro e wx ⟨rfl, hb⟩) | (go_at_call 62; refine (asm_is_has KN (by repeat (first | exact Has.here | refine Has.there ?_)) HT.out hd (by omega) 0 (by omega) [45]).mono ?_; rintro e wx ⟨rfl, K2⟩; replace KN := K2; clear K2; rw [show i + 0 = i from rfl, HM.out]) | ((with_reducible refine wpList_gate ?_); first | ((refine gate_load (by rfl) ?_); first | (refine ks_load1 KN 23 Tryd.underlying23 ?_) | (refine ks_load1 KN 3 Tryd.underlying3 ?_) | (refine ks_load1 KN 9 Tryd.underlying9 ?_) | (refine ks_load1 KN 62 Tryd.underlying62 ?_) | (refine ks_loadW KN 128 Tryd.underlying128 ?_) | (refine ks_load1 KN 42 Tryd.underlying42 ?_)) | ((refine gate_store (by rfl) ?_); first | (refine wpList_kn_store1 KN (by rfl) 3 _ (.tmp 84) rfl g 1 rfl (.int .i64 ((i : Int) + 1)) rfl rfl _ _ (by repeat (first | exact Repl.here | apply Repl.there)) (by simp) (by kernel_rfl) (by rfl) ?_; clear KN; intro wx KN; replace KN := KN.as_ g (asmC tv (i + 1) el ec tb (.slice pa n pc) mv (.slice oa refs.length oc)) (by repeat (first | exact Repl.here | apply Repl.there)) (by rfl)) | (refine ks_storeW KN 128 ?_; clear KN; intro wx KN) | (refine ks_storeA KN 128 ?_; clear KN; intro wx KN) | (refine ks_storeW KN 45 ?_; clear KN; intro wx KN) | (refine ks_storeA KN 45 ?_; clear KN; intro wx KN) | (refine ks_store1 KN 9 ?_; clear KN; intro wx KN) | (refine ks_store1 KN 62 ?_; clear KN; intro wx KN) | (refine ks_store1 KN 3 ?_; clear KN; intro wx KN)) | ((refine gate_new (by rfl) ?_); first | (refine ks_alloc KN 128 (q := 5) #[.int .i64 0, .string ByteArray.empty, .bool false, .int .i64 0, .int .i64 0] ?_; clear KN; intro g5 wx hg5 KN) | (refine ks_alloc KN 45 (q := 6) #[.int .i64 0, .string ByteArray.empty, .int .u64 0, .int .i64 0, .int .i64 0] ?_; clear KN; intro g6 wx hg6 KN) | (refine ks_alloc KN 45 (q := 9) #[.int .i64 0, .string ByteArray.empty, .int .u64 0, .int .i64 0, .int .i64 0] ?_; clear KN; intro g9 wx hg9 KN))))
              go_ret
              rw [← HX.out, if_neg (by decide)] at HA
              exact ImmPost.ok HA ⟨_, _, OwnT.nilapp_map HO.out, ((KN.drop .here).drop .here).drop .here⟩
          · have HA := Lib.hid (aImm_p1 (n := n) (tg := false) hk hm h2)
            have HX : Hid (((tk d i).value : Int) = (tk d i).value) := Lib.hid rfl
            have h2' : ((tk d i).kind != 2) = true := by rw [bne_iff_ne]; exact h2
            clear hk hm h2 hvb
            go_wp2_with (first | (go_at_call 61; refine (asm_token_has KN (by repeat (first | exact Has.here | refine Has.there ?_)) HT.out hd (by omega) 0 (by omega)).mono ?_; rintro e wx ⟨rfl, K2⟩; replace KN := K2; clear K2; rw [show i + 0 = i from rfl]; unfold tokC; (try rw [← HX.out])) | (go_at_call 65; refine (asm_fail_has KN (by repeat (first | exact Has.here | refine Has.there ?_)) HT.out hd (by omega) _).mono ?_; rintro e wx ⟨rfl, hb⟩) | (go_at_call 62; refine (asm_is_has KN (by repeat (first | exact Has.here | refine Has.there ?_)) HT.out hd (by omega) 0 (by omega) [45]).mono ?_; rintro e wx ⟨rfl, K2⟩; replace KN := K2; clear K2; rw [show i + 0 = i from rfl, HM.out]) | ((with_reducible refine wpList_gate ?_); first | ((refine gate_load (by rfl) ?_); first | (refine ks_load1 KN 23 Tryd.underlying23 ?_) | (refine ks_load1 KN 3 Tryd.underlying3 ?_) | (refine ks_load1 KN 9 Tryd.underlying9 ?_) | (refine ks_load1 KN 62 Tryd.underlying62 ?_) | (refine ks_loadW KN 128 Tryd.underlying128 ?_) | (refine ks_load1 KN 42 Tryd.underlying42 ?_)) | ((refine gate_store (by rfl) ?_); first | (refine wpList_kn_store1 KN (by rfl) 3 _ (.tmp 84) rfl g 1 rfl (.int .i64 ((i : Int) + 1)) rfl rfl _ _ (by repeat (first | exact Repl.here | apply Repl.there)) (by simp) (by kernel_rfl) (by rfl) ?_; clear KN; intro wx KN; replace KN := KN.as_ g (asmC tv (i + 1) el ec tb (.slice pa n pc) mv (.slice oa refs.length oc)) (by repeat (first | exact Repl.here | apply Repl.there)) (by rfl)) | (refine ks_storeW KN 128 ?_; clear KN; intro wx KN) | (refine ks_storeA KN 128 ?_; clear KN; intro wx KN) | (refine ks_storeW KN 45 ?_; clear KN; intro wx KN) | (refine ks_storeA KN 45 ?_; clear KN; intro wx KN) | (refine ks_store1 KN 9 ?_; clear KN; intro wx KN) | (refine ks_store1 KN 62 ?_; clear KN; intro wx KN) | (refine ks_store1 KN 3 ?_; clear KN; intro wx KN)) | ((refine gate_new (by rfl) ?_); first | (refine ks_alloc KN 128 (q := 5) #[.int .i64 0, .string ByteArray.empty, .bool false, .int .i64 0, .int .i64 0] ?_; clear KN; intro g5 wx hg5 KN) | (refine ks_alloc KN 45 (q := 6) #[.int .i64 0, .string ByteArray.empty, .int .u64 0, .int .i64 0, .int .i64 0] ?_; clear KN; intro g6 wx hg6 KN) | (refine ks_alloc KN 45 (q := 9) #[.int .i64 0, .string ByteArray.empty, .int .u64 0, .int .i64 0, .int .i64 0] ?_; clear KN; intro g9 wx hg9 KN))))
            exact ⟨rfl, ImmPost.err HA hb⟩
end Go.Proofs.YtemigcdieghkfaaDoor
