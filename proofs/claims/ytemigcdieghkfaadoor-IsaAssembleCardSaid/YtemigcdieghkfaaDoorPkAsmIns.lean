/- The assembler's method instruction. -/
import Derived.Test.YtemigcdieghkfaaDoorPkAsmImm
import Derived.Test.YtemigcdieghkfaaDoorPkAsmP
set_option linter.unusedVariables false
set_option linter.unusedSimpArgs false
set_option linter.unusedSectionVars false
namespace Go.Proofs.YtemigcdieghkfaaDoor
open Go.RowKit Go.BigFrame

abbrev labM (ls : Labels) : Obj → Prop := MapAt Tryd.prog 9 (plainElem Tryd.prog 3) ls.length (labD ls)
abbrev asmT (t : Nat) : Value := .slice (some ⟨t, 0, none⟩) 28 28
/-- The assembler with the program, the labels and what is open. -/
def AsmKn (W : World) (g m t : Nat) (tv : Value) (el ec : Int) (d : List Tok) (L : Ents) (s : ASt) (w : World) : Prop :=
  ∃ pa pc pl ov ol, OwnT 35 5 (.slice pa s.prog.length pc) (s.prog.map fun x => x.cells.toList) pl ∧ OwnT 128 5 ov (s.uses.map (refC el ec d)) ol ∧
    Kn [] W w ((g, At (asmC tv s.i el ec (asmT t) (.slice pa s.prog.length pc) (.map (some m)) ov) 64) :: (m, labM s.labels) :: (t, At fmtA 92) :: (pl ++ ol ++ L))
/-- What a method of the assembler comes to. -/
def AsmPost (W : World) (g m t : Nat) (tv : Value) (el ec : Int) (d : List Tok) (L : Ents) (r : Except AErr ASt) (e : Ending) (w : World) : Prop := match r with
  | .ok s => e = .returned (.tuple #[]) ∧ AsmKn W g m t tv el ec d L s w ∧ Dist s.labels
  | .error x => e = failE (posE el ec d x.1) x.2 ∧ Below W.heap.size W w
def asmAt (g : Nat) (w : World) : Nat := match w.heap[g]? with
  | some (.cells cs _) => (intOf (cs.getD 1 default)).toNat
  | _ => 0
theorem asmAt_eq {W w : World} {l : Ents} {g i : Nat} {tv tb pv mv ov : Value} {el ec : Int} (KN : Kn [] W w l) (h : Has l g (At (asmC tv i el ec tb pv mv ov) 64)) : asmAt g w = i := by
  unfold asmAt; rw [KN.at_ h]; simp [intOf, asmC]
theorem AsmPost.err {W : World} {g m t : Nat} {tv : Value} {el ec : Int} {d : List Tok} {L : Ents} {r : Except AErr ASt} {x : AErr} {w : World} (h : r = .error x) (hb : Below W.heap.size W w) : AsmPost W g m t tv el ec d L r (failE (posE el ec d x.1) x.2) w := by rw [h]; exact ⟨rfl, hb⟩
theorem AsmPost.ok {W : World} {g m t : Nat} {tv : Value} {el ec : Int} {d : List Tok} {L : Ents} {r : Except AErr ASt} {x : ASt} {w : World} (h : r = .ok x) (hk : AsmKn W g m t tv el ec d L x w) (hd : Dist x.labels) : AsmPost W g m t tv el ec d L r (.returned (.tuple #[])) w := by rw [h]; exact ⟨rfl, hk, hd⟩
theorem asmKn_end {W w : World} {g m t i pc' : Nat} {tv ov : Value} {el ec : Int} {d : List Tok} {L pl ol : Ents} {p : List Ins} {x : Ins} {ls : Labels} {us : List ARef} {pa : Option Addr}
    (OP : OwnT 35 5 (.slice pa ((p.map fun x => x.cells.toList) ++ [x.cells.toList]).length pc') ((p.map fun x => x.cells.toList) ++ [x.cells.toList]) pl) (OO : OwnT 128 5 ov (us.map (refC el ec d)) ol)
    (KN : Kn [] W w ((g, At (asmC tv i el ec (asmT t) (.slice pa ((p.map fun x => x.cells.toList) ++ [x.cells.toList]).length pc') (.map (some m)) ov) 64) :: (m, labM ls) :: (t, At fmtA 92) :: (pl ++ ol ++ L))) :
    AsmKn W g m t tv el ec d L ⟨i, p ++ [x], ls, us⟩ w := by
  have e : ((p.map fun x => x.cells.toList) ++ [x.cells.toList]).length = (p ++ [x]).length := by simp
  rw [e] at OP KN
  refine ⟨_, _, _, _, _, ?_, OO, KN⟩
  rw [List.map_append]
  exact OP
def LabRel (W : World) (g m t : Nat) (tv : Value) (el ec : Int) (pv ov : Value) (L : Ents) (d : List Tok) (n : Nat) (r : Except AErr (Nat × Labels)) (w : World) : Prop :=
  ∃ (j f : Nat) (ls : Labels), r = aLabels d n f j ls ∧ j ≤ d.length ∧ ls.length ≤ j ∧ d.length ≤ f + j ∧ Dist ls ∧
    Kn [] W w ((g, At (asmC tv j el ec (asmT t) pv (.map (some m)) ov) 64) :: (m, labM ls) :: (t, At fmtA 92) :: L)
def LabOut (W : World) (g m t : Nat) (tv : Value) (el ec : Int) (pv ov : Value) (L : Ents) (d : List Tok) (r : Except AErr (Nat × Labels)) (w : World) : Prop :=
  ∃ (j : Nat) (ls : Labels), r = .ok (j, ls) ∧ j ≤ d.length ∧ ls.length ≤ j ∧ Dist ls ∧
    Kn [] W w ((g, At (asmC tv j el ec (asmT t) pv (.map (some m)) ov) 64) :: (m, labM ls) :: (t, At fmtA 92) :: L)
theorem kind_lt {d : List Tok} {i : Nat} (h : ¬ (tk d i).kind = 0) : i < d.length := by
  unfold tk at h
  cases hd : d[i]? with
  | none => rw [hd] at h; exact absurd rfl h
  | some t => exact (List.getElem?_eq_some_iff.1 hd).1
theorem isP_lt {d : List Tok} {i : Nat} {m : List UInt8} (h : isP d i m = true) : i < d.length := by
  refine kind_lt fun q => ?_
  unfold isP at h
  rw [q] at h
  simp at h
section
variable {d : List Tok} {n f i : Nat} {ls : Labels}
theorem aLabels_stop (h : ¬ ((tk d i).kind = 1 ∧ isP d (i + 1) [58] = true)) : aLabels d n f i ls = .ok (i, ls) := by
  cases f with
  | zero => rfl
  | succ f => rw [aLabels, if_neg h]
theorem aLabels_reg (hf : d.length ≤ f + i) (h : (tk d i).kind = 1 ∧ isP d (i + 1) [58] = true) (hr : 0 ≤ regOf (tk d i).text) : aLabels d n f i ls = .error (i, 50) := by
  cases f with
  | zero => have := kind_lt (d := d) (i := i) (by rw [h.1]; decide); omega
  | succ f => rw [aLabels, if_pos h, if_pos hr]
theorem aLabels_two (hf : d.length ≤ f + i) (h : (tk d i).kind = 1 ∧ isP d (i + 1) [58] = true) (hr : ¬ 0 ≤ regOf (tk d i).text) (ht : (labelAt ls (tk d i).text).isSome = true) : aLabels d n f i ls = .error (i, 72) := by
  cases f with
  | zero => have := kind_lt (d := d) (i := i) (by rw [h.1]; decide); omega
  | succ f => rw [aLabels, if_pos h, if_neg hr, if_pos ht]
theorem aLabels_next (hf : d.length ≤ f + i) (h : (tk d i).kind = 1 ∧ isP d (i + 1) [58] = true) (hr : ¬ 0 ≤ regOf (tk d i).text) (ht : (labelAt ls (tk d i).text).isSome = false) : ∃ f', f = f' + 1 ∧ aLabels d n f i ls = aLabels d n f' (i + 2) (ls ++ [((tk d i).text, n)]) := by
  cases f with
  | zero => have := kind_lt (d := d) (i := i) (by rw [h.1]; decide); omega
  | succ f => exact ⟨f, rfl, by rw [aLabels, if_pos h, if_neg hr, if_neg (by rw [ht]; decide)]⟩
end
theorem labM_snoc {ls : Labels} {x : List UInt8 × Nat} {o : Obj} (h : MapAt Tryd.prog 9 (plainElem Tryd.prog 3) (ls.length + 1) ((labD ls).put (.string x.1) (.lit (.int .i64 (x.2 : Int)))) o) : labM (ls ++ [x]) o := by
  unfold labM
  rw [labD_snoc, List.length_append]
  exact h
set_option maxRecDepth 100000 in
theorem field_kind (a b c d e : Value) (w : World) : Sem.run Tryd.prog (Instr.field 45 (.agg #[a, b, c, d, e]) 0) w = .ok a w := by kernel_rfl
theorem labKey (m : List UInt8) (h : m.length ≤ maxLen) : keyOf Tryd.prog 9 (.string (str m)) = some (.string m) := by
  rw [WideMaps.keyOf_string_mk (P := Tryd.prog) Tryd.underlying9 (s := str m) (by rw [str_size]; exact h), data_str]
theorem labVal (n : Nat) (h : n ≤ 4096) : plainElem Tryd.prog 3 (.int .i64 n) = some ((.lit (.int .i64 (n : Int)) : DataW Unit), []) := by
  refine plainElem_int Tryd.underlying3 ?_
  show (decide (IntKind.i64.min ≤ (n : Int)) && decide ((n : Int) ≤ IntKind.i64.max)) = true
  rw [Bool.and_eq_true, decide_eq_true_eq, decide_eq_true_eq]
  have h1 : IntKind.i64.min = -9223372036854775808 := rfl
  have h2 : IntKind.i64.max = 9223372036854775807 := rfl
  omega
section
variable {d : List Tok} {s : ASt}
theorem aBody_word (h : ¬ (tk d s.i).kind = 1) : aBody d s = .error (s.i, 50) := by unfold aBody; rw [if_pos h]
theorem aBody_mnem (h : (tk d s.i).kind = 1) (hm : mnemIx (tk d s.i).text < 0) : aBody d s = .error (s.i, 50) := by unfold aBody; rw [if_neg (fun q => q h), if_pos hm]
theorem aBody_many (h : (tk d s.i).kind = 1) (hm : ¬ mnemIx (tk d s.i).text < 0) (hn : s.prog.length = 4096) : aBody d s = .error (s.i, 15) := by unfold aBody; rw [if_neg (fun q => q h), if_neg hm, if_pos hn]
def aRest (d : List Tok) (s : ASt) : Except AErr (Ins × Nat × List ARef) → Except AErr ASt
  | .error e => .error e
  | .ok (x, j, us) => if isP d j [59] = true then .ok ⟨j + 1, s.prog ++ [x], s.labels, s.uses ++ us⟩ else .error (j, 50)
theorem aBody_rest (h : (tk d s.i).kind = 1) (hm : ¬ mnemIx (tk d s.i).text < 0) (hn : ¬ s.prog.length = 4096) : aBody d s = aRest d s (aOperands d s.prog.length true (operandsOf (mnemIx (tk d s.i).text)) ⟨mnemIx (tk d s.i).text, 0, 0, 0, 0⟩ (s.i + 1) []) := by
  unfold aBody
  rw [if_neg (fun q => q h), if_neg hm, if_neg hn]
  unfold aRest
  split
  · rename_i h1; rw [h1]
  · rename_i h1; rw [h1]
end
theorem mnemFrom_step (s : List UInt8) (n : Nat) (h : n < 28) : mnemFrom s (28 - n) n = if mnemL.getD n [] = s then (n : Int) else mnemFrom s (28 - (n + 1)) (n + 1) := by
  rw [show 28 - n = (28 - (n + 1)) + 1 from by omega]; rfl
section
variable {d : List Tok} {n i : Nat} {c : UInt8} {l : List UInt8} {x : Ins} {us : List ARef}
theorem aOps_first : aOperands d n true (c :: l) x i us = (match aOperand d n c x i with | .error e => .error e | .ok (y, j, vs) => aOperands d n false l y j (us ++ vs)) := by rw [aOperands]; rfl
theorem aOps_next (h : isP d i [44] = true) : aOperands d n false (c :: l) x i us = (match aOperand d n c x (i + 1) with | .error e => .error e | .ok (y, j, vs) => aOperands d n false l y j (us ++ vs)) := by rw [aOperands, if_neg (by rw [h]; decide)]; rfl
theorem aOps_comma (h : isP d i [44] = false) : aOperands d n false (c :: l) x i us = .error (i, 50) := by rw [aOperands, if_pos h]
theorem aOps_nil (b : Bool) : aOperands d n b [] x i us = .ok (x, i, us) := by cases b <;> rfl
end
theorem opsOf_bd : ∀ k, k < 28 → (operandsL.getD k []).length ≤ 3 ∧ ∀ c ∈ operandsL.getD k [], c = 97 ∨ c = 98 ∨ c = 99 ∨ c = 105 ∨ c = 116 := by decide
theorem opsOf_nat (k : Nat) (h : k < 28) : (operandsOf (k : Int)).length ≤ 3 ∧ ∀ c ∈ operandsOf (k : Int), c = 97 ∨ c = 98 ∨ c = 99 ∨ c = 105 ∨ c = 116 := by
  unfold operandsOf; rw [Int.toNat_natCast]; exact opsOf_bd k h
def opIx (c : UInt8) : Int := Lib.indexByte [97, 98, 99, 105, 116] c
theorem operand_any (c : UInt8) (w : World) : Calls Tryd.prog 45 #[.int .u8 (c.toNat : Int)] w fun e w' => e = .returned (.int .i64 (opIx c)) ∧ w = w' := by
  go_enter Tryd.func45, Tryd.ntmps45
  go_wp2_with (go_at_call 78; refine (IndexByte_u8 _ c _).mono ?_; rintro e w' ⟨rfl, rfl⟩)
  go_ret
  exact ⟨rfl, rfl⟩
def OpsRel (W : World) (g7 g m t : Nat) (tv : Value) (el ec : Int) (d : List Tok) (pa : Option Addr) (n pc : Nat) (pl L : Ents) (us0 : List ARef) (ls : Labels) (r : Except AErr (Ins × Nat × List ARef)) (ops : List UInt8) (s113 : Value) (w : World) : Prop :=
  ∃ (q i : Nat) (x : Ins) (us : List ARef) (ov : Value) (ol : Ents), s113 = .int .i64 (q : Int) ∧ q ≤ ops.length ∧ r = aOperands d n (decide (q = 0)) (ops.drop q) x i us ∧ i ≤ d.length ∧ us.length ≤ q ∧ OwnT 128 5 ov ((us0 ++ us).map (refC el ec d)) ol ∧
    Kn [] W w ((g7, At x.cells 35) :: (g, At (asmC tv i el ec (asmT t) (.slice pa n pc) (.map (some m)) ov) 64) :: (m, labM ls) :: (t, At fmtA 92) :: (pl ++ ol ++ L))
def aStep (d : List Tok) (n : Nat) (l : List UInt8) (us : List ARef) : Except AErr (Ins × Nat × List ARef) → Except AErr (Ins × Nat × List ARef)
  | .error e => .error e
  | .ok (y, j, vs) => aOperands d n false l y j (us ++ vs)
section
variable {d : List Tok} {n i : Nat} {c : UInt8} {l : List UInt8} {x : Ins} {us : List ARef}
theorem aOps_first' : aOperands d n true (c :: l) x i us = aStep d n l us (aOperand d n c x i) := by rw [aOps_first]; unfold aStep; rfl
theorem aOps_next' (h : isP d i [44] = true) : aOperands d n false (c :: l) x i us = aStep d n l us (aOperand d n c x (i + 1)) := by rw [aOps_next h]; unfold aStep; rfl
theorem aOp_a : aOperand d n 97 x i = (match aReg d i with | .error e => .error e | .ok r => .ok ({ x with a := r }, i + 1, [])) := rfl
theorem aOp_b : aOperand d n 98 x i = (match aReg d i with | .error e => .error e | .ok r => .ok ({ x with b := r }, i + 1, [])) := rfl
theorem aOp_c : aOperand d n 99 x i = (match aReg d i with | .error e => .error e | .ok r => .ok ({ x with c := r }, i + 1, [])) := rfl
theorem aOp_i : aOperand d n 105 x i = (match aImm d n false i with | .error e => .error e | .ok (v, j, us) => .ok ({ x with imm := v }, j, us)) := rfl
theorem aOp_t : aOperand d n 116 x i = (match aImm d n true i with | .error e => .error e | .ok (v, j, us) => .ok ({ x with imm := v }, j, us)) := rfl
theorem aReg_lt {r : Int} (h : aReg d i = .ok r) : i < d.length := by
  unfold aReg at h
  split at h
  · rename_i h1; exact kind_lt (by rw [h1.1]; decide)
  · cases h
theorem aImm_bd {tg : Bool} {v : Int} {j : Nat} {vs : List ARef} (h : aImm d n tg i = .ok (v, j, vs)) : j ≤ d.length ∧ vs.length ≤ 1 := by
  unfold aImm at h
  split at h
  · rename_i h1
    split at h
    · cases h
    · cases h; exact ⟨kind_lt (by rw [h1]; decide), Nat.le_refl 1⟩
  · split at h
    · split at h
      · cases h
      · rename_i h2
        split at h
        · cases h
        · cases h
          have := kind_lt (d := d) (i := i + 1) (by rw [Classical.not_not.1 h2]; decide)
          exact ⟨by omega, Nat.zero_le _⟩
    · split at h
      · cases h
      · rename_i h2
        split at h
        · cases h
        · cases h
          have := kind_lt (d := d) (i := i) (by rw [Classical.not_not.1 h2]; decide)
          exact ⟨by omega, by split <;> simp⟩
end
theorem imm_perm (a b c e : Nat × (Obj → Prop)) (pl ol L : Ents) : (a :: b :: c :: e :: (pl ++ ol ++ L)).Perm (b :: ((a :: c :: e :: (pl ++ L)) ++ ol)) := by
  have h : (pl ++ ol ++ L).Perm (pl ++ L ++ ol) := by
    rw [List.append_assoc, List.append_assoc]
    exact List.perm_append_comm.append_left pl
  exact (List.Perm.swap _ _ _).trans ((((h.cons e).cons c).cons a).cons b)
theorem app_perm (a b c e : Nat × (Obj → Prop)) (pl ol L : Ents) : (a :: b :: c :: e :: (pl ++ ol ++ L)).Perm (a :: b :: c :: e :: ((ol ++ L) ++ pl)) := by
  refine List.Perm.cons a (List.Perm.cons b (List.Perm.cons c (List.Perm.cons e ?_)))
  rw [List.append_assoc]
  exact List.perm_append_comm
theorem end_perm (b c e : Nat × (Obj → Prop)) (pl ol L : Ents) : (b :: c :: e :: ((ol ++ L) ++ pl)).Perm (b :: c :: e :: (pl ++ ol ++ L)) := by
  refine List.Perm.cons b (List.Perm.cons c (List.Perm.cons e ?_))
  rw [List.append_assoc pl]
  exact List.perm_append_comm
set_option maxRecDepth 100000 in
set_option maxHeartbeats 40000000 in
theorem asm_instr {W w : World} {L : Ents} {g m t : Nat} {tv : Value} {el ec : Int} {d : List Tok} {s : ASt} (hk : AsmKn W g m t tv el ec d L s w) (hDs : Dist s.labels) (hT : TokRd W tv d) (hd : d.length ≤ 65536) (hi : s.i ≤ d.length) (hls : s.labels.length ≤ s.i) (hpl : s.prog.length ≤ 4096) (hus : s.uses.length ≤ 90000)
    (hv : ∀ t ∈ d, 0 ≤ t.raw.value ∧ t.raw.value ≤ 18446744073709551615) (hl : ∀ t ∈ d, t.raw.text.length ≤ maxLen) :
    Calls Tryd.prog 27 #[.pointer (some ⟨g, 0, none⟩)] w (AsmPost W g m t tv el ec d L (aInstr d s)) := by
  obtain ⟨pa, pc, pl, ov, ol, OP, OO, KN⟩ := hk
  obtain ⟨n, hn⟩ : ∃ n, n = s.prog.length := ⟨_, rfl⟩
  rw [← hn] at OP KN hpl
  have HT := Lib.hid hT
  have HV := Lib.hid hv
  have HP := Lib.hid OP
  have HO := Lib.hid OO
  have HN := Lib.hid hn
  obtain ⟨r0, hr0⟩ : ∃ r0, r0 = aLabels d n d.length s.i s.labels := ⟨_, rfl⟩
  have HR0 := Lib.hid hr0
  have hfld := field_kind
  have HTL : Hid (∀ i, (tk d i).text.length ≤ maxLen) := Lib.hid (by
    intro i
    unfold tk
    cases hd' : d[i]? with
    | none => exact Nat.zero_le _
    | some t => exact hl t (List.mem_of_getElem? hd'))
  clear hT hv hl OP OO hn
  have HLAB : ∀ {x : AErr}, r0 = .error x → aInstr d s = .error x := fun {x} h => by unfold aInstr; rw [← HN.out, ← HR0.out, h]
  go_enter Tryd.func27, Tryd.ntmps27
  go_upto_block 0 with fail
  go_cut [2] (fun _ wz => LabOut W g m t tv el ec (.slice pa n pc) ov (pl ++ ol ++ L) d r0 wz)
  case first =>
    go_wp2_with fail
    go_loopw [2, 3, 4] (fun _ _ _ wr => LabRel W g m t tv el ec (.slice pa n pc) ov (pl ++ ol ++ L) d n r0 wr) (fun _ _ _ wr => d.length + 2 - asmAt g wr)
    case atStart => exact ⟨s.i, d.length, s.labels, hr0, hi, hls, by omega, hDs, KN⟩
    case round =>
      clear KN
      obtain ⟨j, f, ls, hr, hj, hlj, hfj, hD, KN⟩ := hrel
      have hat := asmAt_eq KN (by repeat (first | exact Has.here | refine Has.there ?_))
      have HAT := Lib.hid hat
      have HR := Lib.hid hr
      have HD := Lib.hid hD
      clear hr hD hat
      by_cases hkd : (tk d j).kind = 1
      · have hk' : ((tk d j).kind == 1) = true := by rw [hkd]; rfl
        rcases Bool.eq_false_or_eq_true (isP d (j + 1) [58]) with hp | hp
        · have HB := Lib.hid (And.intro hkd hp)
          have HKD := Lib.hid hkd
          have HPP := Lib.hid hp
          have hlt := isP_lt hp
          clear hkd hp
          by_cases hr : 0 ≤ regOf (tk d j).text
          · have HE := Lib.hid (aLabels_reg (n := n) (ls := ls) hfj HB.out hr)
            obtain ⟨r, hre⟩ : ∃ r, r = regOf (tk d j).text := ⟨_, rfl⟩
            rw [← hre] at hr
            have HRE := Lib.hid hre
            clear hre
            go_wp2_with (first | (go_at_call 61; refine (asm_token_has KN (by repeat (first | exact Has.here | refine Has.there ?_)) HT.out hd (by omega) 0 (by omega)).mono ?_; rintro e wx ⟨rfl, K2⟩; replace KN := K2; clear K2; rw [show j + 0 = j from rfl]; unfold tokC) | (go_at_call 62; refine (asm_is_has KN (by repeat (first | exact Has.here | refine Has.there ?_)) HT.out hd (by omega) 1 (by omega) [58]).mono ?_; rintro e wx ⟨rfl, K2⟩; replace KN := K2; clear K2; rw [HPP.out]) | (go_at_call 63; refine (asm_word_has KN (by repeat (first | exact Has.here | refine Has.there ?_)) HT.out hd (by omega) HKD.out).mono ?_; rintro e wx ⟨rfl, K2⟩; replace KN := K2; clear K2) | (go_at_call 64; refine (reg_any _ _).mono ?_; rintro e w' ⟨rfl, rfl⟩; rw [← HRE.out]) | (go_at_call 65; refine (asm_fail_has KN (by repeat (first | exact Has.here | refine Has.there ?_)) HT.out hd (by omega) _).mono ?_; rintro e wx ⟨rfl, hb⟩) | ((with_reducible refine wpList_gate ?_); first | ((refine gate_load (by rfl) ?_); first | (refine ks_load1 KN 61 Tryd.underlying61 ?_) | (refine ks_load1 KN 23 Tryd.underlying23 ?_) | (refine ks_load1 KN 3 Tryd.underlying3 ?_) | (refine ks_load1 KN 59 Tryd.underlying59 ?_) | (refine ks_load1 KN 9 Tryd.underlying9 ?_) | (refine ks_loadW KN 35 Tryd.underlying35 ?_)) | ((refine gate_store (by rfl) ?_); first | (refine ks_store1 KN 3 ?_; clear KN; intro wx KN) | (refine ks_storeW KN 35 ?_; clear KN; intro wx KN) | (refine ks_storeA KN 35 ?_; clear KN; intro wx KN) | (refine ks_store1 KN 21 ?_; clear KN; intro wx KN) | (refine ks_store1 KN 23 ?_; clear KN; intro wx KN)) | ((refine gate_new (by rfl) ?_); first | (refine ks_alloc KN 35 (q := 7) #[.int .i64 0, .int .i64 0, .int .i64 0, .int .i64 0, .int .i32 0] ?_; clear KN; intro g7 wx hg7 KN))))
            exact ⟨rfl, AsmPost.err (HLAB (HR.out.trans HE.out)) hb⟩
          · rcases Bool.eq_false_or_eq_true (labelAt ls (tk d j).text).isSome with ht | ht
            · have HE := Lib.hid (aLabels_two (n := n) hfj HB.out hr ht)
              obtain ⟨r, hre⟩ : ∃ r, r = regOf (tk d j).text := ⟨_, rfl⟩
              rw [← hre] at hr
              have HRE := Lib.hid hre
              have HHAS := Lib.hid ((labD_at HD.out (tk d j).text).1.trans ht)
              clear hre ht
              go_wp2_with (first | (go_at_call 61; refine (asm_token_has KN (by repeat (first | exact Has.here | refine Has.there ?_)) HT.out hd (by omega) 0 (by omega)).mono ?_; rintro e wx ⟨rfl, K2⟩; replace KN := K2; clear K2; rw [show j + 0 = j from rfl]; unfold tokC) | (go_at_call 62; refine (asm_is_has KN (by repeat (first | exact Has.here | refine Has.there ?_)) HT.out hd (by omega) 1 (by omega) [58]).mono ?_; rintro e wx ⟨rfl, K2⟩; replace KN := K2; clear K2; rw [HPP.out]) | (go_at_call 63; refine (asm_word_has KN (by repeat (first | exact Has.here | refine Has.there ?_)) HT.out hd (by omega) HKD.out).mono ?_; rintro e wx ⟨rfl, K2⟩; replace KN := K2; clear K2) | (go_at_call 64; refine (reg_any _ _).mono ?_; rintro e w' ⟨rfl, rfl⟩; rw [← HRE.out]) | (go_at_call 65; refine (asm_fail_has KN (by repeat (first | exact Has.here | refine Has.there ?_)) HT.out hd (by omega) _).mono ?_; rintro e wx ⟨rfl, hb⟩) | ((with_reducible refine wpList_gate ?_); first | (refine wpList_kn_lookup KN rfl _ _ 61 rfl 3 .i64 (Maps.string_keyed Tryd.underlying9) Tryd.underlying61 Tryd.underlying3 (by rfl) rfl (by repeat (first | exact Has.here | refine Has.there ?_)) (.string (str (tk d j).text)) (.string (tk d j).text) rfl (labKey _ (HTL.out j)) ?_; intro c hc; rw [HHAS.out]) | ((refine gate_load (by rfl) ?_); first | (refine ks_load1 KN 61 Tryd.underlying61 ?_) | (refine ks_load1 KN 23 Tryd.underlying23 ?_) | (refine ks_load1 KN 3 Tryd.underlying3 ?_) | (refine ks_load1 KN 59 Tryd.underlying59 ?_) | (refine ks_load1 KN 9 Tryd.underlying9 ?_) | (refine ks_loadW KN 35 Tryd.underlying35 ?_)) | ((refine gate_store (by rfl) ?_); first | (refine ks_store1 KN 3 ?_; clear KN; intro wx KN) | (refine ks_storeW KN 35 ?_; clear KN; intro wx KN) | (refine ks_storeA KN 35 ?_; clear KN; intro wx KN) | (refine ks_store1 KN 21 ?_; clear KN; intro wx KN) | (refine ks_store1 KN 23 ?_; clear KN; intro wx KN)) | ((refine gate_new (by rfl) ?_); first | (refine ks_alloc KN 35 (q := 7) #[.int .i64 0, .int .i64 0, .int .i64 0, .int .i64 0, .int .i32 0] ?_; clear KN; intro g7 wx hg7 KN))))
              exact ⟨rfl, AsmPost.err (HLAB (HR.out.trans HE.out)) hb⟩
            · have HE := Lib.hid (aLabels_next (n := n) hfj HB.out hr ht)
              obtain ⟨r, hre⟩ : ∃ r, r = regOf (tk d j).text := ⟨_, rfl⟩
              rw [← hre] at hr
              have HRE := Lib.hid hre
              have HHAS := Lib.hid ((labD_at HD.out (tk d j).text).1.trans ht)
              have HNO := Lib.hid ht
              clear hre ht
              go_upto_region 7 with (first | (go_at_call 61; refine (asm_token_has KN (by repeat (first | exact Has.here | refine Has.there ?_)) HT.out hd (by omega) 0 (by omega)).mono ?_; rintro e wx ⟨rfl, K2⟩; replace KN := K2; clear K2; rw [show j + 0 = j from rfl]; unfold tokC) | (go_at_call 62; refine (asm_is_has KN (by repeat (first | exact Has.here | refine Has.there ?_)) HT.out hd (by omega) 1 (by omega) [58]).mono ?_; rintro e wx ⟨rfl, K2⟩; replace KN := K2; clear K2; rw [HPP.out]) | (go_at_call 63; refine (asm_word_has KN (by repeat (first | exact Has.here | refine Has.there ?_)) HT.out hd (by omega) HKD.out).mono ?_; rintro e wx ⟨rfl, K2⟩; replace KN := K2; clear K2) | (go_at_call 64; refine (reg_any _ _).mono ?_; rintro e w' ⟨rfl, rfl⟩; rw [← HRE.out]) | ((with_reducible refine wpList_gate ?_); first | (refine wpList_kn_lookup KN rfl _ _ 61 rfl 3 .i64 (Maps.string_keyed Tryd.underlying9) Tryd.underlying61 Tryd.underlying3 (by rfl) rfl (by repeat (first | exact Has.here | refine Has.there ?_)) (.string (str (tk d j).text)) (.string (tk d j).text) rfl (labKey _ (HTL.out j)) ?_; intro c hc; rw [HHAS.out]) | ((refine gate_load (by rfl) ?_); first | (refine ks_load1 KN 61 Tryd.underlying61 ?_) | (refine ks_load1 KN 23 Tryd.underlying23 ?_) | (refine ks_load1 KN 3 Tryd.underlying3 ?_) | (refine ks_load1 KN 59 Tryd.underlying59 ?_) | (refine ks_load1 KN 9 Tryd.underlying9 ?_) | (refine ks_loadW KN 35 Tryd.underlying35 ?_)) | ((refine gate_store (by rfl) ?_); first | (refine ks_store1 KN 3 ?_; clear KN; intro wx KN) | (refine ks_storeW KN 35 ?_; clear KN; intro wx KN) | (refine ks_storeA KN 35 ?_; clear KN; intro wx KN) | (refine ks_store1 KN 21 ?_; clear KN; intro wx KN) | (refine ks_store1 KN 23 ?_; clear KN; intro wx KN)) | ((refine gate_new (by rfl) ?_); first | (refine ks_alloc KN 35 (q := 7) #[.int .i64 0, .int .i64 0, .int .i64 0, .int .i64 0, .int .i32 0] ?_; clear KN; intro g7 wx hg7 KN))))
              have c5 := KN.cell (g := g) (o := 5) (by repeat (first | exact Has.here | refine Has.there ?_)) rfl
              have c6 := KN.cell (g := g) (o := 6) (by repeat (first | exact Has.here | refine Has.there ?_)) rfl
              go_still_tail 10, (by kernel_rfl)
              replace KN := KN.drew
              clear c5 c6
              go_wp2_with (first | ((with_reducible refine wpList_gate ?_); first | (refine wpList_kn_mapUpdate (n := ls.length) (D := labD ls) KN rfl _ _ _ 61 rfl 3 (Maps.string_keyed Tryd.underlying9) Tryd.underlying61 rfl (by unfold maxLen; omega) (.string (str (tk d j).text)) (.int .i64 n) (.string (tk d j).text) rfl rfl (labKey _ (HTL.out j)) (.lit (.int .i64 n)) [] (labVal n (by omega)) (by repeat (first | exact Repl.here | apply Repl.there)) ?_; clear KN; intro wx KN; replace KN := KN.weak (g := m) (Φ' := labM (ls ++ [((tk d j).text, n)])) (fun _ ho => labM_snoc (x := ((tk d j).text, n)) ho) (by repeat (first | exact Repl.here | apply Repl.there))) | ((refine gate_load (by rfl) ?_); first | (refine ks_load1 KN 61 Tryd.underlying61 ?_) | (refine ks_load1 KN 23 Tryd.underlying23 ?_) | (refine ks_load1 KN 3 Tryd.underlying3 ?_) | (refine ks_load1 KN 59 Tryd.underlying59 ?_) | (refine ks_load1 KN 9 Tryd.underlying9 ?_) | (refine ks_loadW KN 35 Tryd.underlying35 ?_)) | ((refine gate_store (by rfl) ?_); first | (refine wpList_kn_store1 KN (by rfl) 3 _ (.tmp 50) rfl g 1 rfl (.int .i64 ((j : Int) + 2)) rfl rfl _ _ (by repeat (first | exact Repl.here | apply Repl.there)) (by simp) (by kernel_rfl) (by rfl) ?_; clear KN; intro wx KN; replace KN := KN.as_ g (asmC tv (j + 2) el ec (asmT t) (.slice pa n pc) (.map (some m)) ov) (by repeat (first | exact Repl.here | apply Repl.there)) (by rfl)) | (refine ks_store1 KN 3 ?_; clear KN; intro wx KN) | (refine ks_storeW KN 35 ?_; clear KN; intro wx KN) | (refine ks_storeA KN 35 ?_; clear KN; intro wx KN) | (refine ks_store1 KN 21 ?_; clear KN; intro wx KN) | (refine ks_store1 KN 23 ?_; clear KN; intro wx KN)) | ((refine gate_new (by rfl) ?_); first | (refine ks_alloc KN 35 (q := 7) #[.int .i64 0, .int .i64 0, .int .i64 0, .int .i64 0, .int .i32 0] ?_; clear KN; intro g7 wx hg7 KN))))
              obtain ⟨f', hf', HE'⟩ := HE.out
              go_round
              case rel => (repeat apply Exists.intro); exact ⟨⟨j + 2, f', ls ++ [((tk d j).text, n)], HR.out.trans HE', by omega, by rw [List.length_append]; simp; omega, by omega, Dist.snoc (x := ((tk d j).text, n)) HD.out (by simpa using HNO.out), KN⟩, rfl⟩
              case measure => rw [HAT.out, asmAt_eq KN (by repeat (first | exact Has.here | refine Has.there ?_))]; omega
        · have HE := Lib.hid (aLabels_stop (n := n) (f := f) (ls := ls) (show ¬ ((tk d j).kind = 1 ∧ isP d (j + 1) [58] = true) by rw [hp]; simp))
          have HPP := Lib.hid hp
          clear hkd hp
          go_wp2_with (first | (go_at_call 61; refine (asm_token_has KN (by repeat (first | exact Has.here | refine Has.there ?_)) HT.out hd (by omega) 0 (by omega)).mono ?_; rintro e wx ⟨rfl, K2⟩; replace KN := K2; clear K2; rw [show j + 0 = j from rfl]; unfold tokC) | (go_at_call 62; refine (asm_is_has KN (by repeat (first | exact Has.here | refine Has.there ?_)) HT.out hd (by omega) 1 (by omega) [58]).mono ?_; rintro e wx ⟨rfl, K2⟩; replace KN := K2; clear K2; rw [HPP.out]) | ((with_reducible refine wpList_gate ?_); first | ((refine gate_load (by rfl) ?_); first | (refine ks_load1 KN 61 Tryd.underlying61 ?_) | (refine ks_load1 KN 23 Tryd.underlying23 ?_) | (refine ks_load1 KN 3 Tryd.underlying3 ?_) | (refine ks_load1 KN 59 Tryd.underlying59 ?_) | (refine ks_load1 KN 9 Tryd.underlying9 ?_) | (refine ks_loadW KN 35 Tryd.underlying35 ?_)) | ((refine gate_store (by rfl) ?_); first | (refine ks_store1 KN 3 ?_; clear KN; intro wx KN) | (refine ks_storeW KN 35 ?_; clear KN; intro wx KN) | (refine ks_storeA KN 35 ?_; clear KN; intro wx KN) | (refine ks_store1 KN 21 ?_; clear KN; intro wx KN) | (refine ks_store1 KN 23 ?_; clear KN; intro wx KN)) | ((refine gate_new (by rfl) ?_); first | (refine ks_alloc KN 35 (q := 7) #[.int .i64 0, .int .i64 0, .int .i64 0, .int .i64 0, .int .i32 0] ?_; clear KN; intro g7 wx hg7 KN))))
          go_meet
          exact ⟨j, ls, HR.out.trans HE.out, hj, hlj, HD.out, KN⟩
      · have hk' : ((tk d j).kind == 1) = false := by rw [beq_eq_false_iff_ne]; exact hkd
        have HE := Lib.hid (aLabels_stop (n := n) (f := f) (ls := ls) (show ¬ ((tk d j).kind = 1 ∧ isP d (j + 1) [58] = true) from fun q => hkd q.1))
        clear hkd
        go_wp2_with (first | (go_at_call 61; refine (asm_token_has KN (by repeat (first | exact Has.here | refine Has.there ?_)) HT.out hd (by omega) 0 (by omega)).mono ?_; rintro e wx ⟨rfl, K2⟩; replace KN := K2; clear K2; rw [show j + 0 = j from rfl]; unfold tokC) | (go_at_call 62; refine (asm_is_has KN (by repeat (first | exact Has.here | refine Has.there ?_)) HT.out hd (by omega) 1 (by omega) [58]).mono ?_; rintro e wx ⟨rfl, K2⟩; replace KN := K2; clear K2) | ((with_reducible refine wpList_gate ?_); first | ((refine gate_load (by rfl) ?_); first | (refine ks_load1 KN 61 Tryd.underlying61 ?_) | (refine ks_load1 KN 23 Tryd.underlying23 ?_) | (refine ks_load1 KN 3 Tryd.underlying3 ?_) | (refine ks_load1 KN 59 Tryd.underlying59 ?_) | (refine ks_load1 KN 9 Tryd.underlying9 ?_) | (refine ks_loadW KN 35 Tryd.underlying35 ?_)) | ((refine gate_store (by rfl) ?_); first | (refine ks_store1 KN 3 ?_; clear KN; intro wx KN) | (refine ks_storeW KN 35 ?_; clear KN; intro wx KN) | (refine ks_storeA KN 35 ?_; clear KN; intro wx KN) | (refine ks_store1 KN 21 ?_; clear KN; intro wx KN) | (refine ks_store1 KN 23 ?_; clear KN; intro wx KN)) | ((refine gate_new (by rfl) ?_); first | (refine ks_alloc KN 35 (q := 7) #[.int .i64 0, .int .i64 0, .int .i64 0, .int .i64 0, .int .i32 0] ?_; clear KN; intro g7 wx hg7 KN))))
        go_meet
        exact ⟨j, ls, HR.out.trans HE.out, hj, hlj, HD.out, KN⟩
  case rest =>
    clear KN hr0
    obtain ⟨j, ls, hr, hj, hlj, hD, KN⟩ := hcut
    have hR1 : aInstr d s = aBody d ⟨j, s.prog, ls, s.uses⟩ := by unfold aInstr; rw [← HN.out, ← HR0.out, hr]
    clear hr HLAB HR0
    have HD := Lib.hid hD
    have HR1 := Lib.hid hR1
    clear hD hR1
    by_cases hkd : (tk d j).kind = 1
    · have HKD := Lib.hid hkd
      have hlt := kind_lt (d := d) (i := j) (by rw [hkd]; decide)
      obtain ⟨nm, hnm⟩ : ∃ nm, nm = (tk d j).text := ⟨_, rfl⟩
      obtain ⟨sv, hsv⟩ : ∃ sv, sv = str nm := ⟨_, rfl⟩
      have HNM := Lib.hid hnm
      have HSV := Lib.hid hsv
      clear hkd hnm hsv
      go_upto_block 2 with (first | (go_at_call 63; refine (asm_word_has KN (by repeat (first | exact Has.here | refine Has.there ?_)) HT.out hd (by omega) HKD.out).mono ?_; rintro e wx ⟨rfl, K2⟩; replace KN := K2; clear K2; rw [← HNM.out, ← HSV.out]) | ((with_reducible refine wpList_gate ?_); first | ((refine gate_load (by rfl) ?_); first | (refine ks_load1 KN 61 Tryd.underlying61 ?_) | (refine ks_load1 KN 23 Tryd.underlying23 ?_) | (refine ks_load1 KN 3 Tryd.underlying3 ?_) | (refine ks_load1 KN 59 Tryd.underlying59 ?_) | (refine ks_load1 KN 9 Tryd.underlying9 ?_) | (refine ks_loadW KN 35 Tryd.underlying35 ?_)) | ((refine gate_store (by rfl) ?_); first | (refine ks_store1 KN 3 ?_; clear KN; intro wx KN) | (refine ks_storeW KN 35 ?_; clear KN; intro wx KN) | (refine ks_storeA KN 35 ?_; clear KN; intro wx KN) | (refine ks_store1 KN 21 ?_; clear KN; intro wx KN) | (refine ks_store1 KN 23 ?_; clear KN; intro wx KN)) | ((refine gate_new (by rfl) ?_); first | (refine ks_alloc KN 35 (q := 7) #[.int .i64 0, .int .i64 0, .int .i64 0, .int .i64 0, .int .i32 0] ?_; clear KN; intro g7 wx hg7 KN))))
      have c4 := KN.cell (g := g) (o := 4) (by repeat (first | exact Has.here | refine Has.there ?_)) rfl
      have ft : FT wx t := KN.at_ (by repeat (first | exact Has.here | refine Has.there ?_))
      have HF := Lib.hid ft
      clear ft
      go_cut [6] (fun s6 wz => ∃ k : Nat, k ≤ 28 ∧ s6 = .int .i64 (k : Int) ∧ mnemIx nm = (if k = 28 then -1 else (k : Int)) ∧ wx = wz)
      case first =>
        go_wp2_with fail
        go_loop [6] (fun s6 => ∃ k : Nat, k ≤ 28 ∧ s6 = .int .i64 (k : Int) ∧ mnemIx nm = mnemFrom nm (28 - k) k) (fun s6 => 28 - (intOf s6).toNat)
        case atStart => exact ⟨0, by omega, rfl, rfl⟩
        case round =>
          obtain ⟨k, hk, rfl, hm⟩ := hrel
          by_cases hlt : k < 28
          · rw [mnemFrom_step nm k hlt] at hm
            have hc := (HF.out.cell (k : Int) (by omega) (by omega)).1
            rw [Int.toNat_natCast] at hc
            obtain ⟨u, hu⟩ : ∃ u, u = str (mnemOf k) := ⟨_, rfl⟩
            rw [← hu] at hc
            have hq : (u.toList == sv.toList) = decide (mnemL.getD k [] = nm) := by rw [hu, HSV.out, Lib.toList_data, Lib.toList_data, data_str, data_str, Bool.eq_iff_iff]; unfold mnemOf; rw [Int.toNat_natCast]; simp
            have HU := Lib.hid hu
            clear hu
            by_cases he : mnemL.getD k [] = nm
            · rw [if_pos he] at hm
              rw [decide_eq_true he] at hq
              have HM := Lib.hid hm
              clear hm he
              go_wp2_with fail
              go_meet
              exact ⟨k, by omega, rfl, by rw [if_neg (by omega)]; exact HM.out, rfl⟩
            · rw [if_neg he] at hm
              rw [decide_eq_false he] at hq
              have HM := Lib.hid hm
              clear hm he
              go_wp2_with fail
              go_round
              case rel => exact ⟨k + 1, by omega, by go_num, HM.out⟩
              case measure => simp [intOf]; omega
          · have : k = 28 := by omega
            subst this
            have HM := Lib.hid hm
            clear hm
            go_wp2_with fail
            go_meet
            exact ⟨28, by omega, rfl, by rw [if_pos rfl]; exact HM.out, rfl⟩
      case rest =>
        obtain ⟨k, hk, rfl, hm, rfl⟩ := hcut
        clear c4
        by_cases h28 : k = 28
        · subst h28
          rw [if_pos rfl] at hm
          have HE := Lib.hid (aBody_mnem (d := d) (s := ⟨j, s.prog, ls, s.uses⟩) HKD.out (by show mnemIx (tk d j).text < 0; rw [← HNM.out, hm]; decide))
          clear hm
          go_wp2_with (first | (go_at_call 65; refine (asm_fail_has KN (by repeat (first | exact Has.here | refine Has.there ?_)) HT.out hd (by omega) _).mono ?_; rintro e wx ⟨rfl, hb⟩) | ((with_reducible refine wpList_gate ?_); first | ((refine gate_load (by rfl) ?_); first | (refine ks_load1 KN 61 Tryd.underlying61 ?_) | (refine ks_load1 KN 23 Tryd.underlying23 ?_) | (refine ks_load1 KN 3 Tryd.underlying3 ?_) | (refine ks_load1 KN 59 Tryd.underlying59 ?_) | (refine ks_load1 KN 9 Tryd.underlying9 ?_) | (refine ks_loadW KN 35 Tryd.underlying35 ?_)) | ((refine gate_store (by rfl) ?_); first | (refine ks_store1 KN 3 ?_; clear KN; intro wx KN) | (refine ks_storeW KN 35 ?_; clear KN; intro wx KN) | (refine ks_storeA KN 35 ?_; clear KN; intro wx KN) | (refine ks_store1 KN 21 ?_; clear KN; intro wx KN) | (refine ks_store1 KN 23 ?_; clear KN; intro wx KN)) | ((refine gate_new (by rfl) ?_); first | (refine ks_alloc KN 35 (q := 7) #[.int .i64 0, .int .i64 0, .int .i64 0, .int .i64 0, .int .i32 0] ?_; clear KN; intro g7 wx hg7 KN))))
          exact ⟨rfl, AsmPost.err (HR1.out.trans HE.out) hb⟩
        · rw [if_neg h28] at hm
          have hm0 : ¬ mnemIx (tk d j).text < 0 := by rw [← HNM.out, hm]; omega
          have h28' : ((k : Int) == 28) = false := by rw [beq_eq_false_iff_ne]; omega
          by_cases h4 : n = 4096
          · have HE := Lib.hid (aBody_many (d := d) (s := ⟨j, s.prog, ls, s.uses⟩) HKD.out hm0 (HN.out.symm.trans h4))
            have h4' : ((n : Int) == 4096) = true := by rw [h4]; rfl
            clear hm hm0 h4
            go_wp2_with (first | (go_at_call 65; refine (asm_fail_has KN (by repeat (first | exact Has.here | refine Has.there ?_)) HT.out hd (by omega) _).mono ?_; rintro e wx ⟨rfl, hb⟩) | ((with_reducible refine wpList_gate ?_); first | ((refine gate_load (by rfl) ?_); first | (refine ks_load1 KN 61 Tryd.underlying61 ?_) | (refine ks_load1 KN 23 Tryd.underlying23 ?_) | (refine ks_load1 KN 3 Tryd.underlying3 ?_) | (refine ks_load1 KN 59 Tryd.underlying59 ?_) | (refine ks_load1 KN 9 Tryd.underlying9 ?_) | (refine ks_loadW KN 35 Tryd.underlying35 ?_)) | ((refine gate_store (by rfl) ?_); first | (refine ks_store1 KN 3 ?_; clear KN; intro wx KN) | (refine ks_storeW KN 35 ?_; clear KN; intro wx KN) | (refine ks_storeA KN 35 ?_; clear KN; intro wx KN) | (refine ks_store1 KN 21 ?_; clear KN; intro wx KN) | (refine ks_store1 KN 23 ?_; clear KN; intro wx KN)) | ((refine gate_new (by rfl) ?_); first | (refine ks_alloc KN 35 (q := 7) #[.int .i64 0, .int .i64 0, .int .i64 0, .int .i64 0, .int .i32 0] ?_; clear KN; intro g7 wx hg7 KN))))
            exact ⟨rfl, AsmPost.err (HR1.out.trans HE.out) hb⟩
          · have hRB := aBody_rest (d := d) (s := ⟨j, s.prog, ls, s.uses⟩) HKD.out hm0 (fun q => h4 (HN.out.trans q))
            have h4' : ((n : Int) == 4096) = false := by rw [beq_eq_false_iff_ne]; omega
            rw [show (tk d j).text = nm from HNM.out.symm, hm] at hRB
            rw [← HN.out] at hRB
            obtain ⟨r2, hr2⟩ : ∃ r2, r2 = aOperands d n true (operandsOf k) ⟨k, 0, 0, 0, 0⟩ (j + 1) [] := ⟨_, rfl⟩
            rw [← hr2] at hRB
            have HR2 := Lib.hid hr2
            have HRB := Lib.hid (HR1.out.trans hRB)
            obtain ⟨hlen, hlet⟩ := opsOf_nat k (by omega)
            obtain ⟨ops, hops⟩ : ∃ ops, ops = operandsOf k := ⟨_, rfl⟩
            rw [← hops] at hlen hlet
            obtain ⟨so, hso⟩ : ∃ so, so = str ops := ⟨_, rfl⟩
            have hsz : so.size = ops.length := by rw [hso, str_size]
            have hsd : so.data.toList = ops := by rw [hso, data_str]
            have HL := Lib.hid hlet
            have HS := Lib.hid hso
            have HSD := Lib.hid hsd
            have HOPS := Lib.hid hops
            have HSZ := Lib.hid hsz
            rw [← hsz] at hlen
            clear hm hm0 hr2 hRB hlet hops hso hsz hsd
            go_upto_region 19 with (first | ((with_reducible refine wpList_gate ?_); first | ((refine gate_load (by rfl) ?_); first | (refine ks_load1 KN 61 Tryd.underlying61 ?_) | (refine ks_load1 KN 23 Tryd.underlying23 ?_) | (refine ks_load1 KN 3 Tryd.underlying3 ?_) | (refine ks_load1 KN 59 Tryd.underlying59 ?_) | (refine ks_load1 KN 9 Tryd.underlying9 ?_) | (refine ks_loadW KN 35 Tryd.underlying35 ?_)) | ((refine gate_store (by rfl) ?_); first | (refine wpList_kn_store1 KN (by rfl) 3 _ (.tmp 99) rfl g 1 rfl (.int .i64 ((j : Int) + 1)) rfl rfl _ _ (by repeat (first | exact Repl.here | apply Repl.there)) (by simp) (by kernel_rfl) (by rfl) ?_; clear KN; intro wx KN; replace KN := KN.as_ g (asmC tv (j + 1) el ec (asmT t) (.slice pa n pc) (.map (some m)) ov) (by repeat (first | exact Repl.here | apply Repl.there)) (by rfl)) | (refine ks_store1 KN 3 ?_; clear KN; intro wx KN) | (refine ks_storeW KN 35 ?_; clear KN; intro wx KN) | (refine ks_storeA KN 35 ?_; clear KN; intro wx KN) | (refine ks_store1 KN 21 ?_; clear KN; intro wx KN) | (refine ks_store1 KN 23 ?_; clear KN; intro wx KN)) | ((refine gate_new (by rfl) ?_); first | (refine wpList_built rfl 35 _ rfl (Ins.mk k 0 0 0 0).cells (by kernel_rfl) ?_) | (refine ks_alloc KN 35 (q := 7) #[.int .i64 0, .int .i64 0, .int .i64 0, .int .i64 0, .int .i32 0] ?_; clear KN; intro g7 wx hg7 KN))))
            go_frame
            have c4 := KN.cell (g := g) (o := 4) (by repeat (first | exact Has.here | refine Has.there ?_)) rfl
            have ft : FT wx t := KN.at_ (by repeat (first | exact Has.here | refine Has.there ?_))
            have hc2 := (ft.cell (k : Int) (by omega) (by omega)).2
            rw [Int.toNat_natCast, ← HOPS.out, ← HS.out] at hc2
            clear ft
            go_wp2_with fail
            clear c4 hc2
            go_loopw [8, 113] (fun _ s113 wr => OpsRel W g7 g m t tv el ec d pa n pc pl L s.uses ls r2 ops s113 wr) (fun _ s113 _ => so.size - (intOf s113).toNat)
            case atStart => exact ⟨0, j + 1, ⟨k, 0, 0, 0, 0⟩, [], ov, ol, rfl, Nat.zero_le _, by rw [HR2.out, HOPS.out]; rfl, hlt, Nat.zero_le _, by rw [List.append_nil]; exact HO.out, KN⟩
            case round =>
              clear KN
              obtain ⟨q, i, x, us, ov', ol', rfl, hq, hrr, hi2, hul, OW, KN⟩ := hrel
              have HOW := Lib.hid OW
              clear OW
              rw [← HSZ.out] at hq
              by_cases hlq : q < so.size
              · have hmem : so[q] ∈ ops := by rw [← HSD.out]; exact List.getElem_mem (l := so.data.toList) hlq
                have hdr : ops.drop q = so[q] :: ops.drop (q + 1) := by rw [← HSD.out]; exact (List.drop_eq_getElem_cons (l := so.data.toList) hlq)
                rw [hdr] at hrr
                clear hdr
                have hc' := HL.out _ hmem
                clear hmem
                by_cases hq0 : q = 0
                · rw [decide_eq_true hq0, aOps_first'] at hrr
                  have hq1 : ¬ 0 < q := by omega
                  clear hq0
                  have HRR0 := Lib.hid hrr
                  have HC' := Lib.hid hc'
                  clear hrr hc'
                  go_upto_region 24 with fail
                  have c4 := KN.cell (g := g) (o := 4) (by repeat (first | exact Has.here | refine Has.there ?_)) rfl
                  have ft : FT wr t := KN.at_ (by repeat (first | exact Has.here | refine Has.there ?_))
                  have hc2 := (ft.cell (k : Int) (by omega) (by omega)).2
                  rw [Int.toNat_natCast, ← HOPS.out, ← HS.out] at hc2
                  clear ft
                  have hrr := HRR0.out
                  clear HRR0
                  rcases HC'.out with hc | hc | hc | hc | hc
                  · have HC := Lib.hid (show opIx so[q] = 0 by rw [hc]; rfl)
                    rw [hc, aOp_a] at hrr
                    clear hc
                    cases hA : aReg d (i) with
                    | error y =>
                      rw [hA] at hrr
                      have HA := Lib.hid hA
                      have HE := Lib.hid (HRB.out.trans (congrArg (aRest d _) hrr))
                      clear hA hrr
                      go_wp2_with (first | (go_at_call 45; refine (operand_any _ _).mono ?_; rintro e w' ⟨rfl, rfl⟩; rw [HC.out]) | (go_at_call 67; refine (asm_reg_bad (KN.perm (List.Perm.swap _ _ _)) HT.out hd (by omega) HA.out).mono ?_; rintro e wx ⟨rfl, hb⟩) | ((with_reducible refine wpList_gate ?_); first | ((refine gate_load (by rfl) ?_); first | (refine ks_load1 KN 61 Tryd.underlying61 ?_) | (refine ks_load1 KN 23 Tryd.underlying23 ?_) | (refine ks_load1 KN 3 Tryd.underlying3 ?_) | (refine ks_load1 KN 59 Tryd.underlying59 ?_) | (refine ks_load1 KN 9 Tryd.underlying9 ?_) | (refine ks_loadW KN 35 Tryd.underlying35 ?_)) | ((refine gate_store (by rfl) ?_); first | (refine ks_store1 KN 3 ?_; clear KN; intro wx KN) | (refine ks_storeW KN 35 ?_; clear KN; intro wx KN) | (refine ks_storeA KN 35 ?_; clear KN; intro wx KN) | (refine ks_store1 KN 21 ?_; clear KN; intro wx KN) | (refine ks_store1 KN 23 ?_; clear KN; intro wx KN)) | ((refine gate_new (by rfl) ?_); first | (refine ks_alloc KN 35 (q := 7) #[.int .i64 0, .int .i64 0, .int .i64 0, .int .i64 0, .int .i32 0] ?_; clear KN; intro g7 wx hg7 KN))))
                      exact ⟨rfl, AsmPost.err HE.out hb⟩
                    | ok r =>
                      rw [hA] at hrr
                      have HA := Lib.hid hA
                      have HRR := Lib.hid hrr
                      clear hA hrr
                      go_wp2_with (first | (go_at_call 45; refine (operand_any _ _).mono ?_; rintro e w' ⟨rfl, rfl⟩; rw [HC.out]) | (go_at_call 67; refine (asm_reg (KN.perm (List.Perm.swap _ _ _)) HT.out hd (by omega) HA.out).mono ?_; rintro e wx ⟨rfl, K2⟩; replace KN := K2.perm (List.Perm.swap _ _ _); clear K2) | ((with_reducible refine wpList_gate ?_); first | ((refine gate_load (by rfl) ?_); first | (refine ks_load1 KN 61 Tryd.underlying61 ?_) | (refine ks_load1 KN 23 Tryd.underlying23 ?_) | (refine ks_load1 KN 3 Tryd.underlying3 ?_) | (refine ks_load1 KN 59 Tryd.underlying59 ?_) | (refine ks_load1 KN 9 Tryd.underlying9 ?_) | (refine ks_loadW KN 35 Tryd.underlying35 ?_)) | ((refine gate_store (by rfl) ?_); first | (refine ks_store1 KN 3 ?_; clear KN; intro wx KN) | (refine ks_storeW KN 35 ?_; clear KN; intro wx KN) | (refine ks_storeA KN 35 ?_; clear KN; intro wx KN) | (refine ks_store1 KN 21 ?_; clear KN; intro wx KN) | (refine ks_store1 KN 23 ?_; clear KN; intro wx KN)) | ((refine gate_new (by rfl) ?_); first | (refine ks_alloc KN 35 (q := 7) #[.int .i64 0, .int .i64 0, .int .i64 0, .int .i64 0, .int .i32 0] ?_; clear KN; intro g7 wx hg7 KN))))
                      go_round
                      case rel => exact ⟨q + 1, (i) + 1, { x with a := r }, us ++ [], ov', ol', by go_num, by rw [← HSZ.out]; omega, HRR.out, by have := aReg_lt HA.out; omega, by simp; omega, by rw [List.append_nil]; exact HOW.out, KN.as_ g7 _ (by repeat (first | exact Repl.here | apply Repl.there)) (by kernel_rfl)⟩
                      case measure => simp [intOf]; omega
                  · have HC := Lib.hid (show opIx so[q] = 1 by rw [hc]; rfl)
                    rw [hc, aOp_b] at hrr
                    clear hc
                    cases hA : aReg d (i) with
                    | error y =>
                      rw [hA] at hrr
                      have HA := Lib.hid hA
                      have HE := Lib.hid (HRB.out.trans (congrArg (aRest d _) hrr))
                      clear hA hrr
                      go_wp2_with (first | (go_at_call 45; refine (operand_any _ _).mono ?_; rintro e w' ⟨rfl, rfl⟩; rw [HC.out]) | (go_at_call 67; refine (asm_reg_bad (KN.perm (List.Perm.swap _ _ _)) HT.out hd (by omega) HA.out).mono ?_; rintro e wx ⟨rfl, hb⟩) | ((with_reducible refine wpList_gate ?_); first | ((refine gate_load (by rfl) ?_); first | (refine ks_load1 KN 61 Tryd.underlying61 ?_) | (refine ks_load1 KN 23 Tryd.underlying23 ?_) | (refine ks_load1 KN 3 Tryd.underlying3 ?_) | (refine ks_load1 KN 59 Tryd.underlying59 ?_) | (refine ks_load1 KN 9 Tryd.underlying9 ?_) | (refine ks_loadW KN 35 Tryd.underlying35 ?_)) | ((refine gate_store (by rfl) ?_); first | (refine ks_store1 KN 3 ?_; clear KN; intro wx KN) | (refine ks_storeW KN 35 ?_; clear KN; intro wx KN) | (refine ks_storeA KN 35 ?_; clear KN; intro wx KN) | (refine ks_store1 KN 21 ?_; clear KN; intro wx KN) | (refine ks_store1 KN 23 ?_; clear KN; intro wx KN)) | ((refine gate_new (by rfl) ?_); first | (refine ks_alloc KN 35 (q := 7) #[.int .i64 0, .int .i64 0, .int .i64 0, .int .i64 0, .int .i32 0] ?_; clear KN; intro g7 wx hg7 KN))))
                      exact ⟨rfl, AsmPost.err HE.out hb⟩
                    | ok r =>
                      rw [hA] at hrr
                      have HA := Lib.hid hA
                      have HRR := Lib.hid hrr
                      clear hA hrr
                      go_wp2_with (first | (go_at_call 45; refine (operand_any _ _).mono ?_; rintro e w' ⟨rfl, rfl⟩; rw [HC.out]) | (go_at_call 67; refine (asm_reg (KN.perm (List.Perm.swap _ _ _)) HT.out hd (by omega) HA.out).mono ?_; rintro e wx ⟨rfl, K2⟩; replace KN := K2.perm (List.Perm.swap _ _ _); clear K2) | ((with_reducible refine wpList_gate ?_); first | ((refine gate_load (by rfl) ?_); first | (refine ks_load1 KN 61 Tryd.underlying61 ?_) | (refine ks_load1 KN 23 Tryd.underlying23 ?_) | (refine ks_load1 KN 3 Tryd.underlying3 ?_) | (refine ks_load1 KN 59 Tryd.underlying59 ?_) | (refine ks_load1 KN 9 Tryd.underlying9 ?_) | (refine ks_loadW KN 35 Tryd.underlying35 ?_)) | ((refine gate_store (by rfl) ?_); first | (refine ks_store1 KN 3 ?_; clear KN; intro wx KN) | (refine ks_storeW KN 35 ?_; clear KN; intro wx KN) | (refine ks_storeA KN 35 ?_; clear KN; intro wx KN) | (refine ks_store1 KN 21 ?_; clear KN; intro wx KN) | (refine ks_store1 KN 23 ?_; clear KN; intro wx KN)) | ((refine gate_new (by rfl) ?_); first | (refine ks_alloc KN 35 (q := 7) #[.int .i64 0, .int .i64 0, .int .i64 0, .int .i64 0, .int .i32 0] ?_; clear KN; intro g7 wx hg7 KN))))
                      go_round
                      case rel => exact ⟨q + 1, (i) + 1, { x with b := r }, us ++ [], ov', ol', by go_num, by rw [← HSZ.out]; omega, HRR.out, by have := aReg_lt HA.out; omega, by simp; omega, by rw [List.append_nil]; exact HOW.out, KN.as_ g7 _ (by repeat (first | exact Repl.here | apply Repl.there)) (by kernel_rfl)⟩
                      case measure => simp [intOf]; omega
                  · have HC := Lib.hid (show opIx so[q] = 2 by rw [hc]; rfl)
                    rw [hc, aOp_c] at hrr
                    clear hc
                    cases hA : aReg d (i) with
                    | error y =>
                      rw [hA] at hrr
                      have HA := Lib.hid hA
                      have HE := Lib.hid (HRB.out.trans (congrArg (aRest d _) hrr))
                      clear hA hrr
                      go_wp2_with (first | (go_at_call 45; refine (operand_any _ _).mono ?_; rintro e w' ⟨rfl, rfl⟩; rw [HC.out]) | (go_at_call 67; refine (asm_reg_bad (KN.perm (List.Perm.swap _ _ _)) HT.out hd (by omega) HA.out).mono ?_; rintro e wx ⟨rfl, hb⟩) | ((with_reducible refine wpList_gate ?_); first | ((refine gate_load (by rfl) ?_); first | (refine ks_load1 KN 61 Tryd.underlying61 ?_) | (refine ks_load1 KN 23 Tryd.underlying23 ?_) | (refine ks_load1 KN 3 Tryd.underlying3 ?_) | (refine ks_load1 KN 59 Tryd.underlying59 ?_) | (refine ks_load1 KN 9 Tryd.underlying9 ?_) | (refine ks_loadW KN 35 Tryd.underlying35 ?_)) | ((refine gate_store (by rfl) ?_); first | (refine ks_store1 KN 3 ?_; clear KN; intro wx KN) | (refine ks_storeW KN 35 ?_; clear KN; intro wx KN) | (refine ks_storeA KN 35 ?_; clear KN; intro wx KN) | (refine ks_store1 KN 21 ?_; clear KN; intro wx KN) | (refine ks_store1 KN 23 ?_; clear KN; intro wx KN)) | ((refine gate_new (by rfl) ?_); first | (refine ks_alloc KN 35 (q := 7) #[.int .i64 0, .int .i64 0, .int .i64 0, .int .i64 0, .int .i32 0] ?_; clear KN; intro g7 wx hg7 KN))))
                      exact ⟨rfl, AsmPost.err HE.out hb⟩
                    | ok r =>
                      rw [hA] at hrr
                      have HA := Lib.hid hA
                      have HRR := Lib.hid hrr
                      clear hA hrr
                      go_wp2_with (first | (go_at_call 45; refine (operand_any _ _).mono ?_; rintro e w' ⟨rfl, rfl⟩; rw [HC.out]) | (go_at_call 67; refine (asm_reg (KN.perm (List.Perm.swap _ _ _)) HT.out hd (by omega) HA.out).mono ?_; rintro e wx ⟨rfl, K2⟩; replace KN := K2.perm (List.Perm.swap _ _ _); clear K2) | ((with_reducible refine wpList_gate ?_); first | ((refine gate_load (by rfl) ?_); first | (refine ks_load1 KN 61 Tryd.underlying61 ?_) | (refine ks_load1 KN 23 Tryd.underlying23 ?_) | (refine ks_load1 KN 3 Tryd.underlying3 ?_) | (refine ks_load1 KN 59 Tryd.underlying59 ?_) | (refine ks_load1 KN 9 Tryd.underlying9 ?_) | (refine ks_loadW KN 35 Tryd.underlying35 ?_)) | ((refine gate_store (by rfl) ?_); first | (refine ks_store1 KN 3 ?_; clear KN; intro wx KN) | (refine ks_storeW KN 35 ?_; clear KN; intro wx KN) | (refine ks_storeA KN 35 ?_; clear KN; intro wx KN) | (refine ks_store1 KN 21 ?_; clear KN; intro wx KN) | (refine ks_store1 KN 23 ?_; clear KN; intro wx KN)) | ((refine gate_new (by rfl) ?_); first | (refine ks_alloc KN 35 (q := 7) #[.int .i64 0, .int .i64 0, .int .i64 0, .int .i64 0, .int .i32 0] ?_; clear KN; intro g7 wx hg7 KN))))
                      go_round
                      case rel => exact ⟨q + 1, (i) + 1, { x with c := r }, us ++ [], ov', ol', by go_num, by rw [← HSZ.out]; omega, HRR.out, by have := aReg_lt HA.out; omega, by simp; omega, by rw [List.append_nil]; exact HOW.out, KN.as_ g7 _ (by repeat (first | exact Repl.here | apply Repl.there)) (by kernel_rfl)⟩
                      case measure => simp [intOf]; omega
                  · have HC := Lib.hid (show opIx so[q] = 3 by rw [hc]; rfl)
                    rw [hc, aOp_i] at hrr
                    clear hc
                    cases hA : aImm d n false (i) with
                    | error y =>
                      rw [hA] at hrr
                      have HA := Lib.hid hA
                      have HE := Lib.hid (HRB.out.trans (congrArg (aRest d _) hrr))
                      clear hA hrr
                      go_wp2_with (first | (go_at_call 45; refine (operand_any _ _).mono ?_; rintro e w' ⟨rfl, rfl⟩; rw [HC.out]) | (go_at_call 68; refine (asm_imm (refs := s.uses ++ us) (KN.perm (imm_perm _ _ _ _ _ _ _)) HOW.out (by rw [List.length_append]; omega) HT.out hd (by omega) false HV.out).mono ?_; intro e wx hp; rw [HA.out] at hp; obtain ⟨rfl, hb⟩ := hp) | ((with_reducible refine wpList_gate ?_); first | ((refine gate_load (by rfl) ?_); first | (refine ks_load1 KN 61 Tryd.underlying61 ?_) | (refine ks_load1 KN 23 Tryd.underlying23 ?_) | (refine ks_load1 KN 3 Tryd.underlying3 ?_) | (refine ks_load1 KN 59 Tryd.underlying59 ?_) | (refine ks_load1 KN 9 Tryd.underlying9 ?_) | (refine ks_loadW KN 35 Tryd.underlying35 ?_)) | ((refine gate_store (by rfl) ?_); first | (refine ks_store1 KN 3 ?_; clear KN; intro wx KN) | (refine ks_storeW KN 35 ?_; clear KN; intro wx KN) | (refine ks_storeA KN 35 ?_; clear KN; intro wx KN) | (refine ks_store1 KN 21 ?_; clear KN; intro wx KN) | (refine ks_store1 KN 23 ?_; clear KN; intro wx KN)) | ((refine gate_new (by rfl) ?_); first | (refine ks_alloc KN 35 (q := 7) #[.int .i64 0, .int .i64 0, .int .i64 0, .int .i64 0, .int .i32 0] ?_; clear KN; intro g7 wx hg7 KN))))
                      exact ⟨rfl, AsmPost.err HE.out hb⟩
                    | ok z =>
                      obtain ⟨v, j2, vs⟩ := z
                      rw [hA] at hrr
                      have HA := Lib.hid hA
                      have HRR := Lib.hid hrr
                      clear hA hrr
                      go_wp2_with (first | (go_at_call 45; refine (operand_any _ _).mono ?_; rintro e w' ⟨rfl, rfl⟩; rw [HC.out]) | (go_at_call 68; refine (asm_imm (refs := s.uses ++ us) (KN.perm (imm_perm _ _ _ _ _ _ _)) HOW.out (by rw [List.length_append]; omega) HT.out hd (by omega) false HV.out).mono ?_; intro e wx hp; rw [HA.out] at hp; obtain ⟨rfl, ov2, ol2, OW2, K2⟩ := hp; replace KN := K2.perm (imm_perm _ _ _ _ _ _ _).symm; clear K2; replace OW2 := Lib.hid OW2) | ((with_reducible refine wpList_gate ?_); first | ((refine gate_load (by rfl) ?_); first | (refine ks_load1 KN 61 Tryd.underlying61 ?_) | (refine ks_load1 KN 23 Tryd.underlying23 ?_) | (refine ks_load1 KN 3 Tryd.underlying3 ?_) | (refine ks_load1 KN 59 Tryd.underlying59 ?_) | (refine ks_load1 KN 9 Tryd.underlying9 ?_) | (refine ks_loadW KN 35 Tryd.underlying35 ?_)) | ((refine gate_store (by rfl) ?_); first | (refine ks_store1 KN 3 ?_; clear KN; intro wx KN) | (refine ks_storeW KN 35 ?_; clear KN; intro wx KN) | (refine ks_storeA KN 35 ?_; clear KN; intro wx KN) | (refine ks_store1 KN 21 ?_; clear KN; intro wx KN) | (refine ks_store1 KN 23 ?_; clear KN; intro wx KN)) | ((refine gate_new (by rfl) ?_); first | (refine ks_alloc KN 35 (q := 7) #[.int .i64 0, .int .i64 0, .int .i64 0, .int .i64 0, .int .i32 0] ?_; clear KN; intro g7 wx hg7 KN))))
                      go_round
                      case rel => exact ⟨q + 1, j2, { x with imm := v }, us ++ vs, ov2, ol2, by go_num, by rw [← HSZ.out]; omega, HRR.out, (aImm_bd HA.out).1, by have := (aImm_bd HA.out).2; rw [List.length_append]; omega, by rw [← List.append_assoc]; exact OW2.out, KN.as_ g7 _ (by repeat (first | exact Repl.here | apply Repl.there)) (by kernel_rfl)⟩
                      case measure => simp [intOf]; omega
                  · have HC := Lib.hid (show opIx so[q] = 4 by rw [hc]; rfl)
                    rw [hc, aOp_t] at hrr
                    clear hc
                    cases hA : aImm d n true (i) with
                    | error y =>
                      rw [hA] at hrr
                      have HA := Lib.hid hA
                      have HE := Lib.hid (HRB.out.trans (congrArg (aRest d _) hrr))
                      clear hA hrr
                      go_wp2_with (first | (go_at_call 45; refine (operand_any _ _).mono ?_; rintro e w' ⟨rfl, rfl⟩; rw [HC.out]) | (go_at_call 68; refine (asm_imm (refs := s.uses ++ us) (KN.perm (imm_perm _ _ _ _ _ _ _)) HOW.out (by rw [List.length_append]; omega) HT.out hd (by omega) true HV.out).mono ?_; intro e wx hp; rw [HA.out] at hp; obtain ⟨rfl, hb⟩ := hp) | ((with_reducible refine wpList_gate ?_); first | ((refine gate_load (by rfl) ?_); first | (refine ks_load1 KN 61 Tryd.underlying61 ?_) | (refine ks_load1 KN 23 Tryd.underlying23 ?_) | (refine ks_load1 KN 3 Tryd.underlying3 ?_) | (refine ks_load1 KN 59 Tryd.underlying59 ?_) | (refine ks_load1 KN 9 Tryd.underlying9 ?_) | (refine ks_loadW KN 35 Tryd.underlying35 ?_)) | ((refine gate_store (by rfl) ?_); first | (refine ks_store1 KN 3 ?_; clear KN; intro wx KN) | (refine ks_storeW KN 35 ?_; clear KN; intro wx KN) | (refine ks_storeA KN 35 ?_; clear KN; intro wx KN) | (refine ks_store1 KN 21 ?_; clear KN; intro wx KN) | (refine ks_store1 KN 23 ?_; clear KN; intro wx KN)) | ((refine gate_new (by rfl) ?_); first | (refine ks_alloc KN 35 (q := 7) #[.int .i64 0, .int .i64 0, .int .i64 0, .int .i64 0, .int .i32 0] ?_; clear KN; intro g7 wx hg7 KN))))
                      exact ⟨rfl, AsmPost.err HE.out hb⟩
                    | ok z =>
                      obtain ⟨v, j2, vs⟩ := z
                      rw [hA] at hrr
                      have HA := Lib.hid hA
                      have HRR := Lib.hid hrr
                      clear hA hrr
                      go_wp2_with (first | (go_at_call 45; refine (operand_any _ _).mono ?_; rintro e w' ⟨rfl, rfl⟩; rw [HC.out]) | (go_at_call 68; refine (asm_imm (refs := s.uses ++ us) (KN.perm (imm_perm _ _ _ _ _ _ _)) HOW.out (by rw [List.length_append]; omega) HT.out hd (by omega) true HV.out).mono ?_; intro e wx hp; rw [HA.out] at hp; obtain ⟨rfl, ov2, ol2, OW2, K2⟩ := hp; replace KN := K2.perm (imm_perm _ _ _ _ _ _ _).symm; clear K2; replace OW2 := Lib.hid OW2) | ((with_reducible refine wpList_gate ?_); first | ((refine gate_load (by rfl) ?_); first | (refine ks_load1 KN 61 Tryd.underlying61 ?_) | (refine ks_load1 KN 23 Tryd.underlying23 ?_) | (refine ks_load1 KN 3 Tryd.underlying3 ?_) | (refine ks_load1 KN 59 Tryd.underlying59 ?_) | (refine ks_load1 KN 9 Tryd.underlying9 ?_) | (refine ks_loadW KN 35 Tryd.underlying35 ?_)) | ((refine gate_store (by rfl) ?_); first | (refine ks_store1 KN 3 ?_; clear KN; intro wx KN) | (refine ks_storeW KN 35 ?_; clear KN; intro wx KN) | (refine ks_storeA KN 35 ?_; clear KN; intro wx KN) | (refine ks_store1 KN 21 ?_; clear KN; intro wx KN) | (refine ks_store1 KN 23 ?_; clear KN; intro wx KN)) | ((refine gate_new (by rfl) ?_); first | (refine ks_alloc KN 35 (q := 7) #[.int .i64 0, .int .i64 0, .int .i64 0, .int .i64 0, .int .i32 0] ?_; clear KN; intro g7 wx hg7 KN))))
                      go_round
                      case rel => exact ⟨q + 1, j2, { x with imm := v }, us ++ vs, ov2, ol2, by go_num, by rw [← HSZ.out]; omega, HRR.out, (aImm_bd HA.out).1, by have := (aImm_bd HA.out).2; rw [List.length_append]; omega, by rw [← List.append_assoc]; exact OW2.out, KN.as_ g7 _ (by repeat (first | exact Repl.here | apply Repl.there)) (by kernel_rfl)⟩
                      case measure => simp [intOf]; omega
                · rw [decide_eq_false hq0] at hrr
                  have hq1 : 0 < q := by omega
                  clear hq0
                  rcases Bool.eq_false_or_eq_true (isP d i [44]) with hp | hp
                  · rw [aOps_next' hp] at hrr
                    have hlp := isP_lt hp
                    have HPP := Lib.hid hp
                    have HRR0 := Lib.hid hrr
                    have HC' := Lib.hid hc'
                    clear hrr hc' hp
                    go_upto_region 24 with (first | (go_at_call 66; refine (asm_expect (KN.perm (List.Perm.swap _ _ _)) HT.out hd (by omega) [44] HPP.out).mono ?_; rintro e wx ⟨rfl, K2⟩; replace KN := K2.perm (List.Perm.swap _ _ _); clear K2) | ((with_reducible refine wpList_gate ?_); first | ((refine gate_load (by rfl) ?_); first | (refine ks_load1 KN 61 Tryd.underlying61 ?_) | (refine ks_load1 KN 23 Tryd.underlying23 ?_) | (refine ks_load1 KN 3 Tryd.underlying3 ?_) | (refine ks_load1 KN 59 Tryd.underlying59 ?_) | (refine ks_load1 KN 9 Tryd.underlying9 ?_) | (refine ks_loadW KN 35 Tryd.underlying35 ?_)) | ((refine gate_store (by rfl) ?_); first | (refine ks_store1 KN 3 ?_; clear KN; intro wx KN) | (refine ks_storeW KN 35 ?_; clear KN; intro wx KN) | (refine ks_storeA KN 35 ?_; clear KN; intro wx KN) | (refine ks_store1 KN 21 ?_; clear KN; intro wx KN) | (refine ks_store1 KN 23 ?_; clear KN; intro wx KN)) | ((refine gate_new (by rfl) ?_); first | (refine ks_alloc KN 35 (q := 7) #[.int .i64 0, .int .i64 0, .int .i64 0, .int .i64 0, .int .i32 0] ?_; clear KN; intro g7 wx hg7 KN))))
                    have c4 := KN.cell (g := g) (o := 4) (by repeat (first | exact Has.here | refine Has.there ?_)) rfl
                    have ft : FT wx t := KN.at_ (by repeat (first | exact Has.here | refine Has.there ?_))
                    have hc2 := (ft.cell (k : Int) (by omega) (by omega)).2
                    rw [Int.toNat_natCast, ← HOPS.out, ← HS.out] at hc2
                    clear ft
                    have hrr := HRR0.out
                    clear HRR0
                    rcases HC'.out with hc | hc | hc | hc | hc
                    · have HC := Lib.hid (show opIx so[q] = 0 by rw [hc]; rfl)
                      rw [hc, aOp_a] at hrr
                      clear hc
                      cases hA : aReg d (i + 1) with
                      | error y =>
                        rw [hA] at hrr
                        have HA := Lib.hid hA
                        have HE := Lib.hid (HRB.out.trans (congrArg (aRest d _) hrr))
                        clear hA hrr
                        go_wp2_with (first | (go_at_call 45; refine (operand_any _ _).mono ?_; rintro e w' ⟨rfl, rfl⟩; rw [HC.out]) | (go_at_call 67; refine (asm_reg_bad (KN.perm (List.Perm.swap _ _ _)) HT.out hd (by omega) HA.out).mono ?_; rintro e wx ⟨rfl, hb⟩) | ((with_reducible refine wpList_gate ?_); first | ((refine gate_load (by rfl) ?_); first | (refine ks_load1 KN 61 Tryd.underlying61 ?_) | (refine ks_load1 KN 23 Tryd.underlying23 ?_) | (refine ks_load1 KN 3 Tryd.underlying3 ?_) | (refine ks_load1 KN 59 Tryd.underlying59 ?_) | (refine ks_load1 KN 9 Tryd.underlying9 ?_) | (refine ks_loadW KN 35 Tryd.underlying35 ?_)) | ((refine gate_store (by rfl) ?_); first | (refine ks_store1 KN 3 ?_; clear KN; intro wx KN) | (refine ks_storeW KN 35 ?_; clear KN; intro wx KN) | (refine ks_storeA KN 35 ?_; clear KN; intro wx KN) | (refine ks_store1 KN 21 ?_; clear KN; intro wx KN) | (refine ks_store1 KN 23 ?_; clear KN; intro wx KN)) | ((refine gate_new (by rfl) ?_); first | (refine ks_alloc KN 35 (q := 7) #[.int .i64 0, .int .i64 0, .int .i64 0, .int .i64 0, .int .i32 0] ?_; clear KN; intro g7 wx hg7 KN))))
                        exact ⟨rfl, AsmPost.err HE.out hb⟩
                      | ok r =>
                        rw [hA] at hrr
                        have HA := Lib.hid hA
                        have HRR := Lib.hid hrr
                        clear hA hrr
                        go_wp2_with (first | (go_at_call 45; refine (operand_any _ _).mono ?_; rintro e w' ⟨rfl, rfl⟩; rw [HC.out]) | (go_at_call 67; refine (asm_reg (KN.perm (List.Perm.swap _ _ _)) HT.out hd (by omega) HA.out).mono ?_; rintro e wx ⟨rfl, K2⟩; replace KN := K2.perm (List.Perm.swap _ _ _); clear K2) | ((with_reducible refine wpList_gate ?_); first | ((refine gate_load (by rfl) ?_); first | (refine ks_load1 KN 61 Tryd.underlying61 ?_) | (refine ks_load1 KN 23 Tryd.underlying23 ?_) | (refine ks_load1 KN 3 Tryd.underlying3 ?_) | (refine ks_load1 KN 59 Tryd.underlying59 ?_) | (refine ks_load1 KN 9 Tryd.underlying9 ?_) | (refine ks_loadW KN 35 Tryd.underlying35 ?_)) | ((refine gate_store (by rfl) ?_); first | (refine ks_store1 KN 3 ?_; clear KN; intro wx KN) | (refine ks_storeW KN 35 ?_; clear KN; intro wx KN) | (refine ks_storeA KN 35 ?_; clear KN; intro wx KN) | (refine ks_store1 KN 21 ?_; clear KN; intro wx KN) | (refine ks_store1 KN 23 ?_; clear KN; intro wx KN)) | ((refine gate_new (by rfl) ?_); first | (refine ks_alloc KN 35 (q := 7) #[.int .i64 0, .int .i64 0, .int .i64 0, .int .i64 0, .int .i32 0] ?_; clear KN; intro g7 wx hg7 KN))))
                        go_round
                        case rel => exact ⟨q + 1, (i + 1) + 1, { x with a := r }, us ++ [], ov', ol', by go_num, by rw [← HSZ.out]; omega, HRR.out, by have := aReg_lt HA.out; omega, by simp; omega, by rw [List.append_nil]; exact HOW.out, KN.as_ g7 _ (by repeat (first | exact Repl.here | apply Repl.there)) (by kernel_rfl)⟩
                        case measure => simp [intOf]; omega
                    · have HC := Lib.hid (show opIx so[q] = 1 by rw [hc]; rfl)
                      rw [hc, aOp_b] at hrr
                      clear hc
                      cases hA : aReg d (i + 1) with
                      | error y =>
                        rw [hA] at hrr
                        have HA := Lib.hid hA
                        have HE := Lib.hid (HRB.out.trans (congrArg (aRest d _) hrr))
                        clear hA hrr
                        go_wp2_with (first | (go_at_call 45; refine (operand_any _ _).mono ?_; rintro e w' ⟨rfl, rfl⟩; rw [HC.out]) | (go_at_call 67; refine (asm_reg_bad (KN.perm (List.Perm.swap _ _ _)) HT.out hd (by omega) HA.out).mono ?_; rintro e wx ⟨rfl, hb⟩) | ((with_reducible refine wpList_gate ?_); first | ((refine gate_load (by rfl) ?_); first | (refine ks_load1 KN 61 Tryd.underlying61 ?_) | (refine ks_load1 KN 23 Tryd.underlying23 ?_) | (refine ks_load1 KN 3 Tryd.underlying3 ?_) | (refine ks_load1 KN 59 Tryd.underlying59 ?_) | (refine ks_load1 KN 9 Tryd.underlying9 ?_) | (refine ks_loadW KN 35 Tryd.underlying35 ?_)) | ((refine gate_store (by rfl) ?_); first | (refine ks_store1 KN 3 ?_; clear KN; intro wx KN) | (refine ks_storeW KN 35 ?_; clear KN; intro wx KN) | (refine ks_storeA KN 35 ?_; clear KN; intro wx KN) | (refine ks_store1 KN 21 ?_; clear KN; intro wx KN) | (refine ks_store1 KN 23 ?_; clear KN; intro wx KN)) | ((refine gate_new (by rfl) ?_); first | (refine ks_alloc KN 35 (q := 7) #[.int .i64 0, .int .i64 0, .int .i64 0, .int .i64 0, .int .i32 0] ?_; clear KN; intro g7 wx hg7 KN))))
                        exact ⟨rfl, AsmPost.err HE.out hb⟩
                      | ok r =>
                        rw [hA] at hrr
                        have HA := Lib.hid hA
                        have HRR := Lib.hid hrr
                        clear hA hrr
                        go_wp2_with (first | (go_at_call 45; refine (operand_any _ _).mono ?_; rintro e w' ⟨rfl, rfl⟩; rw [HC.out]) | (go_at_call 67; refine (asm_reg (KN.perm (List.Perm.swap _ _ _)) HT.out hd (by omega) HA.out).mono ?_; rintro e wx ⟨rfl, K2⟩; replace KN := K2.perm (List.Perm.swap _ _ _); clear K2) | ((with_reducible refine wpList_gate ?_); first | ((refine gate_load (by rfl) ?_); first | (refine ks_load1 KN 61 Tryd.underlying61 ?_) | (refine ks_load1 KN 23 Tryd.underlying23 ?_) | (refine ks_load1 KN 3 Tryd.underlying3 ?_) | (refine ks_load1 KN 59 Tryd.underlying59 ?_) | (refine ks_load1 KN 9 Tryd.underlying9 ?_) | (refine ks_loadW KN 35 Tryd.underlying35 ?_)) | ((refine gate_store (by rfl) ?_); first | (refine ks_store1 KN 3 ?_; clear KN; intro wx KN) | (refine ks_storeW KN 35 ?_; clear KN; intro wx KN) | (refine ks_storeA KN 35 ?_; clear KN; intro wx KN) | (refine ks_store1 KN 21 ?_; clear KN; intro wx KN) | (refine ks_store1 KN 23 ?_; clear KN; intro wx KN)) | ((refine gate_new (by rfl) ?_); first | (refine ks_alloc KN 35 (q := 7) #[.int .i64 0, .int .i64 0, .int .i64 0, .int .i64 0, .int .i32 0] ?_; clear KN; intro g7 wx hg7 KN))))
                        go_round
                        case rel => exact ⟨q + 1, (i + 1) + 1, { x with b := r }, us ++ [], ov', ol', by go_num, by rw [← HSZ.out]; omega, HRR.out, by have := aReg_lt HA.out; omega, by simp; omega, by rw [List.append_nil]; exact HOW.out, KN.as_ g7 _ (by repeat (first | exact Repl.here | apply Repl.there)) (by kernel_rfl)⟩
                        case measure => simp [intOf]; omega
                    · have HC := Lib.hid (show opIx so[q] = 2 by rw [hc]; rfl)
                      rw [hc, aOp_c] at hrr
                      clear hc
                      cases hA : aReg d (i + 1) with
                      | error y =>
                        rw [hA] at hrr
                        have HA := Lib.hid hA
                        have HE := Lib.hid (HRB.out.trans (congrArg (aRest d _) hrr))
                        clear hA hrr
                        go_wp2_with (first | (go_at_call 45; refine (operand_any _ _).mono ?_; rintro e w' ⟨rfl, rfl⟩; rw [HC.out]) | (go_at_call 67; refine (asm_reg_bad (KN.perm (List.Perm.swap _ _ _)) HT.out hd (by omega) HA.out).mono ?_; rintro e wx ⟨rfl, hb⟩) | ((with_reducible refine wpList_gate ?_); first | ((refine gate_load (by rfl) ?_); first | (refine ks_load1 KN 61 Tryd.underlying61 ?_) | (refine ks_load1 KN 23 Tryd.underlying23 ?_) | (refine ks_load1 KN 3 Tryd.underlying3 ?_) | (refine ks_load1 KN 59 Tryd.underlying59 ?_) | (refine ks_load1 KN 9 Tryd.underlying9 ?_) | (refine ks_loadW KN 35 Tryd.underlying35 ?_)) | ((refine gate_store (by rfl) ?_); first | (refine ks_store1 KN 3 ?_; clear KN; intro wx KN) | (refine ks_storeW KN 35 ?_; clear KN; intro wx KN) | (refine ks_storeA KN 35 ?_; clear KN; intro wx KN) | (refine ks_store1 KN 21 ?_; clear KN; intro wx KN) | (refine ks_store1 KN 23 ?_; clear KN; intro wx KN)) | ((refine gate_new (by rfl) ?_); first | (refine ks_alloc KN 35 (q := 7) #[.int .i64 0, .int .i64 0, .int .i64 0, .int .i64 0, .int .i32 0] ?_; clear KN; intro g7 wx hg7 KN))))
                        exact ⟨rfl, AsmPost.err HE.out hb⟩
                      | ok r =>
                        rw [hA] at hrr
                        have HA := Lib.hid hA
                        have HRR := Lib.hid hrr
                        clear hA hrr
                        go_wp2_with (first | (go_at_call 45; refine (operand_any _ _).mono ?_; rintro e w' ⟨rfl, rfl⟩; rw [HC.out]) | (go_at_call 67; refine (asm_reg (KN.perm (List.Perm.swap _ _ _)) HT.out hd (by omega) HA.out).mono ?_; rintro e wx ⟨rfl, K2⟩; replace KN := K2.perm (List.Perm.swap _ _ _); clear K2) | ((with_reducible refine wpList_gate ?_); first | ((refine gate_load (by rfl) ?_); first | (refine ks_load1 KN 61 Tryd.underlying61 ?_) | (refine ks_load1 KN 23 Tryd.underlying23 ?_) | (refine ks_load1 KN 3 Tryd.underlying3 ?_) | (refine ks_load1 KN 59 Tryd.underlying59 ?_) | (refine ks_load1 KN 9 Tryd.underlying9 ?_) | (refine ks_loadW KN 35 Tryd.underlying35 ?_)) | ((refine gate_store (by rfl) ?_); first | (refine ks_store1 KN 3 ?_; clear KN; intro wx KN) | (refine ks_storeW KN 35 ?_; clear KN; intro wx KN) | (refine ks_storeA KN 35 ?_; clear KN; intro wx KN) | (refine ks_store1 KN 21 ?_; clear KN; intro wx KN) | (refine ks_store1 KN 23 ?_; clear KN; intro wx KN)) | ((refine gate_new (by rfl) ?_); first | (refine ks_alloc KN 35 (q := 7) #[.int .i64 0, .int .i64 0, .int .i64 0, .int .i64 0, .int .i32 0] ?_; clear KN; intro g7 wx hg7 KN))))
                        go_round
                        case rel => exact ⟨q + 1, (i + 1) + 1, { x with c := r }, us ++ [], ov', ol', by go_num, by rw [← HSZ.out]; omega, HRR.out, by have := aReg_lt HA.out; omega, by simp; omega, by rw [List.append_nil]; exact HOW.out, KN.as_ g7 _ (by repeat (first | exact Repl.here | apply Repl.there)) (by kernel_rfl)⟩
                        case measure => simp [intOf]; omega
                    · have HC := Lib.hid (show opIx so[q] = 3 by rw [hc]; rfl)
                      rw [hc, aOp_i] at hrr
                      clear hc
                      cases hA : aImm d n false (i + 1) with
                      | error y =>
                        rw [hA] at hrr
                        have HA := Lib.hid hA
                        have HE := Lib.hid (HRB.out.trans (congrArg (aRest d _) hrr))
                        clear hA hrr
                        go_wp2_with (first | (go_at_call 45; refine (operand_any _ _).mono ?_; rintro e w' ⟨rfl, rfl⟩; rw [HC.out]) | (go_at_call 68; refine (asm_imm (refs := s.uses ++ us) (KN.perm (imm_perm _ _ _ _ _ _ _)) HOW.out (by rw [List.length_append]; omega) HT.out hd (by omega) false HV.out).mono ?_; intro e wx hp; rw [HA.out] at hp; obtain ⟨rfl, hb⟩ := hp) | ((with_reducible refine wpList_gate ?_); first | ((refine gate_load (by rfl) ?_); first | (refine ks_load1 KN 61 Tryd.underlying61 ?_) | (refine ks_load1 KN 23 Tryd.underlying23 ?_) | (refine ks_load1 KN 3 Tryd.underlying3 ?_) | (refine ks_load1 KN 59 Tryd.underlying59 ?_) | (refine ks_load1 KN 9 Tryd.underlying9 ?_) | (refine ks_loadW KN 35 Tryd.underlying35 ?_)) | ((refine gate_store (by rfl) ?_); first | (refine ks_store1 KN 3 ?_; clear KN; intro wx KN) | (refine ks_storeW KN 35 ?_; clear KN; intro wx KN) | (refine ks_storeA KN 35 ?_; clear KN; intro wx KN) | (refine ks_store1 KN 21 ?_; clear KN; intro wx KN) | (refine ks_store1 KN 23 ?_; clear KN; intro wx KN)) | ((refine gate_new (by rfl) ?_); first | (refine ks_alloc KN 35 (q := 7) #[.int .i64 0, .int .i64 0, .int .i64 0, .int .i64 0, .int .i32 0] ?_; clear KN; intro g7 wx hg7 KN))))
                        exact ⟨rfl, AsmPost.err HE.out hb⟩
                      | ok z =>
                        obtain ⟨v, j2, vs⟩ := z
                        rw [hA] at hrr
                        have HA := Lib.hid hA
                        have HRR := Lib.hid hrr
                        clear hA hrr
                        go_wp2_with (first | (go_at_call 45; refine (operand_any _ _).mono ?_; rintro e w' ⟨rfl, rfl⟩; rw [HC.out]) | (go_at_call 68; refine (asm_imm (refs := s.uses ++ us) (KN.perm (imm_perm _ _ _ _ _ _ _)) HOW.out (by rw [List.length_append]; omega) HT.out hd (by omega) false HV.out).mono ?_; intro e wx hp; rw [HA.out] at hp; obtain ⟨rfl, ov2, ol2, OW2, K2⟩ := hp; replace KN := K2.perm (imm_perm _ _ _ _ _ _ _).symm; clear K2; replace OW2 := Lib.hid OW2) | ((with_reducible refine wpList_gate ?_); first | ((refine gate_load (by rfl) ?_); first | (refine ks_load1 KN 61 Tryd.underlying61 ?_) | (refine ks_load1 KN 23 Tryd.underlying23 ?_) | (refine ks_load1 KN 3 Tryd.underlying3 ?_) | (refine ks_load1 KN 59 Tryd.underlying59 ?_) | (refine ks_load1 KN 9 Tryd.underlying9 ?_) | (refine ks_loadW KN 35 Tryd.underlying35 ?_)) | ((refine gate_store (by rfl) ?_); first | (refine ks_store1 KN 3 ?_; clear KN; intro wx KN) | (refine ks_storeW KN 35 ?_; clear KN; intro wx KN) | (refine ks_storeA KN 35 ?_; clear KN; intro wx KN) | (refine ks_store1 KN 21 ?_; clear KN; intro wx KN) | (refine ks_store1 KN 23 ?_; clear KN; intro wx KN)) | ((refine gate_new (by rfl) ?_); first | (refine ks_alloc KN 35 (q := 7) #[.int .i64 0, .int .i64 0, .int .i64 0, .int .i64 0, .int .i32 0] ?_; clear KN; intro g7 wx hg7 KN))))
                        go_round
                        case rel => exact ⟨q + 1, j2, { x with imm := v }, us ++ vs, ov2, ol2, by go_num, by rw [← HSZ.out]; omega, HRR.out, (aImm_bd HA.out).1, by have := (aImm_bd HA.out).2; rw [List.length_append]; omega, by rw [← List.append_assoc]; exact OW2.out, KN.as_ g7 _ (by repeat (first | exact Repl.here | apply Repl.there)) (by kernel_rfl)⟩
                        case measure => simp [intOf]; omega
                    · have HC := Lib.hid (show opIx so[q] = 4 by rw [hc]; rfl)
                      rw [hc, aOp_t] at hrr
                      clear hc
                      cases hA : aImm d n true (i + 1) with
                      | error y =>
                        rw [hA] at hrr
                        have HA := Lib.hid hA
                        have HE := Lib.hid (HRB.out.trans (congrArg (aRest d _) hrr))
                        clear hA hrr
                        go_wp2_with (first | (go_at_call 45; refine (operand_any _ _).mono ?_; rintro e w' ⟨rfl, rfl⟩; rw [HC.out]) | (go_at_call 68; refine (asm_imm (refs := s.uses ++ us) (KN.perm (imm_perm _ _ _ _ _ _ _)) HOW.out (by rw [List.length_append]; omega) HT.out hd (by omega) true HV.out).mono ?_; intro e wx hp; rw [HA.out] at hp; obtain ⟨rfl, hb⟩ := hp) | ((with_reducible refine wpList_gate ?_); first | ((refine gate_load (by rfl) ?_); first | (refine ks_load1 KN 61 Tryd.underlying61 ?_) | (refine ks_load1 KN 23 Tryd.underlying23 ?_) | (refine ks_load1 KN 3 Tryd.underlying3 ?_) | (refine ks_load1 KN 59 Tryd.underlying59 ?_) | (refine ks_load1 KN 9 Tryd.underlying9 ?_) | (refine ks_loadW KN 35 Tryd.underlying35 ?_)) | ((refine gate_store (by rfl) ?_); first | (refine ks_store1 KN 3 ?_; clear KN; intro wx KN) | (refine ks_storeW KN 35 ?_; clear KN; intro wx KN) | (refine ks_storeA KN 35 ?_; clear KN; intro wx KN) | (refine ks_store1 KN 21 ?_; clear KN; intro wx KN) | (refine ks_store1 KN 23 ?_; clear KN; intro wx KN)) | ((refine gate_new (by rfl) ?_); first | (refine ks_alloc KN 35 (q := 7) #[.int .i64 0, .int .i64 0, .int .i64 0, .int .i64 0, .int .i32 0] ?_; clear KN; intro g7 wx hg7 KN))))
                        exact ⟨rfl, AsmPost.err HE.out hb⟩
                      | ok z =>
                        obtain ⟨v, j2, vs⟩ := z
                        rw [hA] at hrr
                        have HA := Lib.hid hA
                        have HRR := Lib.hid hrr
                        clear hA hrr
                        go_wp2_with (first | (go_at_call 45; refine (operand_any _ _).mono ?_; rintro e w' ⟨rfl, rfl⟩; rw [HC.out]) | (go_at_call 68; refine (asm_imm (refs := s.uses ++ us) (KN.perm (imm_perm _ _ _ _ _ _ _)) HOW.out (by rw [List.length_append]; omega) HT.out hd (by omega) true HV.out).mono ?_; intro e wx hp; rw [HA.out] at hp; obtain ⟨rfl, ov2, ol2, OW2, K2⟩ := hp; replace KN := K2.perm (imm_perm _ _ _ _ _ _ _).symm; clear K2; replace OW2 := Lib.hid OW2) | ((with_reducible refine wpList_gate ?_); first | ((refine gate_load (by rfl) ?_); first | (refine ks_load1 KN 61 Tryd.underlying61 ?_) | (refine ks_load1 KN 23 Tryd.underlying23 ?_) | (refine ks_load1 KN 3 Tryd.underlying3 ?_) | (refine ks_load1 KN 59 Tryd.underlying59 ?_) | (refine ks_load1 KN 9 Tryd.underlying9 ?_) | (refine ks_loadW KN 35 Tryd.underlying35 ?_)) | ((refine gate_store (by rfl) ?_); first | (refine ks_store1 KN 3 ?_; clear KN; intro wx KN) | (refine ks_storeW KN 35 ?_; clear KN; intro wx KN) | (refine ks_storeA KN 35 ?_; clear KN; intro wx KN) | (refine ks_store1 KN 21 ?_; clear KN; intro wx KN) | (refine ks_store1 KN 23 ?_; clear KN; intro wx KN)) | ((refine gate_new (by rfl) ?_); first | (refine ks_alloc KN 35 (q := 7) #[.int .i64 0, .int .i64 0, .int .i64 0, .int .i64 0, .int .i32 0] ?_; clear KN; intro g7 wx hg7 KN))))
                        go_round
                        case rel => exact ⟨q + 1, j2, { x with imm := v }, us ++ vs, ov2, ol2, by go_num, by rw [← HSZ.out]; omega, HRR.out, (aImm_bd HA.out).1, by have := (aImm_bd HA.out).2; rw [List.length_append]; omega, by rw [← List.append_assoc]; exact OW2.out, KN.as_ g7 _ (by repeat (first | exact Repl.here | apply Repl.there)) (by kernel_rfl)⟩
                        case measure => simp [intOf]; omega
                  · rw [aOps_comma hp] at hrr
                    have HE := Lib.hid (HRB.out.trans (congrArg (aRest d _) hrr))
                    have HPP := Lib.hid hp
                    clear hrr hc' hp
                    go_wp2_with (first | (go_at_call 66; refine (asm_expect_bad (KN.perm (List.Perm.swap _ _ _)) HT.out hd (by omega) [44] HPP.out).mono ?_; rintro e wx ⟨rfl, hb⟩) | ((with_reducible refine wpList_gate ?_); first | ((refine gate_load (by rfl) ?_); first | (refine ks_load1 KN 61 Tryd.underlying61 ?_) | (refine ks_load1 KN 23 Tryd.underlying23 ?_) | (refine ks_load1 KN 3 Tryd.underlying3 ?_) | (refine ks_load1 KN 59 Tryd.underlying59 ?_) | (refine ks_load1 KN 9 Tryd.underlying9 ?_) | (refine ks_loadW KN 35 Tryd.underlying35 ?_)) | ((refine gate_store (by rfl) ?_); first | (refine ks_store1 KN 3 ?_; clear KN; intro wx KN) | (refine ks_storeW KN 35 ?_; clear KN; intro wx KN) | (refine ks_storeA KN 35 ?_; clear KN; intro wx KN) | (refine ks_store1 KN 21 ?_; clear KN; intro wx KN) | (refine ks_store1 KN 23 ?_; clear KN; intro wx KN)) | ((refine gate_new (by rfl) ?_); first | (refine ks_alloc KN 35 (q := 7) #[.int .i64 0, .int .i64 0, .int .i64 0, .int .i64 0, .int .i32 0] ?_; clear KN; intro g7 wx hg7 KN))))
                    exact ⟨rfl, AsmPost.err HE.out hb⟩
              · have hdr : ops.drop q = [] := List.drop_eq_nil_of_le (by rw [← HSZ.out]; omega)
                rw [hdr, aOps_nil] at hrr
                clear hdr
                rcases Bool.eq_false_or_eq_true (isP d i [59]) with hp | hp
                · have HE : Hid (aInstr d s = .ok ⟨i + 1, s.prog ++ [x], ls, s.uses ++ us⟩) := Lib.hid (by rw [HRB.out, hrr]; show (if isP d i [59] = true then _ else _) = _; rw [if_pos hp])
                  have HPP := Lib.hid hp
                  have hpn : s.prog.length ≤ 4096 := by rw [← HN.out]; exact hpl
                  clear hrr hp
                  go_upto_region 37 with (first | (go_at_call 66; refine (asm_expect (KN.perm (List.Perm.swap _ _ _)) HT.out hd (by omega) [59] HPP.out).mono ?_; rintro e wx ⟨rfl, K2⟩; replace KN := K2.perm (List.Perm.swap _ _ _); clear K2) | ((with_reducible refine wpList_gate ?_); first | ((refine gate_load (by rfl) ?_); first | (refine ks_load1 KN 61 Tryd.underlying61 ?_) | (refine ks_load1 KN 23 Tryd.underlying23 ?_) | (refine ks_load1 KN 3 Tryd.underlying3 ?_) | (refine ks_load1 KN 59 Tryd.underlying59 ?_) | (refine ks_load1 KN 9 Tryd.underlying9 ?_) | (refine ks_loadW KN 35 Tryd.underlying35 ?_)) | ((refine gate_store (by rfl) ?_); first | (refine ks_store1 KN 3 ?_; clear KN; intro wx KN) | (refine ks_storeW KN 35 ?_; clear KN; intro wx KN) | (refine ks_storeA KN 35 ?_; clear KN; intro wx KN) | (refine ks_store1 KN 21 ?_; clear KN; intro wx KN) | (refine ks_store1 KN 23 ?_; clear KN; intro wx KN)) | ((refine gate_new (by rfl) ?_); first | (refine ks_alloc KN 35 (q := 7) #[.int .i64 0, .int .i64 0, .int .i64 0, .int .i64 0, .int .i32 0] ?_; clear KN; intro g7 wx hg7 KN))))
                  replace KN := KN.perm (app_perm _ _ _ _ _ _ _)
                  (try go_frame)
                  replace KN := KN.drew
                  refine wp_region_held_drew (S := (fun w' => BlkT w' g7 x.cells 35)) (by kernel_rfl) ?qzhS (fun hHeld => ?qzrest)
                  case qzhS => exact KN.at_ (by repeat (first | exact Has.here | refine Has.there ?_))
                  refine wpAnyH_take (i := 0) (oi := ⟨some 159, _, _, _, _, _⟩) (v := ?qzv0) rfl (by kernel_rfl) (by kernel_rfl) (by kernel_rfl) (fun _ _ _ h => h) (Or.inl ⟨by rfl, ?qzhy0⟩) hHeld ?qzr0
                  case qzhy0 => (intro w hSw; (try dsimp only at hSw); go_simp; (try with_reducible rfl))
                  (try simp only [Act.put, List.setIfInBounds_toArray, List.set_cons_zero, List.set_cons_succ])
                  refine wpAnyH_take (i := 1) (oi := ⟨some 160, _, _, _, _, _⟩) (v := ?qzv1) rfl (by kernel_rfl) (by kernel_rfl) (by kernel_rfl) (fun _ _ _ h => h) (Or.inl ⟨by rfl, ?qzhy1⟩) hHeld ?qzr1
                  case qzhy1 => (intro w hSw; (try dsimp only at hSw); go_simp; (try with_reducible rfl))
                  (try simp only [Act.put, List.setIfInBounds_toArray, List.set_cons_zero, List.set_cons_succ])
                  refine wpAnyH_take (i := 2) (oi := ⟨some 161, _, _, _, _, _⟩) (v := ?qzv2) rfl (by kernel_rfl) (by kernel_rfl) (by kernel_rfl) (fun _ _ _ h => h) (Or.inl ⟨by rfl, ?qzhy2⟩) hHeld ?qzr2
                  case qzhy2 => (intro w hSw; (try dsimp only at hSw); go_simp; (try with_reducible rfl))
                  (try simp only [Act.put, List.setIfInBounds_toArray, List.set_cons_zero, List.set_cons_succ])
                  refine wpAnyH_take (i := 3) (oi := ⟨some 162, _, _, _, _, _⟩) (v := ?qzv3) rfl (by kernel_rfl) (by kernel_rfl) (by kernel_rfl) (fun _ _ _ h => h) (Or.inl ⟨by rfl, ?qzhy3⟩) hHeld ?qzr3
                  case qzhy3 => (intro w hSw; (try dsimp only at hSw); go_simp; (try with_reducible rfl))
                  (try simp only [Act.put, List.setIfInBounds_toArray, List.set_cons_zero, List.set_cons_succ])
                  refine wpAnyH_take (i := 5) (oi := ⟨some 164, _, _, _, _, _⟩) (v := (.agg x.cells)) rfl (by kernel_rfl) (by kernel_rfl) (by kernel_rfl) (fun _ _ _ h => h) (kn_yieldsN (by rfl) 35 _ rfl g7 0 rfl _ 35 (fun _ h => h) _ (extract_whole _) _ Tryd.underlying35 rfl (by kernel_rfl)) hHeld ?qzr5
                  (try simp only [Act.put, List.setIfInBounds_toArray, List.set_cons_zero, List.set_cons_succ])
                  refine wpAnyH_ready (rs := [4, 6]) (by kernel_rfl) (by simp) ?qzc4_6
                  refine (AllReadyH.cons (o := ⟨some 163, _, _, _, _, _⟩) rfl (fun K hK => ?qzst4) (AllReadyH.cons (o := ⟨some 165, _, _, _, _, _⟩) rfl (fun K hK => ?qzst6) AllReadyH.nil))
                  case qzst4 =>
                    (rw [if_pos (by rfl)]; refine wp_kn_load1 KN 23 _ rfl g 5 rfl _ _ (by repeat (first | exact Has.here | refine Has.there ?_)) (.slice pa n pc) rfl _ Tryd.underlying23 rfl ?_)
                    refine hK.out _ _ ?qz4xk4 (fun hHeld2 => ?qz4xm4)
                    case qz4xk4 => exact KN.at_ (by repeat (first | exact Has.here | refine Has.there ?_))
                    clear hK K hHeld
                    have hHeld := hHeld2; clear hHeld2
                    (try simp only [Act.put, List.setIfInBounds_toArray, List.set_cons_zero, List.set_cons_succ])
                    refine wpAnyH_ready (rs := [6]) (by kernel_rfl) (by simp) ?qz4xc6
                    refine AllReadyH.cons (o := ⟨some 165, _, _, _, _, _⟩) rfl (fun K hK => ?qz4xst6) AllReadyH.nil
                    (rw [if_pos (by rfl)]; refine wp_kn_lit KN 23 35 1 _ rfl 165 rfl Tryd.underlying23 x.cells (by kernel_rfl) ?_; clear KN; intro g40 wx hg40 KN)
                    refine hK.out _ _ ?qz4xk6 (fun hHeld2 => ?qz4xm6)
                    case qz4xk6 => exact KN.at_ (by repeat (first | exact Has.here | refine Has.there ?_))
                    clear hK K hHeld
                    have hHeld := hHeld2; clear hHeld2
                    (try simp only [Act.put, List.setIfInBounds_toArray, List.set_cons_zero, List.set_cons_succ])
                    refine wpAnyH_ready (rs := [7]) (by kernel_rfl) (by simp) ?qz4xc7
                    refine AllReadyH.cons (o := ⟨some 166, _, _, _, _, _⟩) rfl (fun K hK => ?qz4xst7) AllReadyH.nil
                    (rw [if_pos (by rfl)]; refine wp_kn_append1 KN HP.out _ _ 23 rfl 40 Tryd.underlying23 (by kernel_rfl) (by decide) rfl 1 rfl rfl (by kernel_rfl) (by simp [maxLen]; omega) (by simp; omega) (f := fun o => (g7, _) :: (g, _) :: (m, _) :: (t, _) :: ((ol' ++ L) ++ o)) (TailF.cons _ (TailF.cons _ (TailF.cons _ (TailF.cons _ (TailF.app TailF.id (ol' ++ L)))))) rfl ?_; clear KN; intro v' wx pl' OW KN; obtain ⟨xa, xc, rfl⟩ := OW.form)
                    refine hK.out _ _ ?qz4xk7 (fun hHeld2 => ?qz4xm7)
                    case qz4xk7 => exact KN.at_ (by repeat (first | exact Has.here | refine Has.there ?_))
                    clear hK K hHeld
                    have hHeld := hHeld2; clear hHeld2
                    (try simp only [Act.put, List.setIfInBounds_toArray, List.set_cons_zero, List.set_cons_succ])
                    refine wpAnyH_take (i := 8) (oi := ⟨some 167, _, _, _, _, _⟩) (v := ?qz4xv8) rfl (by kernel_rfl) (by kernel_rfl) (by kernel_rfl) (fun _ _ _ h => h) (Or.inl ⟨by rfl, ?qz4xhy8⟩) hHeld ?qz4xr8
                    case qz4xhy8 => (intro w hSw; (try dsimp only at hSw); go_simp; (try with_reducible rfl))
                    (try simp only [Act.put, List.setIfInBounds_toArray, List.set_cons_zero, List.set_cons_succ])
                    refine wpAnyH_take (i := 9) (oi := ⟨some 168, _, _, _, _, _⟩) (v := ?qz4xv9) rfl (by kernel_rfl) (by kernel_rfl) (by kernel_rfl) (fun _ _ _ h => h) (Or.inl ⟨by rfl, ?qz4xhy9⟩) hHeld ?qz4xr9
                    case qz4xhy9 => (intro w hSw; (try dsimp only at hSw); go_simp; (try with_reducible rfl))
                    (try simp only [Act.put, List.setIfInBounds_toArray, List.set_cons_zero, List.set_cons_succ])
                    refine wpAnyH_ready (rs := [10]) (by kernel_rfl) (by simp) ?qz4xc10
                    refine AllReadyH.cons (o := ⟨none, _, _, _, _, _⟩) rfl (fun K hK => ?qz4xst10) AllReadyH.nil
                    (rw [if_pos (by rfl)]; refine wp_kn_store1 KN 23 _ _ rfl g 5 rfl _ rfl rfl _ _ (by repeat (first | exact Repl.here | apply Repl.there)) (by simp) (by kernel_rfl) (by rfl) ?_; clear KN; intro wx KN)
                    refine hK.out _ _ ?qz4xk10 (fun hHeld2 => ?qz4xm10)
                    case qz4xk10 => exact KN.at_ (by repeat (first | exact Has.here | refine Has.there ?_))
                    clear hK K hHeld
                    have hHeld := hHeld2; clear hHeld2
                    (try simp only [Act.put, List.setIfInBounds_toArray, List.set_cons_zero, List.set_cons_succ])
                    refine wpAnyH_done (by kernel_rfl) ?qz4xdone _
                    go_wp2_with fail
                    first | go_end0 | refine bodyPost_ret (results_none rfl _ _ _) rfl ?_
                    exact AsmPost.ok HE.out (asmKn_end OW HOW.out ((KN.drop .here).perm (end_perm _ _ _ _ _ _))) HD.out
                  case qzst6 =>
                    (rw [if_pos (by rfl)]; refine wp_kn_lit KN 23 35 1 _ rfl 165 rfl Tryd.underlying23 x.cells (by kernel_rfl) ?_; clear KN; intro g40 wx hg40 KN)
                    refine hK.out _ _ ?qz6xk6 (fun hHeld2 => ?qz6xm6)
                    case qz6xk6 => exact KN.at_ (by repeat (first | exact Has.here | refine Has.there ?_))
                    clear hK K hHeld
                    have hHeld := hHeld2; clear hHeld2
                    (try simp only [Act.put, List.setIfInBounds_toArray, List.set_cons_zero, List.set_cons_succ])
                    refine wpAnyH_ready (rs := [4]) (by kernel_rfl) (by simp) ?qz6xc4
                    refine AllReadyH.cons (o := ⟨some 163, _, _, _, _, _⟩) rfl (fun K hK => ?qz6xst4) AllReadyH.nil
                    (rw [if_pos (by rfl)]; refine wp_kn_load1 KN 23 _ rfl g 5 rfl _ _ (by repeat (first | exact Has.here | refine Has.there ?_)) (.slice pa n pc) rfl _ Tryd.underlying23 rfl ?_)
                    refine hK.out _ _ ?qz6xk4 (fun hHeld2 => ?qz6xm4)
                    case qz6xk4 => exact KN.at_ (by repeat (first | exact Has.here | refine Has.there ?_))
                    clear hK K hHeld
                    have hHeld := hHeld2; clear hHeld2
                    (try simp only [Act.put, List.setIfInBounds_toArray, List.set_cons_zero, List.set_cons_succ])
                    refine wpAnyH_ready (rs := [7]) (by kernel_rfl) (by simp) ?qz6xc7
                    refine AllReadyH.cons (o := ⟨some 166, _, _, _, _, _⟩) rfl (fun K hK => ?qz6xst7) AllReadyH.nil
                    (rw [if_pos (by rfl)]; refine wp_kn_append1 KN HP.out _ _ 23 rfl 40 Tryd.underlying23 (by kernel_rfl) (by decide) rfl 1 rfl rfl (by kernel_rfl) (by simp [maxLen]; omega) (by simp; omega) (f := fun o => (g7, _) :: (g, _) :: (m, _) :: (t, _) :: ((ol' ++ L) ++ o)) (TailF.cons _ (TailF.cons _ (TailF.cons _ (TailF.cons _ (TailF.app TailF.id (ol' ++ L)))))) rfl ?_; clear KN; intro v' wx pl' OW KN; obtain ⟨xa, xc, rfl⟩ := OW.form)
                    refine hK.out _ _ ?qz6xk7 (fun hHeld2 => ?qz6xm7)
                    case qz6xk7 => exact KN.at_ (by repeat (first | exact Has.here | refine Has.there ?_))
                    clear hK K hHeld
                    have hHeld := hHeld2; clear hHeld2
                    (try simp only [Act.put, List.setIfInBounds_toArray, List.set_cons_zero, List.set_cons_succ])
                    refine wpAnyH_take (i := 8) (oi := ⟨some 167, _, _, _, _, _⟩) (v := ?qz6xv8) rfl (by kernel_rfl) (by kernel_rfl) (by kernel_rfl) (fun _ _ _ h => h) (Or.inl ⟨by rfl, ?qz6xhy8⟩) hHeld ?qz6xr8
                    case qz6xhy8 => (intro w hSw; (try dsimp only at hSw); go_simp; (try with_reducible rfl))
                    (try simp only [Act.put, List.setIfInBounds_toArray, List.set_cons_zero, List.set_cons_succ])
                    refine wpAnyH_take (i := 9) (oi := ⟨some 168, _, _, _, _, _⟩) (v := ?qz6xv9) rfl (by kernel_rfl) (by kernel_rfl) (by kernel_rfl) (fun _ _ _ h => h) (Or.inl ⟨by rfl, ?qz6xhy9⟩) hHeld ?qz6xr9
                    case qz6xhy9 => (intro w hSw; (try dsimp only at hSw); go_simp; (try with_reducible rfl))
                    (try simp only [Act.put, List.setIfInBounds_toArray, List.set_cons_zero, List.set_cons_succ])
                    refine wpAnyH_ready (rs := [10]) (by kernel_rfl) (by simp) ?qz6xc10
                    refine AllReadyH.cons (o := ⟨none, _, _, _, _, _⟩) rfl (fun K hK => ?qz6xst10) AllReadyH.nil
                    (rw [if_pos (by rfl)]; refine wp_kn_store1 KN 23 _ _ rfl g 5 rfl _ rfl rfl _ _ (by repeat (first | exact Repl.here | apply Repl.there)) (by simp) (by kernel_rfl) (by rfl) ?_; clear KN; intro wx KN)
                    refine hK.out _ _ ?qz6xk10 (fun hHeld2 => ?qz6xm10)
                    case qz6xk10 => exact KN.at_ (by repeat (first | exact Has.here | refine Has.there ?_))
                    clear hK K hHeld
                    have hHeld := hHeld2; clear hHeld2
                    (try simp only [Act.put, List.setIfInBounds_toArray, List.set_cons_zero, List.set_cons_succ])
                    refine wpAnyH_done (by kernel_rfl) ?qz6xdone _
                    go_wp2_with fail
                    first | go_end0 | refine bodyPost_ret (results_none rfl _ _ _) rfl ?_
                    exact AsmPost.ok HE.out (asmKn_end OW HOW.out ((KN.drop .here).perm (end_perm _ _ _ _ _ _))) HD.out
                · have HE : Hid (aInstr d s = .error (i, 50)) := Lib.hid (by rw [HRB.out, hrr]; show (if isP d i [59] = true then _ else _) = _; rw [if_neg (by rw [hp]; decide)])
                  have HPP := Lib.hid hp
                  clear hrr hp
                  go_wp2_with (first | (go_at_call 66; refine (asm_expect_bad (KN.perm (List.Perm.swap _ _ _)) HT.out hd (by omega) [59] HPP.out).mono ?_; rintro e wx ⟨rfl, hb⟩) | ((with_reducible refine wpList_gate ?_); first | ((refine gate_load (by rfl) ?_); first | (refine ks_load1 KN 61 Tryd.underlying61 ?_) | (refine ks_load1 KN 23 Tryd.underlying23 ?_) | (refine ks_load1 KN 3 Tryd.underlying3 ?_) | (refine ks_load1 KN 59 Tryd.underlying59 ?_) | (refine ks_load1 KN 9 Tryd.underlying9 ?_) | (refine ks_loadW KN 35 Tryd.underlying35 ?_)) | ((refine gate_store (by rfl) ?_); first | (refine ks_store1 KN 3 ?_; clear KN; intro wx KN) | (refine ks_storeW KN 35 ?_; clear KN; intro wx KN) | (refine ks_storeA KN 35 ?_; clear KN; intro wx KN) | (refine ks_store1 KN 21 ?_; clear KN; intro wx KN) | (refine ks_store1 KN 23 ?_; clear KN; intro wx KN)) | ((refine gate_new (by rfl) ?_); first | (refine ks_alloc KN 35 (q := 7) #[.int .i64 0, .int .i64 0, .int .i64 0, .int .i64 0, .int .i32 0] ?_; clear KN; intro g7 wx hg7 KN))))
                  exact ⟨rfl, AsmPost.err HE.out hb⟩
    · have HE := Lib.hid (aBody_word (d := d) (s := ⟨j, s.prog, ls, s.uses⟩) hkd)
      go_wp2_with (first | (go_at_call 63; refine (asm_word_bad KN HT.out hd (by omega) hkd).mono ?_; rintro e wx ⟨rfl, hb⟩) | ((with_reducible refine wpList_gate ?_); first | ((refine gate_load (by rfl) ?_); first | (refine ks_load1 KN 61 Tryd.underlying61 ?_) | (refine ks_load1 KN 23 Tryd.underlying23 ?_) | (refine ks_load1 KN 3 Tryd.underlying3 ?_) | (refine ks_load1 KN 59 Tryd.underlying59 ?_) | (refine ks_load1 KN 9 Tryd.underlying9 ?_) | (refine ks_loadW KN 35 Tryd.underlying35 ?_)) | ((refine gate_store (by rfl) ?_); first | (refine ks_store1 KN 3 ?_; clear KN; intro wx KN) | (refine ks_storeW KN 35 ?_; clear KN; intro wx KN) | (refine ks_storeA KN 35 ?_; clear KN; intro wx KN) | (refine ks_store1 KN 21 ?_; clear KN; intro wx KN) | (refine ks_store1 KN 23 ?_; clear KN; intro wx KN)) | ((refine gate_new (by rfl) ?_); first | (refine ks_alloc KN 35 (q := 7) #[.int .i64 0, .int .i64 0, .int .i64 0, .int .i64 0, .int .i32 0] ?_; clear KN; intro g7 wx hg7 KN))))
      exact ⟨rfl, AsmPost.err (HR1.out.trans HE.out) hb⟩
end Go.Proofs.YtemigcdieghkfaaDoor
