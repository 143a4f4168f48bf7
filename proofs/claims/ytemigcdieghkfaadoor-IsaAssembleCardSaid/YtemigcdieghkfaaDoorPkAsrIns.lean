/- The reference's assembler: an instruction. -/
import Derived.Test.YtemigcdieghkfaaDoorPkAsrLab
import Derived.Test.YtemigcdieghkfaaDoorPkAsrPlain2
set_option linter.unusedVariables false
set_option linter.unusedSimpArgs false
set_option linter.unusedSectionVars false
namespace Go.Proofs.YtemigcdieghkfaaDoor
open Go.RowKit Go.BigFrame

theorem opsR_bd : ∀ k, k < 28 → ∀ c ∈ operandsL.getD k [], c = 97 ∨ c = 98 ∨ c = 99 ∨ c = 105 ∨ c = 116 := by decide
theorem opsR_mem {op : Int} (h0 : 0 ≤ op) (h1 : op ≤ 27) : ∀ c ∈ operandsOf op, c = 97 ∨ c = 98 ∨ c = 99 ∨ c = 105 ∨ c = 116 := by
  obtain ⟨q, rfl⟩ := Int.eq_ofNat_of_zero_le h0
  unfold operandsOf; rw [Int.toNat_natCast]; exact opsR_bd q (by omega)
theorem str_getR {l : List UInt8} {u : ByteArray} (hu : u = str l) (j : Nat) (h : j < u.size) : u[j] = l.getD j 0 := by
  subst hu
  have hl : j < l.length := by rw [str_size] at h; exact h
  rw [List.getD_eq_getElem?_getD, List.getElem?_eq_getElem hl]
  show (str l).data[j]'_ = l[j]
  simp [str]
theorem anyP_i (el ec : Int) (d : List Tok) (s : PSt) (k : Int) : s.i ≤ (anyP el ec d s k).i ∧ (anyP el ec d s k).i ≤ s.i + 1 := by
  unfold anyP
  split
  · show s.i ≤ s.i + 1 ∧ s.i + 1 ≤ s.i + 1; omega
  · rw [failP_i]; omega
theorem needP_i (el ec : Int) (d : List Tok) (s : PSt) (k : Int) (m : List UInt8) : s.i ≤ (needP el ec d s k m).i ∧ (needP el ec d s k m).i ≤ s.i + 1 := by
  unfold needP
  split
  · show s.i ≤ s.i + 1 ∧ s.i + 1 ≤ s.i + 1; omega
  · rw [failP_i]; omega
theorem regP_i (el ec : Int) (d : List Tok) (s : PSt) : s.i ≤ (regP el ec d s).i ∧ (regP el ec d s).i ≤ s.i + 1 := by
  unfold regP
  split
  · show s.i ≤ s.i + 1 ∧ s.i + 1 ≤ s.i + 1; omega
  · rw [failP_i]; omega
theorem valS_bd (el ec : Int) (d : List Tok) (tg : Bool) (s : PSt) : s.i ≤ (valS el ec d tg s).1.i ∧ (valS el ec d tg s).1.i ≤ s.i + 2 ∧ (valS el ec d tg s).2.2.length ≤ 1 := by
  have hstep : (stepP s).i = s.i + 1 := rfl
  unfold valS
  split
  · split
    · refine ⟨?_, ?_, by simp⟩ <;> (rw [failP_i]; omega)
    · exact ⟨by show s.i ≤ (stepP s).i; omega, by show (stepP s).i ≤ s.i + 2; omega, by simp⟩
  · obtain ⟨m, hm⟩ : ∃ m, m = (!tg && peekB d s 4 [45]) := ⟨_, rfl⟩
    obtain ⟨s1, hs1⟩ : ∃ s1, s1 = if m = true then stepP s else s := ⟨_, rfl⟩
    have h1 : s.i ≤ s1.i ∧ s1.i ≤ s.i + 1 := by rw [hs1]; split <;> omega
    have h2 := anyP_i el ec d s1 2
    simp only [← hm, ← hs1]
    generalize (if kindB d s1 2 = true then (tk d s1.i).value else 0) = v
    split
    · refine ⟨?_, ?_, by simp⟩ <;> (show _ ≤ _; simp only [failP_i]; omega)
    · split
      · exact ⟨by show s.i ≤ (anyP el ec d s1 2).i; omega, by show (anyP el ec d s1 2).i ≤ _; omega, by simp⟩
      · refine ⟨by show s.i ≤ (anyP el ec d s1 2).i; omega, by show (anyP el ec d s1 2).i ≤ _; omega, ?_⟩
        split <;> simp
theorem stepO_bd (el ec : Int) (d : List Tok) (first : Bool) (c : UInt8) (s : PSt) (x : Ins) : s.i ≤ (stepO el ec d first c s x).1.i ∧ (stepO el ec d first c s x).1.i ≤ s.i + 4 ∧ (stepO el ec d first c s x).2.2.length ≤ 1 := by
  obtain ⟨s1, hs1⟩ : ∃ s1, s1 = if first = true then s else needP el ec d s 4 [44] := ⟨_, rfl⟩
  have h1 : s.i ≤ s1.i ∧ s1.i ≤ s.i + 1 := by
    rw [hs1]; split
    · omega
    · exact needP_i _ _ _ _ _ _
  have h2 := regP_i el ec d s1
  have h3 := valS_bd el ec d true s1
  have h4 := valS_bd el ec d false s1
  unfold stepO
  simp only [← hs1]
  split
  · exact ⟨by show s.i ≤ (regP el ec d s1).i; omega, by show (regP el ec d s1).i ≤ _; omega, by simp⟩
  split
  · exact ⟨by show s.i ≤ (regP el ec d s1).i; omega, by show (regP el ec d s1).i ≤ _; omega, by simp⟩
  split
  · exact ⟨by show s.i ≤ (regP el ec d s1).i; omega, by show (regP el ec d s1).i ≤ _; omega, by simp⟩
  split
  · exact ⟨by show s.i ≤ (valS el ec d false s1).1.i; omega, by show (valS el ec d false s1).1.i ≤ _; omega, h4.2.2⟩
  · exact ⟨by show s.i ≤ (valS el ec d true s1).1.i; omega, by show (valS el ec d true s1).1.i ≤ _; omega, h3.2.2⟩
/-- What one operand of that letter does, behind the comma. -/
theorem stepO_of {el ec : Int} {d : List Tok} {first : Bool} {s s1 : PSt} (h : s1 = if first = true then s else needP el ec d s 4 [44]) (x : Ins) :
    stepO el ec d first 97 s x = (regP el ec d s1, { x with a := regV d s1 }, []) ∧ stepO el ec d first 98 s x = (regP el ec d s1, { x with b := regV d s1 }, []) ∧
    stepO el ec d first 99 s x = (regP el ec d s1, { x with c := regV d s1 }, []) ∧
    stepO el ec d first 105 s x = ((valS el ec d false s1).1, { x with imm := (valS el ec d false s1).2.1 }, (valS el ec d false s1).2.2) ∧
    stepO el ec d first 116 s x = ((valS el ec d true s1).1, { x with imm := (valS el ec d true s1).2.1 }, (valS el ec d true s1).2.2) := by
  subst h
  exact ⟨rfl, rfl, rfl, rfl, rfl⟩
theorem asr_value {W w : World} {R ol : Ents} {gp ga n : Nat} {oa : Option Addr} {oc : Nat} {tv usv ls ps : Value} {sv : ByteArray} {s : PSt} {d : List Tok} {el ec : Int} {L : List (List Value)} (tg : Bool)
    (KN : Kn [] W w ((gp, At (parC (.string sv) tv s) 74) :: (ga, At (ascC gp (.slice oa n oc) usv ls ps) 72) :: (R ++ ol))) (OW : OwnT 76 3 usv L ol) (hL : L.length ≤ 65536) (hn : n ≤ 65536) (hT : TokRd W tv d) (hd : d.length ≤ 65536) (hv : ∀ t ∈ d, 0 ≤ t.raw.value ∧ t.raw.value ≤ 18446744073709551615) (hi1 : 1 ≤ s.i) (hi : s.i ≤ 69000) (hs : sv.size ≤ 65536) (hp : Hid (adv sv.data.toList (1, 1) = (el, ec))) :
    Calls Tryd.prog 75 #[.pointer (some ⟨ga, 0, none⟩), .bool tg] w (ValPost W gp ga (.string sv) tv (.slice oa n oc) ls ps n L R (valS el ec d tg s)) := by
  cases hb : kindB d s 1 with
  | true => exact asr_value_word tg KN OW hL hn hT hd (by omega) hs hp hb
  | false => exact asr_value_num tg KN OW hL hn hT hd hv hi1 hi hs hp hb
def useRows (us : List ARef) : List (List Value) := us.map fun r => useC r.instr (r.label, r.at_)
theorem mnemIx_bdR (s : List UInt8) : -1 ≤ mnemIx s ∧ mnemIx s ≤ 27 := by
  have key : ∀ (f n : Nat), n + f ≤ 28 → -1 ≤ mnemFrom s f n ∧ mnemFrom s f n ≤ 27 := by
    intro f
    induction f with
    | zero => intro n _; show -1 ≤ (-1 : Int) ∧ (-1 : Int) ≤ 27; omega
    | succ f ih =>
      intro n h
      rw [mnemFrom]
      split
      · omega
      · exact ih (n + 1) (by omega)
  exact key 28 0 (by omega)
/-- Behind an instruction: as the plain definition says, or failed with its error. -/
def InsPost (W : World) (gp ga : Nat) (sv tv ls ps : Value) (el ec : Int) (d : List Tok) (p : Int × Int) (x : ASt) (R : Ents) (e : Ending) (w' : World) : Prop :=
  ∃ (ov uv : Value) (ol ul : Ents), e = .returned (.tuple #[]) ∧ match aBody d x with
    | .ok y => OwnT 35 5 ov (y.prog.map fun z => z.cells.toList) ol ∧ OwnT 76 3 uv (useRows y.uses) ul ∧
        Kn [] W w' ((gp, At (parC sv tv ⟨y.i, p, 0⟩) 74) :: (ga, At (ascC gp ov uv ls ps) 72) :: (R ++ (ul ++ ol)))
    | .error q => ∃ (s : PSt) (Lo Lu : List (List Value)), BadP el ec d s q ∧ OwnT 35 5 ov Lo ol ∧ OwnT 76 3 uv Lu ul ∧
        Kn [] W w' ((gp, At (parC sv tv s) 74) :: (ga, At (ascC gp ov uv ls ps) 72) :: (R ++ (ul ++ ol)))
def insOut (d : List Tok) (x : ASt) (T : Except AErr (Ins × Nat × List ARef)) : Except AErr ASt := match T with
  | .error e => .error e
  | .ok (z, j, us) => if isP d j [59] = true then .ok ⟨j + 1, x.prog ++ [z], x.labels, x.uses ++ us⟩ else .error (j, 50)
/-- What stands while the operands are read: as the plain definition is there, or failed with its error. -/
def InsRel (W : World) (gp ga g4 pn : Nat) (sv tv ls ps : Value) (oa : Option Addr) (oc : Nat) (el ec : Int) (d : List Tok) (p : Int × Int) (l : List UInt8) (i0 : Nat) (U0 : List (List Value)) (TOT : Except AErr (Ins × Nat × List ARef)) (R ol : Ents) (i : Value) (wr : World) : Prop :=
  ∃ (k : Nat) (s : PSt) (y : Ins) (uv : Value) (ul : Ents) (Lu : List (List Value)), i = .int .i64 (k : Int) ∧ k ≤ l.length ∧ 1 ≤ s.i ∧ s.i ≤ i0 + 4 * k ∧ Lu.length ≤ U0.length + k ∧ OwnT 76 3 uv Lu ul ∧
    Kn [] W wr ((gp, At (parC sv tv s) 74) :: (ga, At (ascC gp (.slice oa pn oc) uv ls ps) 72) :: (((g4, At y.cells 35) :: (R ++ ol)) ++ ul)) ∧
    ((s.er = 0 ∧ s.p = p ∧ ∃ us, Lu = U0 ++ useRows us ∧ TOT = aOperands d pn (decide (k = 0)) (l.drop k) y s.i us) ∨ ∃ q, TOT = .error q ∧ BadP el ec d s q)
set_option maxRecDepth 100000 in
set_option maxHeartbeats 40000000 in
/-- No mnemonic stands there. -/
theorem asr_instr_none {W w : World} {R ol ul : Ents} {gp ga : Nat} {tv ov uv ls ps : Value} {sv : ByteArray} {p : Int × Int} {x : ASt} {d : List Tok} {el ec : Int}
    (KN : Kn [] W w ((gp, At (parC (.string sv) tv ⟨x.i, p, 0⟩) 74) :: (ga, At (ascC gp ov uv ls ps) 72) :: (R ++ (ul ++ ol)))) (OWo : OwnT 35 5 ov (x.prog.map fun z => z.cells.toList) ol) (OWu : OwnT 76 3 uv (useRows x.uses) ul) (hT : TokRd W tv d) (hd : d.length ≤ 65536) (hi : x.i ≤ 69000) (hs : sv.size ≤ 65536) (hp : Hid (adv sv.data.toList (1, 1) = (el, ec)))
    (hk : ¬ (tk d x.i).kind = 1) :
    Calls Tryd.prog 33 #[.pointer (some ⟨ga, 0, none⟩)] w (InsPost W gp ga (.string sv) tv ls ps el ec d p x R) := by
  have HT := Lib.hid hT
  have HO := Lib.hid OWo
  have HU := Lib.hid OWu
  have HB : Hid (kindB d ⟨x.i, p, 0⟩ 1 = false) := Lib.hid (by rw [kindB_mk, decide_eq_false_iff_not]; exact hk)
  have HA : Hid (aBody d x = .error (x.i, 50)) := Lib.hid (by unfold aBody; rw [if_pos hk])
  clear hT OWo OWu hk
  go_enter Tryd.func33, Tryd.ntmps33
  go_wp2_with (first | (go_at_call 70; refine (par_kind KN HT.out hd (by show x.i ≤ 70000; omega) 1 (by decide)).mono ?_; rw [HB.out]; rintro y wx ⟨rfl, K2⟩; replace KN := K2; clear K2) | (go_at_call 35; refine (par_fail KN HT.out hd hs hp x.i (by omega) 50).mono ?_; rintro y wx ⟨rfl, K2⟩; replace KN := K2; clear K2) | ((with_reducible refine wpList_gate ?_); first | ((refine gate_load (by rfl) ?_); first | (refine ks_load1 KN 67 Tryd.underlying67 ?_) | (refine ks_load1 KN 46 Tryd.underlying46 ?_) | (refine ks_load1 KN 3 Tryd.underlying3 ?_) | (refine ks_load1 KN 9 Tryd.underlying9 ?_) | (refine ks_load1 KN 23 Tryd.underlying23 ?_) | (refine ks_loadW KN 35 Tryd.underlying35 ?_)) | ((refine gate_store (by rfl) ?_); first | (refine ks_store1 KN 3 ?_; clear KN; intro wx KN) | (refine ks_storeW KN 35 ?_; clear KN; intro wx KN) | (refine ks_storeA KN 35 ?_; clear KN; intro wx KN) | (refine ks_store1 KN 21 ?_; clear KN; intro wx KN) | (refine ks_store1 KN 23 ?_; clear KN; intro wx KN)) | ((refine gate_new (by rfl) ?_); first | (refine ks_alloc KN 35 (q := 4) #[.int .i64 0, .int .i64 0, .int .i64 0, .int .i64 0, .int .i32 0] ?_; clear KN; intro g4 wx hg4 KN))))
  first | go_end0 | refine bodyPost_ret (results_none rfl _ _ _) rfl ?_
  unfold InsPost
  rw [HA.out]
  exact ⟨ov, uv, ol, ul, rfl, _, _, _, ⟨rfl, rfl, by show ¬ (50 : Int) = 0; decide⟩, HO.out, HU.out, KN⟩
set_option maxRecDepth 100000 in
set_option maxHeartbeats 40000000 in
/-- A word stands there. -/
theorem asr_instr_word {W w : World} {R ol ul : Ents} {gp ga : Nat} {tv ov uv ls ps : Value} {sv : ByteArray} {p : Int × Int} {x : ASt} {d : List Tok} {el ec : Int}
    (KN : Kn [] W w ((gp, At (parC (.string sv) tv ⟨x.i, p, 0⟩) 74) :: (ga, At (ascC gp ov uv ls ps) 72) :: (R ++ (ul ++ ol)))) (OWo : OwnT 35 5 ov (x.prog.map fun z => z.cells.toList) ol) (OWu : OwnT 76 3 uv (useRows x.uses) ul) (hT : TokRd W tv d) (hd : d.length ≤ 65536) (hi : x.i ≤ 69000) (hs : sv.size ≤ 65536) (hp : Hid (adv sv.data.toList (1, 1) = (el, ec)))
    (hv : ∀ t ∈ d, 0 ≤ t.raw.value ∧ t.raw.value ≤ 18446744073709551615) (hn : x.prog.length ≤ 4096) (hu : x.uses.length ≤ 65000) (hk : (tk d x.i).kind = 1) :
    Calls Tryd.prog 33 #[.pointer (some ⟨ga, 0, none⟩)] w (InsPost W gp ga (.string sv) tv ls ps el ec d p x R) := by
  have HT := Lib.hid hT
  have HVL := Lib.hid hv
  have HUL : Hid ((useRows x.uses).length ≤ 65000) := Lib.hid (by unfold useRows; rw [List.length_map]; exact hu)
  clear hv hu
  have HO := Lib.hid OWo
  have HU := Lib.hid OWu
  have hb : kindB d ⟨x.i, p, 0⟩ 1 = true := by rw [kindB_mk, decide_eq_true_eq]; exact hk
  have HB := Lib.hid hb
  have hin : x.i < d.length := kind_in (by decide) hb
  obtain ⟨a, c, rfl, hc⟩ := hT
  obtain ⟨dn, hdn⟩ : ∃ dn, dn = d.length := ⟨_, rfl⟩
  have HN := Lib.hid hdn
  obtain ⟨t, ht⟩ : ∃ t, d[x.i]? = some t := ⟨_, List.getElem?_eq_getElem hin⟩
  obtain ⟨b, off, rfl, hbb, _, x1, _, _, _⟩ := hc x.i t ht
  have HTX : Hid ((tk d x.i).text = t.raw.text) := Lib.hid (by rw [tk_in ht])
  obtain ⟨mx, hmx⟩ : ∃ mx, mx = mnemIx t.raw.text := ⟨_, rfl⟩
  have hmb := mnemIx_bdR t.raw.text
  have HMX := Lib.hid hmx
  rw [← hmx] at hmb
  rw [← hdn] at hd hin KN HT ⊢
  have HK := Lib.hid hk
  clear OWo OWu hb hdn hc ht hmx hk
  go_enter Tryd.func33, Tryd.ntmps33
  go_upto_region 3 with (first | (go_at_call 70; refine (par_kind KN HT.out (by rw [← HN.out]; exact hd) (by show x.i ≤ 70000; omega) 1 (by decide)).mono ?_; rw [HB.out]; rintro y wx ⟨rfl, K2⟩; replace KN := K2; clear K2) | ((with_reducible refine wpList_gate ?_); first | ((refine gate_load (by rfl) ?_); first | (refine ks_load1 KN 67 Tryd.underlying67 ?_) | (refine ks_load1 KN 46 Tryd.underlying46 ?_) | (refine ks_load1 KN 3 Tryd.underlying3 ?_) | (refine ks_load1 KN 9 Tryd.underlying9 ?_) | (refine ks_load1 KN 23 Tryd.underlying23 ?_) | (refine ks_loadW KN 35 Tryd.underlying35 ?_)) | ((refine gate_store (by rfl) ?_); first | (refine ks_store1 KN 3 ?_; clear KN; intro wx KN) | (refine ks_storeW KN 35 ?_; clear KN; intro wx KN) | (refine ks_storeA KN 35 ?_; clear KN; intro wx KN) | (refine ks_store1 KN 21 ?_; clear KN; intro wx KN) | (refine ks_store1 KN 23 ?_; clear KN; intro wx KN)) | ((refine gate_new (by rfl) ?_); first | (refine ks_alloc KN 35 (q := 4) #[.int .i64 0, .int .i64 0, .int .i64 0, .int .i64 0, .int .i32 0] ?_; clear KN; intro g4 wx hg4 KN))))
  (try go_frame)
  go_cut [3] (fun s3 wz => s3 = .int .i64 mx ∧ Kn [] W wz ((gp, At (parC (.string sv) (.slice (some ⟨b, off, none⟩) dn c) ⟨x.i, p, 0⟩) 74) :: (ga, At (ascC gp ov uv ls ps) 72) :: (R ++ (ul ++ ol))))
  case first =>
    replace KN := KN.drew
    refine wp_region_held_drew (S := (fun w' => w'.cell? ⟨gp, 1, none⟩ = some (.slice (some ⟨b, off, none⟩) dn c) ∧ w'.cell? ⟨gp, 2, none⟩ = some (.int .i64 (x.i : Int)) ∧ w'.cell? ⟨b, off + x.i * 5 + 1, none⟩ = some (.string (str t.raw.text)))) (by kernel_rfl) ?qahS (fun hHeld => ?qarest)
    case qahS => exact ⟨KN.cell (g := gp) (o := 1) (by repeat (first | exact Has.here | refine Has.there ?_)) rfl, KN.cell (g := gp) (o := 2) (by repeat (first | exact Has.here | refine Has.there ?_)) rfl, (KN.old hbb (by simp)).trans x1⟩
    refine wpAnyH_take (i := 0) (oi := ⟨some 13, _, _, _, _, _⟩) (v := ?qav0) rfl (by kernel_rfl) (by kernel_rfl) (by kernel_rfl) (fun _ _ _ h => h) (Or.inl ⟨by rfl, ?qahy0⟩) hHeld ?qar0
    case qahy0 => (intro w hSw; (try dsimp only at hSw); go_simp; (try with_reducible rfl))
    (try simp only [Act.put, List.setIfInBounds_toArray, List.set_cons_zero, List.set_cons_succ])
    refine wpAnyH_take (i := 1) (oi := ⟨some 14, _, _, _, _, _⟩) (v := ?qav1) rfl (by kernel_rfl) (by kernel_rfl) (by kernel_rfl) (fun _ _ _ h => h) (Or.inl ⟨by rfl, ?qahy1⟩) hHeld ?qar1
    case qahy1 => (intro w hSw; (try dsimp only at hSw); go_simp; (try with_reducible rfl))
    (try simp only [Act.put, List.setIfInBounds_toArray, List.set_cons_zero, List.set_cons_succ])
    refine wpAnyH_take (i := 2) (oi := ⟨some 15, _, _, _, _, _⟩) (v := ?qav2) rfl (by kernel_rfl) (by kernel_rfl) (by kernel_rfl) (fun _ _ _ h => h) (Or.inl ⟨by rfl, ?qahy2⟩) hHeld ?qar2
    case qahy2 => (intro w hSw; (try dsimp only at hSw); go_simp; (try with_reducible rfl))
    (try simp only [Act.put, List.setIfInBounds_toArray, List.set_cons_zero, List.set_cons_succ])
    refine wpAnyH_take (i := 3) (oi := ⟨some 16, _, _, _, _, _⟩) (v := (.slice (some ⟨b, off, none⟩) dn c)) rfl (by kernel_rfl) (by kernel_rfl) (by kernel_rfl) (fun _ _ _ h => h) (kn_yields_cell (by rfl) 46 _ rfl gp 1 rfl _ (fun _ h => h.1) _ Tryd.underlying46 rfl) hHeld ?qar3
    (try simp only [Act.put, List.setIfInBounds_toArray, List.set_cons_zero, List.set_cons_succ])
    refine wpAnyH_take (i := 4) (oi := ⟨some 17, _, _, _, _, _⟩) (v := ?qav4) rfl (by kernel_rfl) (by kernel_rfl) (by kernel_rfl) (fun _ _ _ h => h) (Or.inl ⟨by rfl, ?qahy4⟩) hHeld ?qar4
    case qahy4 => (intro w hSw; (try dsimp only at hSw); go_simp; (try with_reducible rfl))
    (try simp only [Act.put, List.setIfInBounds_toArray, List.set_cons_zero, List.set_cons_succ])
    refine wpAnyH_take (i := 5) (oi := ⟨some 18, _, _, _, _, _⟩) (v := ?qav5) rfl (by kernel_rfl) (by kernel_rfl) (by kernel_rfl) (fun _ _ _ h => h) (Or.inl ⟨by rfl, ?qahy5⟩) hHeld ?qar5
    case qahy5 => (intro w hSw; (try dsimp only at hSw); go_simp; (try with_reducible rfl))
    (try simp only [Act.put, List.setIfInBounds_toArray, List.set_cons_zero, List.set_cons_succ])
    refine wpAnyH_take (i := 6) (oi := ⟨some 19, _, _, _, _, _⟩) (v := ?qav6) rfl (by kernel_rfl) (by kernel_rfl) (by kernel_rfl) (fun _ _ _ h => h) (Or.inl ⟨by rfl, ?qahy6⟩) hHeld ?qar6
    case qahy6 => (intro w hSw; (try dsimp only at hSw); go_simp; (try with_reducible rfl))
    (try simp only [Act.put, List.setIfInBounds_toArray, List.set_cons_zero, List.set_cons_succ])
    refine wpAnyH_take (i := 7) (oi := ⟨some 20, _, _, _, _, _⟩) (v := (.int .i64 (x.i : Int))) rfl (by kernel_rfl) (by kernel_rfl) (by kernel_rfl) (fun _ _ _ h => h) (kn_yields_cell (by rfl) 3 _ rfl gp 2 rfl _ (fun _ h => h.2.1) _ Tryd.underlying3 rfl) hHeld ?qar7
    (try simp only [Act.put, List.setIfInBounds_toArray, List.set_cons_zero, List.set_cons_succ])
    refine wpAnyH_take (i := 8) (oi := ⟨some 21, _, _, _, _, _⟩) (v := (.pointer (some ⟨b, off + x.i * 5, none⟩))) rfl (by kernel_rfl) (by kernel_rfl) (by kernel_rfl) (fun _ _ _ h => h) (Or.inl ⟨by rfl, ?qahy8⟩) hHeld ?qar8
    case qahy8 => (intro w hSw; (try dsimp only at hSw); go_simp; (try rfl))
    (try simp only [Act.put, List.setIfInBounds_toArray, List.set_cons_zero, List.set_cons_succ])
    refine wpAnyH_take (i := 9) (oi := ⟨some 22, _, _, _, _, _⟩) (v := ?qav9) rfl (by kernel_rfl) (by kernel_rfl) (by kernel_rfl) (fun _ _ _ h => h) (Or.inl ⟨by rfl, ?qahy9⟩) hHeld ?qar9
    case qahy9 => (intro w hSw; (try dsimp only at hSw); go_simp; (try with_reducible rfl))
    (try simp only [Act.put, List.setIfInBounds_toArray, List.set_cons_zero, List.set_cons_succ])
    refine wpAnyH_take (i := 10) (oi := ⟨some 23, _, _, _, _, _⟩) (v := (.string (str t.raw.text))) rfl (by kernel_rfl) (by kernel_rfl) (by kernel_rfl) (fun _ _ _ h => h) (kn_yields_cell (by rfl) 9 _ rfl b (off + x.i * 5 + 1) rfl _ (fun _ h => h.2.2) _ Tryd.underlying9 rfl) hHeld ?qar10
    (try simp only [Act.put, List.setIfInBounds_toArray, List.set_cons_zero, List.set_cons_succ])
    refine wpAnyH_ready (rs := [11]) (by kernel_rfl) (by simp) ?qac11
    refine AllReadyH.cons (o := ⟨some 24, _, _, _, _, _⟩) rfl (fun K hK => ?qast11) AllReadyH.nil
    go_simp
    (refine (mnemonic_any t.raw.text _).mono ?_; rw [← HMX.out]; rintro y wx ⟨rfl, hb⟩; replace KN := KN.below hb; clear hb)
    refine hK.out _ _ ?qak11 (fun hHeld2 => ?qam11)
    case qak11 => exact ⟨KN.cell (g := gp) (o := 1) (by repeat (first | exact Has.here | refine Has.there ?_)) rfl, KN.cell (g := gp) (o := 2) (by repeat (first | exact Has.here | refine Has.there ?_)) rfl, (KN.old hbb (by simp)).trans x1⟩
    clear hK K hHeld
    have hHeld := hHeld2; clear hHeld2
    (try simp only [Act.put, List.setIfInBounds_toArray, List.set_cons_zero, List.set_cons_succ])
    refine wpAnyH_take (i := 12) (oi := ⟨some 3, _, _, _, _, _⟩) (v := ?qav12) rfl (by kernel_rfl) (by kernel_rfl) (by kernel_rfl) (fun _ _ _ h => h) (Or.inl ⟨by rfl, ?qahy12⟩) hHeld ?qar12
    case qahy12 => (intro w hSw; (try dsimp only at hSw); go_simp; (try with_reducible rfl))
    (try simp only [Act.put, List.setIfInBounds_toArray, List.set_cons_zero, List.set_cons_succ])
    refine wpAnyH_done (by kernel_rfl) ?qadone _
    go_wp2_with fail
    go_meet
    exact ⟨rfl, KN⟩
  case rest =>
    clear KN
    obtain ⟨rfl, KN⟩ := hcut
    by_cases hm0 : mx < 0
    · have HA : Hid (aBody d x = .error (x.i, 50)) := Lib.hid (by unfold aBody; rw [if_neg (fun q => q HK.out), HTX.out, ← HMX.out, if_pos hm0])
      go_wp2_with (first | (go_at_call 35; refine (par_fail KN HT.out (by rw [← HN.out]; exact hd) hs hp x.i (by omega) 50).mono ?_; rintro y wx ⟨rfl, K2⟩; replace KN := K2; clear K2) | ((with_reducible refine wpList_gate ?_); first | ((refine gate_load (by rfl) ?_); first | (refine ks_load1 KN 67 Tryd.underlying67 ?_) | (refine ks_load1 KN 46 Tryd.underlying46 ?_) | (refine ks_load1 KN 3 Tryd.underlying3 ?_) | (refine ks_load1 KN 9 Tryd.underlying9 ?_) | (refine ks_load1 KN 23 Tryd.underlying23 ?_) | (refine ks_loadW KN 35 Tryd.underlying35 ?_)) | ((refine gate_store (by rfl) ?_); first | (refine ks_store1 KN 3 ?_; clear KN; intro wx KN) | (refine ks_storeW KN 35 ?_; clear KN; intro wx KN) | (refine ks_storeA KN 35 ?_; clear KN; intro wx KN) | (refine ks_store1 KN 21 ?_; clear KN; intro wx KN) | (refine ks_store1 KN 23 ?_; clear KN; intro wx KN)) | ((refine gate_new (by rfl) ?_); first | (refine ks_alloc KN 35 (q := 4) #[.int .i64 0, .int .i64 0, .int .i64 0, .int .i64 0, .int .i32 0] ?_; clear KN; intro g4 wx hg4 KN))))
      first | go_end0 | refine bodyPost_ret (results_none rfl _ _ _) rfl ?_
      unfold InsPost
      rw [HA.out]
      exact ⟨ov, uv, ol, ul, rfl, _, _, _, ⟨rfl, rfl, by show ¬ (50 : Int) = 0; decide⟩, HO.out, HU.out, KN⟩
    · obtain ⟨oa, oc, hov⟩ := HO.out.form
      rw [List.length_map] at hov
      subst hov
      obtain ⟨pn, hpn⟩ : ∃ pn, pn = x.prog.length := ⟨_, rfl⟩
      have HPN := Lib.hid hpn
      rw [← hpn] at hn HO KN
      clear hpn
      go_upto_if 38 with (first | ((with_reducible refine wpList_gate ?_); first | ((refine gate_load (by rfl) ?_); first | (refine ks_load1 KN 67 Tryd.underlying67 ?_) | (refine ks_load1 KN 46 Tryd.underlying46 ?_) | (refine ks_load1 KN 3 Tryd.underlying3 ?_) | (refine ks_load1 KN 9 Tryd.underlying9 ?_) | (refine ks_load1 KN 23 Tryd.underlying23 ?_) | (refine ks_loadW KN 35 Tryd.underlying35 ?_)) | ((refine gate_store (by rfl) ?_); first | (refine ks_store1 KN 3 ?_; clear KN; intro wx KN) | (refine ks_storeW KN 35 ?_; clear KN; intro wx KN) | (refine ks_storeA KN 35 ?_; clear KN; intro wx KN) | (refine ks_store1 KN 21 ?_; clear KN; intro wx KN) | (refine ks_store1 KN 23 ?_; clear KN; intro wx KN)) | ((refine gate_new (by rfl) ?_); first | (refine ks_alloc KN 35 (q := 4) #[.int .i64 0, .int .i64 0, .int .i64 0, .int .i64 0, .int .i32 0] ?_; clear KN; intro g4 wx hg4 KN))))
      go_cut [38] (fun _ wz => ∃ s1 : PSt, s1.i = x.i ∧ ((s1 = ⟨x.i, p, 0⟩ ∧ pn < 4096) ∨ (BadP el ec d s1 (x.i, 15) ∧ pn = 4096)) ∧ Kn [] W wz ((gp, At (parC (.string sv) (.slice (some ⟨b, off, none⟩) dn c) s1) 74) :: (ga, At (ascC gp (.slice oa pn oc) uv ls ps) 72) :: (R ++ (ul ++ ol))))
      case first =>
        by_cases hlim : pn < 4096
        · go_wp2_with fail
          go_meet
          case rel => exact ⟨⟨x.i, p, 0⟩, rfl, .inl ⟨rfl, hlim⟩, KN⟩
        · go_wp2_with (first | (go_at_call 35; refine (par_fail KN HT.out (by rw [← HN.out]; exact hd) hs hp x.i (by omega) 15).mono ?_; rintro y wx ⟨rfl, K2⟩; replace KN := K2; clear K2) | ((with_reducible refine wpList_gate ?_); first | ((refine gate_load (by rfl) ?_); first | (refine ks_load1 KN 67 Tryd.underlying67 ?_) | (refine ks_load1 KN 46 Tryd.underlying46 ?_) | (refine ks_load1 KN 3 Tryd.underlying3 ?_) | (refine ks_load1 KN 9 Tryd.underlying9 ?_) | (refine ks_load1 KN 23 Tryd.underlying23 ?_) | (refine ks_loadW KN 35 Tryd.underlying35 ?_)) | ((refine gate_store (by rfl) ?_); first | (refine ks_store1 KN 3 ?_; clear KN; intro wx KN) | (refine ks_storeW KN 35 ?_; clear KN; intro wx KN) | (refine ks_storeA KN 35 ?_; clear KN; intro wx KN) | (refine ks_store1 KN 21 ?_; clear KN; intro wx KN) | (refine ks_store1 KN 23 ?_; clear KN; intro wx KN)) | ((refine gate_new (by rfl) ?_); first | (refine ks_alloc KN 35 (q := 4) #[.int .i64 0, .int .i64 0, .int .i64 0, .int .i64 0, .int .i32 0] ?_; clear KN; intro g4 wx hg4 KN))))
          go_meet
          case rel => exact ⟨⟨x.i, posE el ec d x.i, 15⟩, rfl, .inr ⟨⟨rfl, rfl, by show ¬ (15 : Int) = 0; decide⟩, by omega⟩, KN⟩
      case rest =>
        clear KN
        obtain ⟨s1, hs1, hst, KN⟩ := hcut
        obtain ⟨l, hl⟩ : ∃ l, l = operandsOf mx := ⟨_, rfl⟩
        have hl3 := operands_len mx (by omega) (by omega)
        have HL := Lib.hid hl
        rw [← hl] at hl3
        have HST := Lib.hid hst
        clear hl hst
        go_wp2_with (first | (go_at_call 55; refine (Operands_any mx _ (by omega) (by omega)).mono ?_; rw [← HL.out]; rintro y wx ⟨rfl, hb⟩; replace KN := KN.below hb; clear hb) | ((with_reducible refine wpList_gate ?_); first | ((refine gate_load (by rfl) ?_); first | (refine ks_load1 KN 67 Tryd.underlying67 ?_) | (refine ks_load1 KN 46 Tryd.underlying46 ?_) | (refine ks_load1 KN 3 Tryd.underlying3 ?_) | (refine ks_load1 KN 9 Tryd.underlying9 ?_) | (refine ks_load1 KN 23 Tryd.underlying23 ?_) | (refine ks_loadW KN 35 Tryd.underlying35 ?_)) | ((refine gate_store (by rfl) ?_); first | (refine ks_store1 KN 3 ?_; clear KN; intro wx KN) | (refine ks_storeW KN 35 ?_; clear KN; intro wx KN) | (refine ks_storeA KN 35 ?_; clear KN; intro wx KN) | (refine ks_store1 KN 21 ?_; clear KN; intro wx KN) | (refine ks_store1 KN 23 ?_; clear KN; intro wx KN)) | ((refine gate_new (by rfl) ?_); first | (refine wpList_built rfl 35 _ rfl (Ins.mk mx 0 0 0 0).cells (by kernel_rfl) ?_) | (refine ks_alloc KN 35 (q := 4) #[.int .i64 0, .int .i64 0, .int .i64 0, .int .i64 0, .int .i32 0] ?_; clear KN; intro g4 wx hg4 KN))))
        obtain ⟨TOT, hTOT⟩ : ∃ TOT, TOT = if pn < 4096 then aOperands d pn true l ⟨mx, 0, 0, 0, 0⟩ (x.i + 1) [] else .error (x.i, 15) := ⟨_, rfl⟩
        have HTOT := Lib.hid hTOT
        replace KN := KN.as_ gp (parC (.string sv) (.slice (some ⟨b, off, none⟩) dn c) (stepP s1)) (by repeat (first | exact Repl.here | apply Repl.there)) (by
          rw [show parC (.string sv) (.slice (some ⟨b, off, none⟩) dn c) (stepP s1) = #[.string sv, .slice (some ⟨b, off, none⟩) dn c, .int .i64 ((x.i : Int) + 1), .int .i64 s1.p.1, .int .i64 s1.p.2, .int .i64 s1.er] from by
            have e3 : ((s1.i + 1 : Nat) : Int) = (x.i : Int) + 1 := by omega
            show #[_, _, Value.int .i64 (((s1.i + 1 : Nat)) : Int), _, _, _] = _
            rw [e3]; rfl]
          rfl)
        replace KN := KN.as_ g4 (Ins.mk mx 0 0 0 0).cells (by repeat (first | exact Repl.here | apply Repl.there)) (by kernel_rfl)
        have KQ : Kn [] W wx ((gp, At (parC (.string sv) (.slice (some ⟨b, off, none⟩) dn c) (stepP s1)) 74) :: (ga, At (ascC gp (.slice oa pn oc) uv ls ps) 72) :: (((g4, At (Ins.mk mx 0 0 0 0).cells 35) :: (R ++ ol)) ++ ul)) := by
          refine KN.perm ?_
          refine (List.Perm.swap _ _ _).trans ((List.Perm.cons _ ((List.Perm.swap _ _ _).trans (List.Perm.cons _ (List.Perm.cons _ ?_)))))
          show List.Perm (R ++ (ul ++ ol)) ((R ++ ol) ++ ul)
          rw [List.append_assoc]
          exact List.perm_append_comm.append_left R
        go_loopw [6] (fun i wr => InsRel W gp ga g4 pn (.string sv) (.slice (some ⟨b, off, none⟩) dn c) ls ps oa oc el ec d p l (x.i + 1) (useRows x.uses) TOT R ol i wr) (fun i _ => l.length - (intOf i).toNat)
        case atStart =>
          refine ⟨0, stepP s1, ⟨mx, 0, 0, 0, 0⟩, uv, ul, useRows x.uses, rfl, Nat.zero_le _, by show 1 ≤ s1.i + 1; omega, by show s1.i + 1 ≤ x.i + 1 + 4 * 0; omega, Nat.le_refl _, HU.out, KQ, ?_⟩
          rcases HST.out with ⟨rfl, hlim⟩ | ⟨hbad, hlim⟩
          · exact .inl ⟨rfl, rfl, [], by simp [useRows], by rw [HTOT.out, if_pos hlim]; rfl⟩
          · exact .inr ⟨(x.i, 15), by rw [HTOT.out, if_neg (by omega)], hbad⟩
        case round =>
          clear KN KQ
          have HA : Hid (aBody d x = insOut d x TOT) := Lib.hid (by
            unfold aBody insOut
            rw [if_neg (fun q => q HK.out), HTX.out, ← HMX.out, if_neg (by omega), ← HPN.out, ← HL.out, HTOT.out]
            by_cases hlim : pn < 4096
            · rw [if_neg (by omega), if_pos hlim]; first | rfl | (cases aOperands d pn true l ⟨mx, 0, 0, 0, 0⟩ (x.i + 1) [] <;> rfl)
            · rw [if_pos (by omega), if_neg hlim])
          obtain ⟨k, s, y, uv, ul, Lu, rfl, hkl, hs1', hs2', hLu, OU, KN, hst⟩ := hrel
          have HOU := Lib.hid OU
          have HS2 := Lib.hid hst
          clear OU hst
          obtain ⟨ln, hln⟩ : ∃ ln, ln = l.length := ⟨_, rfl⟩
          have HLN := Lib.hid hln
          have hsl : (str l).size = ln := by rw [str_size, hln]
          rw [← hln] at hkl hl3
          clear hln
          by_cases hgo : s.er = 0 ∧ k < ln
          · obtain ⟨h0, hlt⟩ := hgo
            have HOK : Hid ((s.er == 0) = true) := Lib.hid (by rw [h0]; rfl)
            obtain ⟨sN, hsN⟩ : ∃ sN, sN = if decide (k = 0) = true then s else needP el ec d s 4 [44] := ⟨_, rfl⟩
            have hsNi : s.i ≤ sN.i ∧ sN.i ≤ s.i + 1 := by
              rw [hsN]; split
              · omega
              · exact needP_i _ _ _ _ _ _
            have HSN := Lib.hid hsN
            clear hsN
            have hlU := HUL.out
            have hL9 : Lu.length ≤ 65536 := by omega
            obtain ⟨cb, hcb⟩ : ∃ cb, cb = l.getD k 0 := ⟨_, rfl⟩
            have hlk : l[k]? = some cb := by
              rw [hcb, List.getD_eq_getElem?_getD, List.getElem?_eq_getElem (by rw [← HLN.out]; exact hlt)]; rfl
            have hc5 : cb = 97 ∨ cb = 98 ∨ cb = 99 ∨ cb = 105 ∨ cb = 116 := by
              refine opsR_mem (op := mx) (by omega) (by omega) cb ?_
              rw [← HL.out]; exact List.mem_of_getElem? hlk
            have HNX : Hid (∀ (r : PSt × Ins × List (List UInt8 × Nat)) (i : Value) (uv' : Value) (ul' : Ents) (wz : World), r = stepO el ec d (decide (k = 0)) cb s y → i = .int .i64 ((k + 1 : Nat) : Int) → OwnT 76 3 uv' (Lu ++ r.2.2.map (useC pn)) ul' →
                Kn [] W wz ((gp, At (parC (.string sv) (.slice (some ⟨b, off, none⟩) dn c) r.1) 74) :: (ga, At (ascC gp (.slice oa pn oc) uv' ls ps) 72) :: (((g4, At r.2.1.cells 35) :: (R ++ ol)) ++ ul')) →
                InsRel W gp ga g4 pn (.string sv) (.slice (some ⟨b, off, none⟩) dn c) ls ps oa oc el ec d p l (x.i + 1) (useRows x.uses) TOT R ol i wz) := Lib.hid (by
              intro r i uv' ul' wz hr hi9 OW KN
              have hbd := stepO_bd el ec d (decide (k = 0)) cb s y
              rw [← hr] at hbd
              refine ⟨k + 1, r.1, r.2.1, uv', ul', _, hi9, by rw [← HLN.out]; omega, by omega, by omega, ?_, OW, KN, ?_⟩
              · rw [List.length_append, List.length_map]; omega
              · rcases HS2.out with ⟨_, hp0, us, hLu2, hT⟩ | ⟨q, hq, hbad⟩
                · have hdr : l.drop k = cb :: l.drop (k + 1) := List.drop_eq_getElem_cons (by rw [← HLN.out]; exact hlt) |>.trans (by
                    congr 1
                    have := List.getElem?_eq_some_iff.1 hlk
                    exact this.2)
                  rw [hdr] at hT
                  rcases stepO_ok (el := el) (ec := ec) h0 pn (decide (k = 0)) cb (l.drop (k + 1)) y us with ⟨y', j, vs, e1, e2, hpv⟩ | ⟨e, e1, e2⟩
                  · rw [e1] at hr
                    subst hr
                    refine .inl ⟨rfl, hp0, us ++ vs, ?_, ?_⟩
                    · rw [hLu2, List.append_assoc]
                      congr 1
                      unfold useRows
                      rw [List.map_append]
                      congr 1
                      unfold refU
                      rw [List.map_map]
                      exact List.map_congr_left (fun z hz => by rw [hpv z hz]; rfl)
                    · rw [hT, e2, show decide (k + 1 = 0) = false from by simp]
                  · refine .inr ⟨e, by rw [hT, e1], ?_⟩
                    rw [hr]; exact e2
                · exact absurd h0 (by rw [hbad.1]; exact hbad.2.2))
            obtain ⟨uo, huo⟩ : ∃ u, u = str l := ⟨_, rfl⟩
            have hjl : k < uo.size := by rw [huo, hsl]; exact hlt
            have hg := str_getR huo k hjl
            rw [← hcb] at hg
            rw [← huo] at hsl
            rw [← huo]
            clear hcb hlk huo
            have KN : Kn [] W wr ((gp, At (parC (.string sv) (.slice (some ⟨b, off, none⟩) dn c) s) 74) :: (ga, At (ascC gp (.slice oa pn oc) uv ls ps) 72) :: (g4, At y.cells 35) :: ((R ++ ol) ++ ul)) := KN
            have HG := Lib.hid hg
            have HC5 := Lib.hid hc5
            clear hg hc5
            go_upto_if 67 with (first | (go_at_call 30; refine (par_ok KN).mono ?_; rw [HOK.out]; rintro e9 wx ⟨rfl, K2⟩; replace KN := K2; clear K2) | ((with_reducible refine wpList_gate ?_); first | ((refine gate_load (by rfl) ?_); first | (refine ks_load1 KN 67 Tryd.underlying67 ?_) | (refine ks_load1 KN 46 Tryd.underlying46 ?_) | (refine ks_load1 KN 3 Tryd.underlying3 ?_) | (refine ks_load1 KN 9 Tryd.underlying9 ?_) | (refine ks_load1 KN 23 Tryd.underlying23 ?_) | (refine ks_loadW KN 35 Tryd.underlying35 ?_)) | ((refine gate_store (by rfl) ?_); first | (refine ks_store1 KN 3 ?_; clear KN; intro wx KN) | (refine ks_storeW KN 35 ?_; clear KN; intro wx KN) | (refine ks_storeA KN 35 ?_; clear KN; intro wx KN) | (refine ks_store1 KN 21 ?_; clear KN; intro wx KN) | (refine ks_store1 KN 23 ?_; clear KN; intro wx KN)) | ((refine gate_new (by rfl) ?_); first | (refine ks_alloc KN 35 (q := 4) #[.int .i64 0, .int .i64 0, .int .i64 0, .int .i64 0, .int .i32 0] ?_; clear KN; intro g4 wx hg4 KN))))
            go_cut [67] (fun _ wz => Kn [] W wz ((gp, At (parC (.string sv) (.slice (some ⟨b, off, none⟩) dn c) sN) 74) :: (ga, At (ascC gp (.slice oa pn oc) uv ls ps) 72) :: (g4, At y.cells 35) :: ((R ++ ol) ++ ul)))
            case first =>
              by_cases hk0 : 0 < k
              · have HE : Hid (needP el ec d s 4 [44] = sN) := Lib.hid (by rw [HSN.out, if_neg (by rw [decide_eq_true_eq]; omega)])
                have h44 : str [44] = ⟨#[44]⟩ := rfl
                go_wp2_with (go_at_call 73; rw [← h44]; refine (par_need KN HT.out (by rw [← HN.out]; exact hd) (by omega) hs hp 4 (by decide) [44]).mono ?_; rw [HE.out]; rintro e9 wx ⟨rfl, K2⟩; replace KN := K2; clear K2)
                go_meet
                case rel => exact KN
              · have HE : Hid (s = sN) := Lib.hid (by rw [HSN.out, if_pos (by rw [decide_eq_true_eq]; omega)])
                go_wp2_with fail
                go_meet
                case rel => exact (by rw [← HE.out]; exact KN)
            case rest =>
              clear KN
              have KN := hcut
              obtain ⟨yo, ya, yb, yc, yi⟩ := y
              have HSO := Lib.hid (stepO_of HSN.out (Ins.mk yo ya yb yc yi))
              rcases HC5.out with hc5 | hc5 | hc5 | hc5 | hc5
              · have hg2 : ((uo[k]'hjl).toNat : Int) = 97 := by rw [HG.out, hc5]; rfl
                go_wp2_with (first | (go_at_call 74; refine (asr_register KN HT.out (by rw [← HN.out]; exact hd) (by omega) hs hp).mono ?_; rintro e9 wx ⟨rfl, K2⟩; replace KN := K2; clear K2) | ((with_reducible refine wpList_gate ?_); first | ((refine gate_load (by rfl) ?_); first | (refine ks_load1 KN 67 Tryd.underlying67 ?_) | (refine ks_load1 KN 46 Tryd.underlying46 ?_) | (refine ks_load1 KN 3 Tryd.underlying3 ?_) | (refine ks_load1 KN 9 Tryd.underlying9 ?_) | (refine ks_load1 KN 23 Tryd.underlying23 ?_) | (refine ks_loadW KN 35 Tryd.underlying35 ?_)) | ((refine gate_store (by rfl) ?_); first | (refine ks_store1 KN 3 ?_; clear KN; intro wx KN) | (refine ks_storeW KN 35 ?_; clear KN; intro wx KN) | (refine ks_storeA KN 35 ?_; clear KN; intro wx KN) | (refine ks_store1 KN 21 ?_; clear KN; intro wx KN) | (refine ks_store1 KN 23 ?_; clear KN; intro wx KN)) | ((refine gate_new (by rfl) ?_); first | (refine ks_alloc KN 35 (q := 4) #[.int .i64 0, .int .i64 0, .int .i64 0, .int .i64 0, .int .i32 0] ?_; clear KN; intro g4 wx hg4 KN))))
                go_roundw
                case rel => exact HNX.out (regP el ec d sN, ⟨yo, regV d sN, yb, yc, yi⟩, []) _ _ _ _ (by rw [hc5]; exact (HSO.out.1).symm) (by go_num) (by simpa using HOU.out) (KN.as_ g4 (Ins.cells ⟨yo, regV d sN, yb, yc, yi⟩) (by repeat (first | exact Repl.here | apply Repl.there)) (by kernel_rfl))
                case measure => (have h9 := HLN.out; simp [intOf]; omega)
              · have hg2 : ((uo[k]'hjl).toNat : Int) = 98 := by rw [HG.out, hc5]; rfl
                go_wp2_with (first | (go_at_call 74; refine (asr_register KN HT.out (by rw [← HN.out]; exact hd) (by omega) hs hp).mono ?_; rintro e9 wx ⟨rfl, K2⟩; replace KN := K2; clear K2) | ((with_reducible refine wpList_gate ?_); first | ((refine gate_load (by rfl) ?_); first | (refine ks_load1 KN 67 Tryd.underlying67 ?_) | (refine ks_load1 KN 46 Tryd.underlying46 ?_) | (refine ks_load1 KN 3 Tryd.underlying3 ?_) | (refine ks_load1 KN 9 Tryd.underlying9 ?_) | (refine ks_load1 KN 23 Tryd.underlying23 ?_) | (refine ks_loadW KN 35 Tryd.underlying35 ?_)) | ((refine gate_store (by rfl) ?_); first | (refine ks_store1 KN 3 ?_; clear KN; intro wx KN) | (refine ks_storeW KN 35 ?_; clear KN; intro wx KN) | (refine ks_storeA KN 35 ?_; clear KN; intro wx KN) | (refine ks_store1 KN 21 ?_; clear KN; intro wx KN) | (refine ks_store1 KN 23 ?_; clear KN; intro wx KN)) | ((refine gate_new (by rfl) ?_); first | (refine ks_alloc KN 35 (q := 4) #[.int .i64 0, .int .i64 0, .int .i64 0, .int .i64 0, .int .i32 0] ?_; clear KN; intro g4 wx hg4 KN))))
                go_roundw
                case rel => exact HNX.out (regP el ec d sN, ⟨yo, ya, regV d sN, yc, yi⟩, []) _ _ _ _ (by rw [hc5]; exact (HSO.out.2.1).symm) (by go_num) (by simpa using HOU.out) (KN.as_ g4 (Ins.cells ⟨yo, ya, regV d sN, yc, yi⟩) (by repeat (first | exact Repl.here | apply Repl.there)) (by kernel_rfl))
                case measure => (have h9 := HLN.out; simp [intOf]; omega)
              · have hg2 : ((uo[k]'hjl).toNat : Int) = 99 := by rw [HG.out, hc5]; rfl
                go_wp2_with (first | (go_at_call 74; refine (asr_register KN HT.out (by rw [← HN.out]; exact hd) (by omega) hs hp).mono ?_; rintro e9 wx ⟨rfl, K2⟩; replace KN := K2; clear K2) | ((with_reducible refine wpList_gate ?_); first | ((refine gate_load (by rfl) ?_); first | (refine ks_load1 KN 67 Tryd.underlying67 ?_) | (refine ks_load1 KN 46 Tryd.underlying46 ?_) | (refine ks_load1 KN 3 Tryd.underlying3 ?_) | (refine ks_load1 KN 9 Tryd.underlying9 ?_) | (refine ks_load1 KN 23 Tryd.underlying23 ?_) | (refine ks_loadW KN 35 Tryd.underlying35 ?_)) | ((refine gate_store (by rfl) ?_); first | (refine ks_store1 KN 3 ?_; clear KN; intro wx KN) | (refine ks_storeW KN 35 ?_; clear KN; intro wx KN) | (refine ks_storeA KN 35 ?_; clear KN; intro wx KN) | (refine ks_store1 KN 21 ?_; clear KN; intro wx KN) | (refine ks_store1 KN 23 ?_; clear KN; intro wx KN)) | ((refine gate_new (by rfl) ?_); first | (refine ks_alloc KN 35 (q := 4) #[.int .i64 0, .int .i64 0, .int .i64 0, .int .i64 0, .int .i32 0] ?_; clear KN; intro g4 wx hg4 KN))))
                go_roundw
                case rel => exact HNX.out (regP el ec d sN, ⟨yo, ya, yb, regV d sN, yi⟩, []) _ _ _ _ (by rw [hc5]; exact (HSO.out.2.2.1).symm) (by go_num) (by simpa using HOU.out) (KN.as_ g4 (Ins.cells ⟨yo, ya, yb, regV d sN, yi⟩) (by repeat (first | exact Repl.here | apply Repl.there)) (by kernel_rfl))
                case measure => (have h9 := HLN.out; simp [intOf]; omega)
              · have hg2 : ((uo[k]'hjl).toNat : Int) = 105 := by rw [HG.out, hc5]; rfl
                go_wp2_with (first | (go_at_call 75; refine (asr_value (R := (g4, At (Ins.mk yo ya yb yc yi).cells 35) :: (R ++ ol)) (ol := ul) false KN HOU.out hL9 (by omega) HT.out (by rw [← HN.out]; exact hd) HVL.out (by omega) (by omega) hs hp).mono ?_; rintro e9 wx ⟨uv9, ul9, rfl, OW9, K2⟩; clear KN; have KN : Kn [] W wx ((gp, _) :: (ga, _) :: (g4, At (Ins.mk yo ya yb yc yi).cells 35) :: ((R ++ ol) ++ ul9)) := K2; clear K2) | ((with_reducible refine wpList_gate ?_); first | ((refine gate_load (by rfl) ?_); first | (refine ks_load1 KN 67 Tryd.underlying67 ?_) | (refine ks_load1 KN 46 Tryd.underlying46 ?_) | (refine ks_load1 KN 3 Tryd.underlying3 ?_) | (refine ks_load1 KN 9 Tryd.underlying9 ?_) | (refine ks_load1 KN 23 Tryd.underlying23 ?_) | (refine ks_loadW KN 35 Tryd.underlying35 ?_)) | ((refine gate_store (by rfl) ?_); first | (refine ks_store1 KN 3 ?_; clear KN; intro wx KN) | (refine ks_storeW KN 35 ?_; clear KN; intro wx KN) | (refine ks_storeA KN 35 ?_; clear KN; intro wx KN) | (refine ks_store1 KN 21 ?_; clear KN; intro wx KN) | (refine ks_store1 KN 23 ?_; clear KN; intro wx KN)) | ((refine gate_new (by rfl) ?_); first | (refine ks_alloc KN 35 (q := 4) #[.int .i64 0, .int .i64 0, .int .i64 0, .int .i64 0, .int .i32 0] ?_; clear KN; intro g4 wx hg4 KN))))
                go_roundw
                case rel => exact HNX.out ((valS el ec d false sN).1, ⟨yo, ya, yb, yc, (valS el ec d false sN).2.1⟩, (valS el ec d false sN).2.2) _ _ _ _ (by rw [hc5]; exact (HSO.out.2.2.2.1).symm) (by go_num) OW9 (KN.as_ g4 (Ins.cells ⟨yo, ya, yb, yc, (valS el ec d false sN).2.1⟩) (by repeat (first | exact Repl.here | apply Repl.there)) (by kernel_rfl))
                case measure => (have h9 := HLN.out; simp [intOf]; omega)
              · have hg2 : ((uo[k]'hjl).toNat : Int) = 116 := by rw [HG.out, hc5]; rfl
                go_wp2_with (first | (go_at_call 75; refine (asr_value (R := (g4, At (Ins.mk yo ya yb yc yi).cells 35) :: (R ++ ol)) (ol := ul) true KN HOU.out hL9 (by omega) HT.out (by rw [← HN.out]; exact hd) HVL.out (by omega) (by omega) hs hp).mono ?_; rintro e9 wx ⟨uv9, ul9, rfl, OW9, K2⟩; clear KN; have KN : Kn [] W wx ((gp, _) :: (ga, _) :: (g4, At (Ins.mk yo ya yb yc yi).cells 35) :: ((R ++ ol) ++ ul9)) := K2; clear K2) | ((with_reducible refine wpList_gate ?_); first | ((refine gate_load (by rfl) ?_); first | (refine ks_load1 KN 67 Tryd.underlying67 ?_) | (refine ks_load1 KN 46 Tryd.underlying46 ?_) | (refine ks_load1 KN 3 Tryd.underlying3 ?_) | (refine ks_load1 KN 9 Tryd.underlying9 ?_) | (refine ks_load1 KN 23 Tryd.underlying23 ?_) | (refine ks_loadW KN 35 Tryd.underlying35 ?_)) | ((refine gate_store (by rfl) ?_); first | (refine ks_store1 KN 3 ?_; clear KN; intro wx KN) | (refine ks_storeW KN 35 ?_; clear KN; intro wx KN) | (refine ks_storeA KN 35 ?_; clear KN; intro wx KN) | (refine ks_store1 KN 21 ?_; clear KN; intro wx KN) | (refine ks_store1 KN 23 ?_; clear KN; intro wx KN)) | ((refine gate_new (by rfl) ?_); first | (refine ks_alloc KN 35 (q := 4) #[.int .i64 0, .int .i64 0, .int .i64 0, .int .i64 0, .int .i32 0] ?_; clear KN; intro g4 wx hg4 KN))))
                go_roundw
                case rel => exact HNX.out ((valS el ec d true sN).1, ⟨yo, ya, yb, yc, (valS el ec d true sN).2.1⟩, (valS el ec d true sN).2.2) _ _ _ _ (by rw [hc5]; exact (HSO.out.2.2.2.2).symm) (by go_num) OW9 (KN.as_ g4 (Ins.cells ⟨yo, ya, yb, yc, (valS el ec d true sN).2.1⟩) (by repeat (first | exact Repl.here | apply Repl.there)) (by kernel_rfl))
                case measure => (have h9 := HLN.out; simp [intOf]; omega)
          · have hor : (k = ln) ∨ (k < ln ∧ (s.er == 0) = false) := by
              by_cases q : k = ln
              · exact .inl q
              · exact .inr ⟨by omega, by rw [beq_eq_false_iff_ne]; intro h; exact hgo ⟨h, by omega⟩⟩
            rcases hor with rfl | ⟨hlt, hok⟩
            · go_upto_region 26 with (first | ((with_reducible refine wpList_gate ?_); first | ((refine gate_load (by rfl) ?_); first | (refine ks_load1 KN 67 Tryd.underlying67 ?_) | (refine ks_load1 KN 46 Tryd.underlying46 ?_) | (refine ks_load1 KN 3 Tryd.underlying3 ?_) | (refine ks_load1 KN 9 Tryd.underlying9 ?_) | (refine ks_load1 KN 23 Tryd.underlying23 ?_) | (refine ks_loadW KN 35 Tryd.underlying35 ?_)) | ((refine gate_store (by rfl) ?_); first | (refine ks_store1 KN 3 ?_; clear KN; intro wx KN) | (refine ks_storeW KN 35 ?_; clear KN; intro wx KN) | (refine ks_storeA KN 35 ?_; clear KN; intro wx KN) | (refine ks_store1 KN 21 ?_; clear KN; intro wx KN) | (refine ks_store1 KN 23 ?_; clear KN; intro wx KN)) | ((refine gate_new (by rfl) ?_); first | (refine ks_alloc KN 35 (q := 4) #[.int .i64 0, .int .i64 0, .int .i64 0, .int .i64 0, .int .i32 0] ?_; clear KN; intro g4 wx hg4 KN))))
              have h59 : str [59] = ⟨#[59]⟩ := rfl
              obtain ⟨sn, hsn⟩ : ∃ sn, sn = needP el ec d s 4 [59] := ⟨_, rfl⟩
              have HSN := Lib.hid hsn
              clear hsn
              go_upto_region 27 with (go_at_call 73; rw [← h59]; refine (par_need KN HT.out (by rw [← HN.out]; exact hd) (by omega) hs hp 4 (by decide) [59]).mono ?_; rw [← HSN.out]; rintro y wx ⟨rfl, K2⟩; replace KN := K2; clear K2)
              (try go_frame)
              have KQ := KN.perm (l' := (gp, At (parC (.string sv) (.slice (some ⟨b, off, none⟩) dn c) sn) 74) :: (ga, At (ascC gp (.slice oa pn oc) uv ls ps) 72) :: (g4, At y.cells 35) :: ((R ++ ul) ++ ol)) (by
                refine List.Perm.cons _ (List.Perm.cons _ ?_)
                show List.Perm ((g4, At y.cells 35) :: ((R ++ ol) ++ ul)) _
                refine List.Perm.cons _ ?_
                rw [List.append_assoc, List.append_assoc]
                exact List.perm_append_comm.append_left R)
              clear KN
              have HFIN : Hid (∀ (v' : Value) (wz : World) (ol' : Ents), OwnT 35 5 v' ((x.prog.map fun z => z.cells.toList) ++ [y.cells.toList]) ol' → Kn [] W wz ((gp, At (parC (.string sv) (.slice (some ⟨b, off, none⟩) dn c) sn) 74) :: (ga, At (ascC gp v' uv ls ps) 72) :: (g4, At y.cells 35) :: ((R ++ ul) ++ ol')) → InsPost W gp ga (.string sv) (.slice (some ⟨b, off, none⟩) dn c) ls ps el ec d p x R (.returned (.tuple #[])) wz) := Lib.hid (by
                intro v' wz ol' OW KN
                have KE := KN.drop (.there (.there .here))
                rw [List.append_assoc] at KE
                unfold InsPost
                rw [HA.out]
                have hout : (x.prog.map fun z => z.cells.toList) ++ [y.cells.toList] = (x.prog ++ [y]).map fun z => z.cells.toList := by simp
                rw [hout] at OW
                rcases HS2.out with ⟨h0, hp0, us, hLu2, hT⟩ | ⟨q, hq, hbad⟩
                · have hT2 : TOT = .ok (y, s.i, us) := by
                    rw [hT, List.drop_of_length_le (by rw [← HLN.out]; exact Nat.le_refl _)]
                    cases decide (_ = 0) <;> rfl
                  have hrows : Lu = useRows (x.uses ++ us) := by rw [hLu2]; unfold useRows; rw [List.map_append]
                  rw [hT2]
                  unfold insOut
                  dsimp only
                  by_cases hsemi : isP d s.i [59] = true
                  · have hsn2 : sn = ⟨s.i + 1, p, 0⟩ := by
                      rw [HSN.out]
                      unfold needP
                      rw [peekB_isP h0, if_pos hsemi]
                      unfold stepP
                      rw [← hp0, ← h0]
                    rw [if_pos hsemi]
                    rw [hsn2] at KE
                    exact ⟨v', uv, ol', ul, rfl, OW, by rw [← hrows]; exact HOU.out, KE⟩
                  · have hsn2 : sn = ⟨s.i, posE el ec d s.i, 50⟩ := by
                      rw [HSN.out]
                      unfold needP
                      rw [peekB_isP h0, if_neg hsemi, failP_ok h0]
                    rw [if_neg hsemi]
                    rw [hsn2] at KE
                    exact ⟨v', uv, ol', ul, rfl, _, _, Lu, ⟨rfl, rfl, by show ¬ (50 : Int) = 0; decide⟩, OW, HOU.out, KE⟩
                · rw [hq]
                  unfold insOut
                  have hsq : sn = s := by rw [HSN.out]; exact needP_bad (by rw [hbad.1]; exact hbad.2.2) _ _
                  rw [hsq] at KE
                  exact ⟨v', uv, ol', ul, rfl, s, _, Lu, hbad, OW, HOU.out, KE⟩)
              have KN := KQ.drew
              clear KQ
              refine wp_region_held_drew (S := (fun w' => BlkT w' g4 y.cells 35)) (by kernel_rfl) ?qbhS (fun hHeld => ?qbrest)
              case qbhS => exact KN.at_ (by repeat (first | exact Has.here | refine Has.there ?_))
              refine wpAnyH_take (i := 0) (oi := ⟨some 98, _, _, _, _, _⟩) (v := ?qbv0) rfl (by kernel_rfl) (by kernel_rfl) (by kernel_rfl) (fun _ _ _ h => h) (Or.inl ⟨by rfl, ?qbhy0⟩) hHeld ?qbr0
              case qbhy0 => (intro w hSw; (try dsimp only at hSw); go_simp; (try with_reducible rfl))
              (try simp only [Act.put, List.setIfInBounds_toArray, List.set_cons_zero, List.set_cons_succ])
              refine wpAnyH_take (i := 1) (oi := ⟨some 99, _, _, _, _, _⟩) (v := ?qbv1) rfl (by kernel_rfl) (by kernel_rfl) (by kernel_rfl) (fun _ _ _ h => h) (Or.inl ⟨by rfl, ?qbhy1⟩) hHeld ?qbr1
              case qbhy1 => (intro w hSw; (try dsimp only at hSw); go_simp; (try with_reducible rfl))
              (try simp only [Act.put, List.setIfInBounds_toArray, List.set_cons_zero, List.set_cons_succ])
              refine wpAnyH_take (i := 2) (oi := ⟨some 100, _, _, _, _, _⟩) (v := ?qbv2) rfl (by kernel_rfl) (by kernel_rfl) (by kernel_rfl) (fun _ _ _ h => h) (Or.inl ⟨by rfl, ?qbhy2⟩) hHeld ?qbr2
              case qbhy2 => (intro w hSw; (try dsimp only at hSw); go_simp; (try with_reducible rfl))
              (try simp only [Act.put, List.setIfInBounds_toArray, List.set_cons_zero, List.set_cons_succ])
              refine wpAnyH_take (i := 3) (oi := ⟨some 101, _, _, _, _, _⟩) (v := ?qbv3) rfl (by kernel_rfl) (by kernel_rfl) (by kernel_rfl) (fun _ _ _ h => h) (Or.inl ⟨by rfl, ?qbhy3⟩) hHeld ?qbr3
              case qbhy3 => (intro w hSw; (try dsimp only at hSw); go_simp; (try with_reducible rfl))
              (try simp only [Act.put, List.setIfInBounds_toArray, List.set_cons_zero, List.set_cons_succ])
              refine wpAnyH_take (i := 5) (oi := ⟨some 103, _, _, _, _, _⟩) (v := (.agg y.cells)) rfl (by kernel_rfl) (by kernel_rfl) (by kernel_rfl) (fun _ _ _ h => h) (kn_yieldsN (by rfl) 35 _ rfl g4 0 rfl _ 35 (fun _ h => h) _ (extract_whole _) _ Tryd.underlying35 rfl (by kernel_rfl)) hHeld ?qbr5
              (try simp only [Act.put, List.setIfInBounds_toArray, List.set_cons_zero, List.set_cons_succ])
              refine wpAnyH_ready (rs := [4, 6]) (by kernel_rfl) (by simp) ?qbc4_6
              refine (AllReadyH.cons (o := ⟨some 102, _, _, _, _, _⟩) rfl (fun K hK => ?qbst4) (AllReadyH.cons (o := ⟨some 104, _, _, _, _, _⟩) rfl (fun K hK => ?qbst6) AllReadyH.nil))
              case qbst4 =>
                (rw [if_pos (by rfl)]; refine wp_kn_load1 KN 23 _ rfl ga 1 rfl _ _ (by repeat (first | exact Has.here | refine Has.there ?_)) (.slice oa pn oc) rfl _ Tryd.underlying23 rfl ?_)
                refine hK.out _ _ ?qb4xk4 (fun hHeld2 => ?qb4xm4)
                case qb4xk4 => exact KN.at_ (by repeat (first | exact Has.here | refine Has.there ?_))
                clear hK K hHeld
                have hHeld := hHeld2; clear hHeld2
                (try simp only [Act.put, List.setIfInBounds_toArray, List.set_cons_zero, List.set_cons_succ])
                refine wpAnyH_ready (rs := [6]) (by kernel_rfl) (by simp) ?qb4xc6
                refine AllReadyH.cons (o := ⟨some 104, _, _, _, _, _⟩) rfl (fun K hK => ?qb4xst6) AllReadyH.nil
                (rw [if_pos (by rfl)]; refine wp_kn_lit KN 23 35 1 _ rfl 104 rfl Tryd.underlying23 y.cells (by kernel_rfl) ?_; clear KN; intro g104 wx hg104 KN)
                refine hK.out _ _ ?qb4xk6 (fun hHeld2 => ?qb4xm6)
                case qb4xk6 => exact KN.at_ (by repeat (first | exact Has.here | refine Has.there ?_))
                clear hK K hHeld
                have hHeld := hHeld2; clear hHeld2
                (try simp only [Act.put, List.setIfInBounds_toArray, List.set_cons_zero, List.set_cons_succ])
                refine wpAnyH_ready (rs := [7]) (by kernel_rfl) (by simp) ?qb4xc7
                refine AllReadyH.cons (o := ⟨some 105, _, _, _, _, _⟩) rfl (fun K hK => ?qb4xst7) AllReadyH.nil
                (rw [if_pos (by rfl)]; refine wp_kn_append1 KN HO.out _ _ 23 rfl 40 Tryd.underlying23 (by kernel_rfl) (by decide) rfl 1 rfl rfl (by kernel_rfl) (by rw [List.length_map, ← HPN.out]; unfold maxLen; omega) (by rw [List.length_map, ← HPN.out]; omega) (f := fun o => (gp, _) :: (ga, _) :: (g4, _) :: ((R ++ ul) ++ o)) (TailF.cons _ (TailF.cons _ (TailF.cons _ (TailF.app TailF.id (R ++ ul))))) rfl ?_; clear KN; intro v' wx ol' OW KN; obtain ⟨xa, xc, rfl⟩ := OW.form)
                refine hK.out _ _ ?qb4xk7 (fun hHeld2 => ?qb4xm7)
                case qb4xk7 => exact KN.at_ (by repeat (first | exact Has.here | refine Has.there ?_))
                clear hK K hHeld
                have hHeld := hHeld2; clear hHeld2
                (try simp only [Act.put, List.setIfInBounds_toArray, List.set_cons_zero, List.set_cons_succ])
                refine wpAnyH_take (i := 8) (oi := ⟨some 106, _, _, _, _, _⟩) (v := ?qb4xv8) rfl (by kernel_rfl) (by kernel_rfl) (by kernel_rfl) (fun _ _ _ h => h) (Or.inl ⟨by rfl, ?qb4xhy8⟩) hHeld ?qb4xr8
                case qb4xhy8 => (intro w hSw; (try dsimp only at hSw); go_simp; (try with_reducible rfl))
                (try simp only [Act.put, List.setIfInBounds_toArray, List.set_cons_zero, List.set_cons_succ])
                refine wpAnyH_take (i := 9) (oi := ⟨some 107, _, _, _, _, _⟩) (v := ?qb4xv9) rfl (by kernel_rfl) (by kernel_rfl) (by kernel_rfl) (fun _ _ _ h => h) (Or.inl ⟨by rfl, ?qb4xhy9⟩) hHeld ?qb4xr9
                case qb4xhy9 => (intro w hSw; (try dsimp only at hSw); go_simp; (try with_reducible rfl))
                (try simp only [Act.put, List.setIfInBounds_toArray, List.set_cons_zero, List.set_cons_succ])
                refine wpAnyH_ready (rs := [10]) (by kernel_rfl) (by simp) ?qb4xc10
                refine AllReadyH.cons (o := ⟨none, _, _, _, _, _⟩) rfl (fun K hK => ?qb4xst10) AllReadyH.nil
                (rw [if_pos (by rfl)]; refine wp_kn_store1 KN 23 _ _ rfl ga 1 rfl _ rfl rfl _ _ (by repeat (first | exact Repl.here | apply Repl.there)) (by simp) (by kernel_rfl) (by rfl) ?_; clear KN; intro wx KN)
                refine hK.out _ _ ?qb4xk10 (fun hHeld2 => ?qb4xm10)
                case qb4xk10 => exact KN.at_ (by repeat (first | exact Has.here | refine Has.there ?_))
                clear hK K hHeld
                have hHeld := hHeld2; clear hHeld2
                (try simp only [Act.put, List.setIfInBounds_toArray, List.set_cons_zero, List.set_cons_succ])
                refine wpAnyH_done (by kernel_rfl) ?qb4xdone _
                go_wp2_with fail
                (first | go_end0 | refine bodyPost_ret (results_none rfl _ _ _) rfl ?_)
                exact HFIN.out _ _ _ OW KN
              case qbst6 =>
                (rw [if_pos (by rfl)]; refine wp_kn_lit KN 23 35 1 _ rfl 104 rfl Tryd.underlying23 y.cells (by kernel_rfl) ?_; clear KN; intro g104 wx hg104 KN)
                refine hK.out _ _ ?qb6xk6 (fun hHeld2 => ?qb6xm6)
                case qb6xk6 => exact KN.at_ (by repeat (first | exact Has.here | refine Has.there ?_))
                clear hK K hHeld
                have hHeld := hHeld2; clear hHeld2
                (try simp only [Act.put, List.setIfInBounds_toArray, List.set_cons_zero, List.set_cons_succ])
                refine wpAnyH_ready (rs := [4]) (by kernel_rfl) (by simp) ?qb6xc4
                refine AllReadyH.cons (o := ⟨some 102, _, _, _, _, _⟩) rfl (fun K hK => ?qb6xst4) AllReadyH.nil
                (rw [if_pos (by rfl)]; refine wp_kn_load1 KN 23 _ rfl ga 1 rfl _ _ (by repeat (first | exact Has.here | refine Has.there ?_)) (.slice oa pn oc) rfl _ Tryd.underlying23 rfl ?_)
                refine hK.out _ _ ?qb6xk4 (fun hHeld2 => ?qb6xm4)
                case qb6xk4 => exact KN.at_ (by repeat (first | exact Has.here | refine Has.there ?_))
                clear hK K hHeld
                have hHeld := hHeld2; clear hHeld2
                (try simp only [Act.put, List.setIfInBounds_toArray, List.set_cons_zero, List.set_cons_succ])
                refine wpAnyH_ready (rs := [7]) (by kernel_rfl) (by simp) ?qb6xc7
                refine AllReadyH.cons (o := ⟨some 105, _, _, _, _, _⟩) rfl (fun K hK => ?qb6xst7) AllReadyH.nil
                (rw [if_pos (by rfl)]; refine wp_kn_append1 KN HO.out _ _ 23 rfl 40 Tryd.underlying23 (by kernel_rfl) (by decide) rfl 1 rfl rfl (by kernel_rfl) (by rw [List.length_map, ← HPN.out]; unfold maxLen; omega) (by rw [List.length_map, ← HPN.out]; omega) (f := fun o => (gp, _) :: (ga, _) :: (g4, _) :: ((R ++ ul) ++ o)) (TailF.cons _ (TailF.cons _ (TailF.cons _ (TailF.app TailF.id (R ++ ul))))) rfl ?_; clear KN; intro v' wx ol' OW KN; obtain ⟨xa, xc, rfl⟩ := OW.form)
                refine hK.out _ _ ?qb6xk7 (fun hHeld2 => ?qb6xm7)
                case qb6xk7 => exact KN.at_ (by repeat (first | exact Has.here | refine Has.there ?_))
                clear hK K hHeld
                have hHeld := hHeld2; clear hHeld2
                (try simp only [Act.put, List.setIfInBounds_toArray, List.set_cons_zero, List.set_cons_succ])
                refine wpAnyH_take (i := 8) (oi := ⟨some 106, _, _, _, _, _⟩) (v := ?qb6xv8) rfl (by kernel_rfl) (by kernel_rfl) (by kernel_rfl) (fun _ _ _ h => h) (Or.inl ⟨by rfl, ?qb6xhy8⟩) hHeld ?qb6xr8
                case qb6xhy8 => (intro w hSw; (try dsimp only at hSw); go_simp; (try with_reducible rfl))
                (try simp only [Act.put, List.setIfInBounds_toArray, List.set_cons_zero, List.set_cons_succ])
                refine wpAnyH_take (i := 9) (oi := ⟨some 107, _, _, _, _, _⟩) (v := ?qb6xv9) rfl (by kernel_rfl) (by kernel_rfl) (by kernel_rfl) (fun _ _ _ h => h) (Or.inl ⟨by rfl, ?qb6xhy9⟩) hHeld ?qb6xr9
                case qb6xhy9 => (intro w hSw; (try dsimp only at hSw); go_simp; (try with_reducible rfl))
                (try simp only [Act.put, List.setIfInBounds_toArray, List.set_cons_zero, List.set_cons_succ])
                refine wpAnyH_ready (rs := [10]) (by kernel_rfl) (by simp) ?qb6xc10
                refine AllReadyH.cons (o := ⟨none, _, _, _, _, _⟩) rfl (fun K hK => ?qb6xst10) AllReadyH.nil
                (rw [if_pos (by rfl)]; refine wp_kn_store1 KN 23 _ _ rfl ga 1 rfl _ rfl rfl _ _ (by repeat (first | exact Repl.here | apply Repl.there)) (by simp) (by kernel_rfl) (by rfl) ?_; clear KN; intro wx KN)
                refine hK.out _ _ ?qb6xk10 (fun hHeld2 => ?qb6xm10)
                case qb6xk10 => exact KN.at_ (by repeat (first | exact Has.here | refine Has.there ?_))
                clear hK K hHeld
                have hHeld := hHeld2; clear hHeld2
                (try simp only [Act.put, List.setIfInBounds_toArray, List.set_cons_zero, List.set_cons_succ])
                refine wpAnyH_done (by kernel_rfl) ?qb6xdone _
                go_wp2_with fail
                (first | go_end0 | refine bodyPost_ret (results_none rfl _ _ _) rfl ?_)
                exact HFIN.out _ _ _ OW KN
            · have HOK := Lib.hid hok
              go_upto_region 26 with (first | (go_at_call 30; refine (par_ok KN).mono ?_; rw [HOK.out]; rintro y wx ⟨rfl, K2⟩; replace KN := K2; clear K2) | ((with_reducible refine wpList_gate ?_); first | ((refine gate_load (by rfl) ?_); first | (refine ks_load1 KN 67 Tryd.underlying67 ?_) | (refine ks_load1 KN 46 Tryd.underlying46 ?_) | (refine ks_load1 KN 3 Tryd.underlying3 ?_) | (refine ks_load1 KN 9 Tryd.underlying9 ?_) | (refine ks_load1 KN 23 Tryd.underlying23 ?_) | (refine ks_loadW KN 35 Tryd.underlying35 ?_)) | ((refine gate_store (by rfl) ?_); first | (refine ks_store1 KN 3 ?_; clear KN; intro wx KN) | (refine ks_storeW KN 35 ?_; clear KN; intro wx KN) | (refine ks_storeA KN 35 ?_; clear KN; intro wx KN) | (refine ks_store1 KN 21 ?_; clear KN; intro wx KN) | (refine ks_store1 KN 23 ?_; clear KN; intro wx KN)) | ((refine gate_new (by rfl) ?_); first | (refine ks_alloc KN 35 (q := 4) #[.int .i64 0, .int .i64 0, .int .i64 0, .int .i64 0, .int .i32 0] ?_; clear KN; intro g4 wx hg4 KN))))
              have h59 : str [59] = ⟨#[59]⟩ := rfl
              obtain ⟨sn, hsn⟩ : ∃ sn, sn = needP el ec d s 4 [59] := ⟨_, rfl⟩
              have HSN := Lib.hid hsn
              clear hsn
              go_upto_region 27 with (go_at_call 73; rw [← h59]; refine (par_need KN HT.out (by rw [← HN.out]; exact hd) (by omega) hs hp 4 (by decide) [59]).mono ?_; rw [← HSN.out]; rintro y wx ⟨rfl, K2⟩; replace KN := K2; clear K2)
              (try go_frame)
              have KQ := KN.perm (l' := (gp, At (parC (.string sv) (.slice (some ⟨b, off, none⟩) dn c) sn) 74) :: (ga, At (ascC gp (.slice oa pn oc) uv ls ps) 72) :: (g4, At y.cells 35) :: ((R ++ ul) ++ ol)) (by
                refine List.Perm.cons _ (List.Perm.cons _ ?_)
                show List.Perm ((g4, At y.cells 35) :: ((R ++ ol) ++ ul)) _
                refine List.Perm.cons _ ?_
                rw [List.append_assoc, List.append_assoc]
                exact List.perm_append_comm.append_left R)
              clear KN
              have HFIN : Hid (∀ (v' : Value) (wz : World) (ol' : Ents), OwnT 35 5 v' ((x.prog.map fun z => z.cells.toList) ++ [y.cells.toList]) ol' → Kn [] W wz ((gp, At (parC (.string sv) (.slice (some ⟨b, off, none⟩) dn c) sn) 74) :: (ga, At (ascC gp v' uv ls ps) 72) :: (g4, At y.cells 35) :: ((R ++ ul) ++ ol')) → InsPost W gp ga (.string sv) (.slice (some ⟨b, off, none⟩) dn c) ls ps el ec d p x R (.returned (.tuple #[])) wz) := Lib.hid (by
                intro v' wz ol' OW KN
                have KE := KN.drop (.there (.there .here))
                rw [List.append_assoc] at KE
                unfold InsPost
                rw [HA.out]
                have hout : (x.prog.map fun z => z.cells.toList) ++ [y.cells.toList] = (x.prog ++ [y]).map fun z => z.cells.toList := by simp
                rw [hout] at OW
                rcases HS2.out with ⟨h0, hp0, us, hLu2, hT⟩ | ⟨q, hq, hbad⟩
                · exact absurd h0 (beq_eq_false_iff_ne.1 HOK.out)
                · rw [hq]
                  unfold insOut
                  have hsq : sn = s := by rw [HSN.out]; exact needP_bad (by rw [hbad.1]; exact hbad.2.2) _ _
                  rw [hsq] at KE
                  exact ⟨v', uv, ol', ul, rfl, s, _, Lu, hbad, OW, HOU.out, KE⟩)
              have KN := KQ.drew
              clear KQ
              refine wp_region_held_drew (S := (fun w' => BlkT w' g4 y.cells 35)) (by kernel_rfl) ?qchS (fun hHeld => ?qcrest)
              case qchS => exact KN.at_ (by repeat (first | exact Has.here | refine Has.there ?_))
              refine wpAnyH_take (i := 0) (oi := ⟨some 98, _, _, _, _, _⟩) (v := ?qcv0) rfl (by kernel_rfl) (by kernel_rfl) (by kernel_rfl) (fun _ _ _ h => h) (Or.inl ⟨by rfl, ?qchy0⟩) hHeld ?qcr0
              case qchy0 => (intro w hSw; (try dsimp only at hSw); go_simp; (try with_reducible rfl))
              (try simp only [Act.put, List.setIfInBounds_toArray, List.set_cons_zero, List.set_cons_succ])
              refine wpAnyH_take (i := 1) (oi := ⟨some 99, _, _, _, _, _⟩) (v := ?qcv1) rfl (by kernel_rfl) (by kernel_rfl) (by kernel_rfl) (fun _ _ _ h => h) (Or.inl ⟨by rfl, ?qchy1⟩) hHeld ?qcr1
              case qchy1 => (intro w hSw; (try dsimp only at hSw); go_simp; (try with_reducible rfl))
              (try simp only [Act.put, List.setIfInBounds_toArray, List.set_cons_zero, List.set_cons_succ])
              refine wpAnyH_take (i := 2) (oi := ⟨some 100, _, _, _, _, _⟩) (v := ?qcv2) rfl (by kernel_rfl) (by kernel_rfl) (by kernel_rfl) (fun _ _ _ h => h) (Or.inl ⟨by rfl, ?qchy2⟩) hHeld ?qcr2
              case qchy2 => (intro w hSw; (try dsimp only at hSw); go_simp; (try with_reducible rfl))
              (try simp only [Act.put, List.setIfInBounds_toArray, List.set_cons_zero, List.set_cons_succ])
              refine wpAnyH_take (i := 3) (oi := ⟨some 101, _, _, _, _, _⟩) (v := ?qcv3) rfl (by kernel_rfl) (by kernel_rfl) (by kernel_rfl) (fun _ _ _ h => h) (Or.inl ⟨by rfl, ?qchy3⟩) hHeld ?qcr3
              case qchy3 => (intro w hSw; (try dsimp only at hSw); go_simp; (try with_reducible rfl))
              (try simp only [Act.put, List.setIfInBounds_toArray, List.set_cons_zero, List.set_cons_succ])
              refine wpAnyH_take (i := 5) (oi := ⟨some 103, _, _, _, _, _⟩) (v := (.agg y.cells)) rfl (by kernel_rfl) (by kernel_rfl) (by kernel_rfl) (fun _ _ _ h => h) (kn_yieldsN (by rfl) 35 _ rfl g4 0 rfl _ 35 (fun _ h => h) _ (extract_whole _) _ Tryd.underlying35 rfl (by kernel_rfl)) hHeld ?qcr5
              (try simp only [Act.put, List.setIfInBounds_toArray, List.set_cons_zero, List.set_cons_succ])
              refine wpAnyH_ready (rs := [4, 6]) (by kernel_rfl) (by simp) ?qcc4_6
              refine (AllReadyH.cons (o := ⟨some 102, _, _, _, _, _⟩) rfl (fun K hK => ?qcst4) (AllReadyH.cons (o := ⟨some 104, _, _, _, _, _⟩) rfl (fun K hK => ?qcst6) AllReadyH.nil))
              case qcst4 =>
                (rw [if_pos (by rfl)]; refine wp_kn_load1 KN 23 _ rfl ga 1 rfl _ _ (by repeat (first | exact Has.here | refine Has.there ?_)) (.slice oa pn oc) rfl _ Tryd.underlying23 rfl ?_)
                refine hK.out _ _ ?qc4xk4 (fun hHeld2 => ?qc4xm4)
                case qc4xk4 => exact KN.at_ (by repeat (first | exact Has.here | refine Has.there ?_))
                clear hK K hHeld
                have hHeld := hHeld2; clear hHeld2
                (try simp only [Act.put, List.setIfInBounds_toArray, List.set_cons_zero, List.set_cons_succ])
                refine wpAnyH_ready (rs := [6]) (by kernel_rfl) (by simp) ?qc4xc6
                refine AllReadyH.cons (o := ⟨some 104, _, _, _, _, _⟩) rfl (fun K hK => ?qc4xst6) AllReadyH.nil
                (rw [if_pos (by rfl)]; refine wp_kn_lit KN 23 35 1 _ rfl 104 rfl Tryd.underlying23 y.cells (by kernel_rfl) ?_; clear KN; intro g104 wx hg104 KN)
                refine hK.out _ _ ?qc4xk6 (fun hHeld2 => ?qc4xm6)
                case qc4xk6 => exact KN.at_ (by repeat (first | exact Has.here | refine Has.there ?_))
                clear hK K hHeld
                have hHeld := hHeld2; clear hHeld2
                (try simp only [Act.put, List.setIfInBounds_toArray, List.set_cons_zero, List.set_cons_succ])
                refine wpAnyH_ready (rs := [7]) (by kernel_rfl) (by simp) ?qc4xc7
                refine AllReadyH.cons (o := ⟨some 105, _, _, _, _, _⟩) rfl (fun K hK => ?qc4xst7) AllReadyH.nil
                (rw [if_pos (by rfl)]; refine wp_kn_append1 KN HO.out _ _ 23 rfl 40 Tryd.underlying23 (by kernel_rfl) (by decide) rfl 1 rfl rfl (by kernel_rfl) (by rw [List.length_map, ← HPN.out]; unfold maxLen; omega) (by rw [List.length_map, ← HPN.out]; omega) (f := fun o => (gp, _) :: (ga, _) :: (g4, _) :: ((R ++ ul) ++ o)) (TailF.cons _ (TailF.cons _ (TailF.cons _ (TailF.app TailF.id (R ++ ul))))) rfl ?_; clear KN; intro v' wx ol' OW KN; obtain ⟨xa, xc, rfl⟩ := OW.form)
                refine hK.out _ _ ?qc4xk7 (fun hHeld2 => ?qc4xm7)
                case qc4xk7 => exact KN.at_ (by repeat (first | exact Has.here | refine Has.there ?_))
                clear hK K hHeld
                have hHeld := hHeld2; clear hHeld2
                (try simp only [Act.put, List.setIfInBounds_toArray, List.set_cons_zero, List.set_cons_succ])
                refine wpAnyH_take (i := 8) (oi := ⟨some 106, _, _, _, _, _⟩) (v := ?qc4xv8) rfl (by kernel_rfl) (by kernel_rfl) (by kernel_rfl) (fun _ _ _ h => h) (Or.inl ⟨by rfl, ?qc4xhy8⟩) hHeld ?qc4xr8
                case qc4xhy8 => (intro w hSw; (try dsimp only at hSw); go_simp; (try with_reducible rfl))
                (try simp only [Act.put, List.setIfInBounds_toArray, List.set_cons_zero, List.set_cons_succ])
                refine wpAnyH_take (i := 9) (oi := ⟨some 107, _, _, _, _, _⟩) (v := ?qc4xv9) rfl (by kernel_rfl) (by kernel_rfl) (by kernel_rfl) (fun _ _ _ h => h) (Or.inl ⟨by rfl, ?qc4xhy9⟩) hHeld ?qc4xr9
                case qc4xhy9 => (intro w hSw; (try dsimp only at hSw); go_simp; (try with_reducible rfl))
                (try simp only [Act.put, List.setIfInBounds_toArray, List.set_cons_zero, List.set_cons_succ])
                refine wpAnyH_ready (rs := [10]) (by kernel_rfl) (by simp) ?qc4xc10
                refine AllReadyH.cons (o := ⟨none, _, _, _, _, _⟩) rfl (fun K hK => ?qc4xst10) AllReadyH.nil
                (rw [if_pos (by rfl)]; refine wp_kn_store1 KN 23 _ _ rfl ga 1 rfl _ rfl rfl _ _ (by repeat (first | exact Repl.here | apply Repl.there)) (by simp) (by kernel_rfl) (by rfl) ?_; clear KN; intro wx KN)
                refine hK.out _ _ ?qc4xk10 (fun hHeld2 => ?qc4xm10)
                case qc4xk10 => exact KN.at_ (by repeat (first | exact Has.here | refine Has.there ?_))
                clear hK K hHeld
                have hHeld := hHeld2; clear hHeld2
                (try simp only [Act.put, List.setIfInBounds_toArray, List.set_cons_zero, List.set_cons_succ])
                refine wpAnyH_done (by kernel_rfl) ?qc4xdone _
                go_wp2_with fail
                (first | go_end0 | refine bodyPost_ret (results_none rfl _ _ _) rfl ?_)
                exact HFIN.out _ _ _ OW KN
              case qcst6 =>
                (rw [if_pos (by rfl)]; refine wp_kn_lit KN 23 35 1 _ rfl 104 rfl Tryd.underlying23 y.cells (by kernel_rfl) ?_; clear KN; intro g104 wx hg104 KN)
                refine hK.out _ _ ?qc6xk6 (fun hHeld2 => ?qc6xm6)
                case qc6xk6 => exact KN.at_ (by repeat (first | exact Has.here | refine Has.there ?_))
                clear hK K hHeld
                have hHeld := hHeld2; clear hHeld2
                (try simp only [Act.put, List.setIfInBounds_toArray, List.set_cons_zero, List.set_cons_succ])
                refine wpAnyH_ready (rs := [4]) (by kernel_rfl) (by simp) ?qc6xc4
                refine AllReadyH.cons (o := ⟨some 102, _, _, _, _, _⟩) rfl (fun K hK => ?qc6xst4) AllReadyH.nil
                (rw [if_pos (by rfl)]; refine wp_kn_load1 KN 23 _ rfl ga 1 rfl _ _ (by repeat (first | exact Has.here | refine Has.there ?_)) (.slice oa pn oc) rfl _ Tryd.underlying23 rfl ?_)
                refine hK.out _ _ ?qc6xk4 (fun hHeld2 => ?qc6xm4)
                case qc6xk4 => exact KN.at_ (by repeat (first | exact Has.here | refine Has.there ?_))
                clear hK K hHeld
                have hHeld := hHeld2; clear hHeld2
                (try simp only [Act.put, List.setIfInBounds_toArray, List.set_cons_zero, List.set_cons_succ])
                refine wpAnyH_ready (rs := [7]) (by kernel_rfl) (by simp) ?qc6xc7
                refine AllReadyH.cons (o := ⟨some 105, _, _, _, _, _⟩) rfl (fun K hK => ?qc6xst7) AllReadyH.nil
                (rw [if_pos (by rfl)]; refine wp_kn_append1 KN HO.out _ _ 23 rfl 40 Tryd.underlying23 (by kernel_rfl) (by decide) rfl 1 rfl rfl (by kernel_rfl) (by rw [List.length_map, ← HPN.out]; unfold maxLen; omega) (by rw [List.length_map, ← HPN.out]; omega) (f := fun o => (gp, _) :: (ga, _) :: (g4, _) :: ((R ++ ul) ++ o)) (TailF.cons _ (TailF.cons _ (TailF.cons _ (TailF.app TailF.id (R ++ ul))))) rfl ?_; clear KN; intro v' wx ol' OW KN; obtain ⟨xa, xc, rfl⟩ := OW.form)
                refine hK.out _ _ ?qc6xk7 (fun hHeld2 => ?qc6xm7)
                case qc6xk7 => exact KN.at_ (by repeat (first | exact Has.here | refine Has.there ?_))
                clear hK K hHeld
                have hHeld := hHeld2; clear hHeld2
                (try simp only [Act.put, List.setIfInBounds_toArray, List.set_cons_zero, List.set_cons_succ])
                refine wpAnyH_take (i := 8) (oi := ⟨some 106, _, _, _, _, _⟩) (v := ?qc6xv8) rfl (by kernel_rfl) (by kernel_rfl) (by kernel_rfl) (fun _ _ _ h => h) (Or.inl ⟨by rfl, ?qc6xhy8⟩) hHeld ?qc6xr8
                case qc6xhy8 => (intro w hSw; (try dsimp only at hSw); go_simp; (try with_reducible rfl))
                (try simp only [Act.put, List.setIfInBounds_toArray, List.set_cons_zero, List.set_cons_succ])
                refine wpAnyH_take (i := 9) (oi := ⟨some 107, _, _, _, _, _⟩) (v := ?qc6xv9) rfl (by kernel_rfl) (by kernel_rfl) (by kernel_rfl) (fun _ _ _ h => h) (Or.inl ⟨by rfl, ?qc6xhy9⟩) hHeld ?qc6xr9
                case qc6xhy9 => (intro w hSw; (try dsimp only at hSw); go_simp; (try with_reducible rfl))
                (try simp only [Act.put, List.setIfInBounds_toArray, List.set_cons_zero, List.set_cons_succ])
                refine wpAnyH_ready (rs := [10]) (by kernel_rfl) (by simp) ?qc6xc10
                refine AllReadyH.cons (o := ⟨none, _, _, _, _, _⟩) rfl (fun K hK => ?qc6xst10) AllReadyH.nil
                (rw [if_pos (by rfl)]; refine wp_kn_store1 KN 23 _ _ rfl ga 1 rfl _ rfl rfl _ _ (by repeat (first | exact Repl.here | apply Repl.there)) (by simp) (by kernel_rfl) (by rfl) ?_; clear KN; intro wx KN)
                refine hK.out _ _ ?qc6xk10 (fun hHeld2 => ?qc6xm10)
                case qc6xk10 => exact KN.at_ (by repeat (first | exact Has.here | refine Has.there ?_))
                clear hK K hHeld
                have hHeld := hHeld2; clear hHeld2
                (try simp only [Act.put, List.setIfInBounds_toArray, List.set_cons_zero, List.set_cons_succ])
                refine wpAnyH_done (by kernel_rfl) ?qc6xdone _
                go_wp2_with fail
                (first | go_end0 | refine bodyPost_ret (results_none rfl _ _ _) rfl ?_)
                exact HFIN.out _ _ _ OW KN
end Go.Proofs.YtemigcdieghkfaaDoor
