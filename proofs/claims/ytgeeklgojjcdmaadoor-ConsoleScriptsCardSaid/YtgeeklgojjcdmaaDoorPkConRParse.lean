/- The console's reference: ParseScript. -/
import Derived.Test.YtgeeklgojjcdmaaDoorPkConRG
import Derived.Test.YtgeeklgojjcdmaaDoorPkAsrOpen
set_option linter.unusedVariables false
set_option linter.unusedSimpArgs false
set_option linter.unusedSectionVars false
namespace Go.Proofs.YtgeeklgojjcdmaaDoor
open Go.RowKit Go.BigFrame

def parI (gp : Nat) (w : World) : Nat := match w.cell? ⟨gp, 2, none⟩ with | some (.int _ n) => n.toNat | _ => 0
def parE (gp : Nat) (w : World) : Bool := match w.cell? ⟨gp, 5, none⟩ with | some (.int _ n) => n == 0 | _ => false
def parM (n gp : Nat) (w : World) : Nat := if parE gp w = true then n - parI gp w else 0
theorem parM_eq {M : List Nat} {W w : World} {l : Ents} {gp : Nat} {sv tv : Value} {s : PSt} {T : TypeId} (KN : Kn M W w l) (m : Has l gp (At (parC sv tv s) T)) (n : Nat) : parM n gp w = if s.er = 0 then n - s.i else 0 := by
  have h1 : parI gp w = s.i := by unfold parI; rw [KN.cell m (o := 2) (v := .int .i64 (s.i : Int)) rfl]; rfl
  have h2 : parE gp w = (s.er == 0) := by unfold parE; rw [KN.cell m (o := 5) (v := .int .i64 s.er) rfl]
  unfold parM
  rw [h1, h2]
  by_cases h : s.er = 0
  · rw [if_pos h, if_pos (by rw [h]; rfl)]
  · rw [if_neg h, if_neg (by rw [beq_iff_eq]; exact h)]
/-- The outcome is settled: there is an error. -/
def SpoiltC (AS : List Ev × (Int × Int) × Int) (s : PSt) : Prop := ¬ s.er = 0 ∧ AS = ([], s.p, s.er)
/-- Between two items. -/
def RItemsRel (W : World) (gp : Nat) (sv tv : Value) (d : List Tok) (p : Int × Int) (er : Int) (r0 : Except AErr (List Ev)) (AS : List Ev × (Int × Int) × Int) (s6 : Value) (wr : World) : Prop :=
  ∃ (s : PSt) (out : List Ev) (ol : Ents), OwnT 35 3 s6 (evRows out) ol ∧ Kn [] W wr ((gp, At (parC sv tv s) 56) :: ol) ∧
    ((er = 0 ∧ ∃ f i, s = ⟨i, p, 0⟩ ∧ r0 = sAll d f i out ∧ d.length ≤ f + i ∧ i ≤ d.length ∧ out.length ≤ 100000) ∨ SpoiltC AS s)
theorem con_field_val (a b c d e : Value) (w : World) : Sem.run Tryd.prog (Instr.field 52 (.agg #[a, b, c, d, e]) 2) w = .ok c w := by kernel_rfl
theorem kind_of {d : List Tok} {j : Nat} {p : Int × Int} (h : kindB d ⟨j, p, 0⟩ 1 = true) : (tk d j).kind = 1 := by rw [kindB_at] at h; exact of_decide_eq_true h
theorem verbFrom_le (t : List UInt8) : ∀ f k, verbFrom t f k ≤ f + k
  | 0, k => by unfold verbFrom; omega
  | f + 1, k => by
    unfold verbFrom
    split
    · omega
    · have := verbFrom_le t f (k + 1); omega
theorem verbOf_le (t : List UInt8) : verbOf t ≤ 8 := verbFrom_le t 8 0
def nextS (d : List Tok) (f : Nat) (out : List Ev) : Except AErr (Ev × Int × Nat) → Except AErr (List Ev)
  | .error q => .error q
  | .ok (e, c, j) => sAll d f j (out ++ List.replicate c.toNat e)
/-- Behind the count. -/
def CntRel (W : World) (gp : Nat) (sv tv : Value) (el ec : Int) (d : List Tok) (p : Int × Int) (ol : Ents) (n i : Nat) (R : Except AErr (Ev × Int × Nat)) (s7 : Value) (wz : World) : Prop :=
  ∃ (c : Int) (s2 : PSt), s7 = .int .u64 c ∧ 0 ≤ c ∧ c ≤ 18446744073709551615 ∧ Kn [] W wz ((gp, At (parC sv tv s2) 56) :: ol) ∧ s2.i ≤ i + 2 ∧
    ((∃ j, s2 = ⟨j, p, 0⟩ ∧ 1 ≤ c ∧ c ≤ 100000 ∧ R = withCount c (sVerb d n c j)) ∨ (∃ q, R = .error q ∧ BadC el ec d s2 q))
/-- Behind the loop. -/
def RDoneRel (W : World) (gp : Nat) (sv tv : Value) (AS : List Ev × (Int × Int) × Int) (s6 : Value) (wr : World) : Prop :=
  ∃ (s : PSt) (out : List Ev) (ol : Ents), OwnT 35 3 s6 (evRows out) ol ∧ Kn [] W wr ((gp, At (parC sv tv s) 56) :: ol) ∧ ((s.er = 0 ∧ AS = (out, (0, 0), 0)) ∨ SpoiltC AS s)
theorem intP_i (el ec : Int) (d : List Tok) (s : PSt) : (intP el ec d s).i ≤ s.i + 1 := by
  unfold intP
  split
  · exact Nat.le_refl _
  · unfold anyP
    split
    · exact Nat.le_refl _
    · unfold failP
      split <;> exact Nat.le_succ _
/-- Among the copies of one event. -/
def RCopyRel (W : World) (gp g9 : Nat) (sv tv : Value) (s7 : PSt) (out : List Ev) (ev : Ev) (c : Nat) (s6 s11 : Value) (wr : World) : Prop :=
  ∃ (m : Nat) (ol : Ents), s11 = .int .u64 (m : Int) ∧ m ≤ c ∧ (¬ s7.er = 0 → m = 0) ∧ OwnT 35 3 s6 (evRows (out ++ List.replicate m ev)) ol ∧ Kn [] W wr ((gp, At (parC sv tv s7) 56) :: (g9, At ev.cells 35) :: ol)
set_option maxRecDepth 100000 in
set_option maxHeartbeats 8000000 in
theorem RParseScript_any (s : ByteArray) (w : World) (hs : s.size ≤ maxLen) : Calls Tryd.prog 7 #[.string s] w (ScriptOut s.data.toList w) := by
  have KN := Kn.start w
  obtain ⟨d, hd⟩ : ∃ d, d = (scanRes s.data.toList).1 := ⟨_, rfl⟩
  obtain ⟨a, ha⟩ : ∃ a, a = (scanRes s.data.toList).2.1 := ⟨_, rfl⟩
  obtain ⟨b, hb⟩ : ∃ b, b = (scanRes s.data.toList).2.2.1 := ⟨_, rfl⟩
  obtain ⟨er, her⟩ : ∃ er, er = (scanRes s.data.toList).2.2.2 := ⟨_, rfl⟩
  have hsr : scanRes s.data.toList = (d, a, b, er) := by rw [hd, ha, hb, her]
  have HOP := Lib.hid (fun w0 => Open_two s w0 hs)
  rw [← hd, ← ha, ← hb, ← her] at HOP
  obtain ⟨el, ec, hp⟩ : ∃ el ec, adv s.data.toList (1, 1) = (el, ec) := ⟨_, _, rfl⟩
  have HP : Hid (adv s.data.toList (1, 1) = (el, ec)) := Lib.hid hp
  obtain ⟨AS, hAS⟩ : ∃ AS, AS = script s.data.toList := ⟨_, rfl⟩
  have HOUT : Hid (∀ (e : Ending) (w' : World), (∃ (v : Value) (ol : Ents), e = .returned (.tuple #[v, .agg #[.int .i64 AS.2.1.1, .int .i64 AS.2.1.2], .int .i64 AS.2.2]) ∧ OwnT 35 3 v (evRows AS.1) ol ∧ Kn [] w w' ol) → ScriptOut s.data.toList w e w') := Lib.hid (fun e w' h => by
    unfold ScriptOut
    rw [← hAS]
    exact h)
  have HAE : Hid (¬ er = 0 → AS = ([], (a, b), er)) := Lib.hid (fun h => by
    rw [hAS]
    unfold script
    rw [hsr]
    show (if ¬ er = 0 then _ else _) = _
    rw [if_pos h])
  have HAO : Hid (er = 0 → AS = finS s.data.toList d (sAll d d.length 0 [])) := Lib.hid (fun h => by
    rw [hAS]
    unfold script
    rw [hsr]
    show (if ¬ er = 0 then _ else _) = _
    rw [if_neg (by simpa using h)]
    cases sAll d d.length 0 [] <;> rfl)
  have HDL : Hid (d.length ≤ 65536) := Lib.hid (by rw [hd]; exact scanRes_len _)
  have HVAL : Hid (∀ t ∈ d, 0 ≤ t.raw.value ∧ t.raw.value ≤ 18446744073709551615) := Lib.hid (by rw [hd]; exact scanRes_val _)
  have HSZ : Hid (er = 0 → s.size ≤ 65536) := Lib.hid (fun h => by
    rcases Nat.lt_or_ge 65536 s.size with h1 | h1
    · rw [her, scanRes_long (l := s.data.toList) h1] at h
      exact absurd h (by decide)
    · exact h1)
  obtain ⟨r0, hr0⟩ : ∃ r0, r0 = sAll d d.length 0 [] := ⟨_, rfl⟩
  have HR0 := Lib.hid hr0
  have HAR : Hid (er = 0 → AS = finS s.data.toList d r0) := Lib.hid (fun h => by rw [hr0]; exact HAO.out h)
  generalize ScriptOut s.data.toList w = POST at HOUT ⊢
  clear hr0 HAO hd ha hb her hsr hAS hs hp
  go_enter Tryd.func7, Tryd.ntmps7
  go_upto_block 0 with (first | (go_at_call 16; refine (HOP.out _).mono ?_; rintro e9 w2 ⟨gp, tv, tl, w1, rfl, K1, hT, K2⟩; have K0 := Lib.hid ((KN.call0 K1).perm List.perm_append_comm); have HT := Lib.hid hT; clear KN; have KN := K2; clear K1 K2 hT) | ((with_reducible refine wpList_gate ?_); first | ((with_reducible refine gate_load ?_ ?_); rfl; first | (refine ks_load1 KN 3 Tryd.underlying3 ?_) | (refine ks_load1 KN 37 Tryd.underlying37 ?_) | (refine ks_load1 KN 9 Tryd.underlying9 ?_) | (refine ks_loadW KN 35 Tryd.underlying35 ?_) | (refine ks_loadW KN 25 Tryd.underlying25 ?_) | (refine ks_load1 KN 26 Tryd.underlying26 ?_)) | ((with_reducible refine gate_store ?_ ?_); rfl; first | (refine ks_store1 KN 3 ?_; clear KN; intro wx KN) | (refine ks_storeW KN 35 ?_; clear KN; intro wx KN) | (refine ks_storeA KN 35 ?_; clear KN; intro wx KN) | (refine ks_storeW KN 25 ?_; clear KN; intro wx KN) | (refine ks_storeA KN 25 ?_; clear KN; intro wx KN)) | ((with_reducible refine gate_new ?_ ?_); rfl; first | (refine ks_alloc KN 25 (q := 3) #[.int .i64 0, .int .i64 0] ?_; clear KN; intro g3 wx hg3 KN) | (refine ks_alloc KN 35 (q := 9) #[.int .i64 0, .int .i64 0, .int .i64 0] ?_; clear KN; intro g9 wx hg9 KN) | (refine wpList_built rfl 25 #[] rfl #[.int .i64 0, .int .i64 0] (by kernel_rfl) ?_))))
  (try go_frame)
  go_cut [6] (fun s6 wz => RDoneRel w1 gp (.string s) tv AS s6 wz)
  case first =>
    go_wp2_with fail
    go_loopw [6, 7, 8, 9, 10, 11] (fun s6 _ _ _ _ _ wr => RItemsRel w1 gp (.string s) tv d (a, b) er r0 AS s6 wr) (fun _ _ _ _ _ _ wr => parM d.length gp wr)
    case atStart =>
      refine ⟨⟨0, (a, b), er⟩, [], [], .nil, KN, ?_⟩
      by_cases he : er = 0
      · subst he
        exact .inl ⟨rfl, d.length, 0, rfl, HR0.out, by omega, by omega, by decide⟩
      · exact .inr ⟨he, HAE.out he⟩
    case round =>
      clear KN
      obtain ⟨s1, out, ol, OW, KN, hcase⟩ := hrel
      have HOW := Lib.hid OW
      clear OW
      have hdl := HDL.out
      rcases hcase with ⟨he, f, i, rfl, hr, hf, hi, hol⟩ | hsp
      · have HE := Lib.hid he
        have HR := Lib.hid hr
        have hsz := HSZ.out he
        have HA1 := Lib.hid (HAR.out he)
        have HT1 : Hid (((⟨i, (a, b), 0⟩ : PSt).er == 0) = true) := Lib.hid rfl
        have HME : Hid (parM d.length gp wr = d.length - i) := Lib.hid ((parM_eq KN .here d.length).trans (if_pos rfl))
        clear he hr
        by_cases hlt : i < d.length
        · have HDN : Hid (decide (d.length ≤ (⟨i, (a, b), 0⟩ : PSt).i) = false) := Lib.hid (decide_eq_false (by show ¬ d.length ≤ i; omega))
          obtain ⟨n, hn⟩ : ∃ n, n = out.length := ⟨_, rfl⟩
          obtain ⟨oa, oc, hov⟩ := HOW.out.form
          rw [show (evRows out).length = n from by rw [hn]; exact List.length_map ..] at hov
          subst hov
          obtain ⟨R, hR⟩ : ∃ R, R = sItem d n i := ⟨_, rfl⟩
          have HRS : Hid (r0 = nextS d (f - 1) out R) := Lib.hid (by
            obtain ⟨f, rfl⟩ : ∃ f', f = f' + 1 := ⟨f - 1, by omega⟩
            rw [HR.out, sAll, if_pos hlt, ← hn, hR]
            rcases sItem d n i with q | ⟨e, c, j⟩ <;> rfl)
          have HRI := Lib.hid hR
          have HN := Lib.hid hn
          rw [← hn] at hol
          obtain ⟨kb, hkb⟩ : ∃ kb, kb = kindB d ⟨i, (a, b), 0⟩ 2 := ⟨_, rfl⟩
          have HKB := Lib.hid hkb
          have hfv := con_field_val
          clear hn hR hkb
          go_upto_if 22 with (first | (go_at_call 17; refine (par_ok KN).mono ?_; rw [HT1.out]; rintro e9 wx ⟨rfl, K2⟩; replace KN := K2; clear K2) | (go_at_call 18; refine (par_done KN HT.out HDL.out).mono ?_; rw [HDN.out]; rintro e9 wx ⟨rfl, K2⟩; replace KN := K2; clear K2) | (go_at_call 19; refine (par_kind KN HT.out hdl (by show i ≤ 70000; omega) 2 (by decide)).mono ?_; rw [← HKB.out]; rintro e9 wx ⟨rfl, K2⟩; replace KN := K2; clear K2) | ((with_reducible refine wpList_gate ?_); first | ((with_reducible refine gate_load ?_ ?_); rfl; first | (refine ks_load1 KN 3 Tryd.underlying3 ?_) | (refine ks_load1 KN 37 Tryd.underlying37 ?_) | (refine ks_load1 KN 9 Tryd.underlying9 ?_) | (refine ks_loadW KN 35 Tryd.underlying35 ?_) | (refine ks_loadW KN 25 Tryd.underlying25 ?_) | (refine ks_load1 KN 26 Tryd.underlying26 ?_)) | ((with_reducible refine gate_store ?_ ?_); rfl; first | (refine ks_store1 KN 3 ?_; clear KN; intro wx KN) | (refine ks_storeW KN 35 ?_; clear KN; intro wx KN) | (refine ks_storeA KN 35 ?_; clear KN; intro wx KN) | (refine ks_storeW KN 25 ?_; clear KN; intro wx KN) | (refine ks_storeA KN 25 ?_; clear KN; intro wx KN)) | ((with_reducible refine gate_new ?_ ?_); rfl; first | (refine ks_alloc KN 25 (q := 3) #[.int .i64 0, .int .i64 0] ?_; clear KN; intro g3 wx hg3 KN) | (refine ks_alloc KN 35 (q := 9) #[.int .i64 0, .int .i64 0, .int .i64 0] ?_; clear KN; intro g9 wx hg9 KN) | (refine wpList_built rfl 25 #[] rfl #[.int .i64 0, .int .i64 0] (by kernel_rfl) ?_))))
          (try go_frame)
          go_cut [22, 7] (fun _ s7 wz => CntRel w1 gp (.string s) tv el ec d (a, b) ol n i R s7 wz)
          case first =>
            cases hb : kb with
            | false =>
              have HRQ : Hid (R = withCount 1 (sVerb d n 1 i)) := Lib.hid (by
                have h2 : ¬ (tk d i).kind = 2 := by
                  have := HKB.out
                  rw [hb, kindB_at] at this
                  exact of_decide_eq_false this.symm
                rw [HRI.out]; unfold sItem; rw [if_neg h2])
              go_wp2_with fail
              go_meet
              case rel => exact ⟨1, _, rfl, by decide, by decide, KN, by show i ≤ i + 2; omega, .inl ⟨i, rfl, by decide, by decide, HRQ.out⟩⟩
            | true =>
              have hk2 : (tk d i).kind = 2 := by
                have := HKB.out
                rw [hb, kindB_at] at this
                exact of_decide_eq_true this.symm
              obtain ⟨v, hv⟩ : ∃ v, v = (tk d i).value := ⟨_, rfl⟩
              have hvb : 0 ≤ v ∧ v ≤ 18446744073709551615 := by
                rw [hv]
                unfold tk
                cases ht : d[i]? with
                | none => decide
                | some t => exact HVAL.out t (List.mem_of_getElem? ht)
              have hv0 := hvb.1
              have HVB := Lib.hid hvb
              have HAT : Hid (anyTok el ec d ⟨i, (a, b), 0⟩ 2 = #[.int .i64 (tk d i).kind, .string (str (tk d i).text), .int .u64 v, .int .i64 (posE el ec d i).1, .int .i64 (posE el ec d i).2]) := Lib.hid (by unfold anyTok; rw [if_pos (by rw [kindB_at, decide_eq_true hk2]), hv])
              have HAP : Hid (anyP el ec d ⟨i, (a, b), 0⟩ 2 = ⟨i + 1, (a, b), 0⟩) := Lib.hid (by unfold anyP; rw [if_pos (by rw [kindB_at, decide_eq_true hk2])]; rfl)
              have HFL : Hid (failP el ec d ⟨i + 1, (a, b), 0⟩ i 6 = ⟨i + 1, posE el ec d i, 6⟩) := Lib.hid (failP_at _ _)
              by_cases hra : v < 1 ∨ 100000 < v
              · have HRQ : Hid (R = .error (i, 6)) := Lib.hid (by rw [HRI.out]; unfold sItem; rw [if_pos hk2, ← hv, if_pos hra])
                have HND : Hid (needP el ec d ⟨i + 1, posE el ec d i, 6⟩ 4 [42] = ⟨i + 1, posE el ec d i, 6⟩) := Lib.hid (needP_bad (by show ¬ (6 : Int) = 0; decide) _)
                have hor : (v == 0) = true ∨ ((v == 0) = false ∧ decide (100000 < v) = true) := by
                  rcases hra with h | h
                  · exact .inl (beq_iff_eq.2 (by omega))
                  · exact .inr ⟨beq_eq_false_iff_ne.2 (by omega), decide_eq_true h⟩
                clear hk2 hv hra hvb
                rcases hor with h | ⟨h, h'⟩
                all_goals
                  go_wp2_with (first | (go_at_call 20; refine (par_any KN HT.out hdl (by show i ≤ 70000; omega) hsz HP 2 (by decide)).mono ?_; rw [HAT.out, HAP.out]; rintro y9 wx ⟨rfl, K2⟩; replace KN := K2; clear K2) | (go_at_call 21; refine (par_fail KN HT.out hdl hsz HP i (by omega) 6).mono ?_; rw [HFL.out]; rintro y9 wx ⟨rfl, K2⟩; replace KN := K2; clear K2) | (go_at_call 22; refine (par_need KN HT.out hdl (by show i + 1 ≤ 70000; omega) hsz HP 4 (by decide) [42]).mono ?_; rw [HND.out]; rintro y9 wx ⟨rfl, K2⟩; replace KN := K2; clear K2) | ((with_reducible refine wpList_gate ?_); first | ((with_reducible refine gate_load ?_ ?_); rfl; first | (refine ks_load1 KN 3 Tryd.underlying3 ?_) | (refine ks_load1 KN 37 Tryd.underlying37 ?_) | (refine ks_load1 KN 9 Tryd.underlying9 ?_) | (refine ks_loadW KN 35 Tryd.underlying35 ?_) | (refine ks_loadW KN 25 Tryd.underlying25 ?_) | (refine ks_load1 KN 26 Tryd.underlying26 ?_)) | ((with_reducible refine gate_store ?_ ?_); rfl; first | (refine ks_store1 KN 3 ?_; clear KN; intro wx KN) | (refine ks_storeW KN 35 ?_; clear KN; intro wx KN) | (refine ks_storeA KN 35 ?_; clear KN; intro wx KN) | (refine ks_storeW KN 25 ?_; clear KN; intro wx KN) | (refine ks_storeA KN 25 ?_; clear KN; intro wx KN)) | ((with_reducible refine gate_new ?_ ?_); rfl; first | (refine ks_alloc KN 25 (q := 3) #[.int .i64 0, .int .i64 0] ?_; clear KN; intro g3 wx hg3 KN) | (refine ks_alloc KN 35 (q := 9) #[.int .i64 0, .int .i64 0, .int .i64 0] ?_; clear KN; intro g9 wx hg9 KN) | (refine wpList_built rfl 25 #[] rfl #[.int .i64 0, .int .i64 0] (by kernel_rfl) ?_))))
                  go_meet
                  case rel => exact ⟨v, _, rfl, HVB.out.1, HVB.out.2, KN, by show i + 1 ≤ i + 2; omega, .inr ⟨(i, 6), HRQ.out, rfl, rfl, by show ¬ (6 : Int) = 0; decide⟩⟩
              · have h : (v == 0) = false := beq_eq_false_iff_ne.2 (by omega)
                have h' : decide (100000 < v) = false := decide_eq_false (by omega)
                have hv1 : 1 ≤ v := by omega
                have hv2 : v ≤ 100000 := by omega
                by_cases hm : isP d (i + 1) [42] = true
                · have HRQ : Hid (R = withCount v (sVerb d n v (i + 2))) := Lib.hid (by rw [HRI.out]; unfold sItem; rw [if_pos hk2, ← hv, if_neg hra, if_pos hm])
                  have HND : Hid (needP el ec d ⟨i + 1, (a, b), 0⟩ 4 [42] = ⟨i + 2, (a, b), 0⟩) := Lib.hid (needP_yes hm)
                  clear hk2 hv hra hvb hm
                  go_wp2_with (first | (go_at_call 20; refine (par_any KN HT.out hdl (by show i ≤ 70000; omega) hsz HP 2 (by decide)).mono ?_; rw [HAT.out, HAP.out]; rintro y9 wx ⟨rfl, K2⟩; replace KN := K2; clear K2) | (go_at_call 22; refine (par_need KN HT.out hdl (by show i + 1 ≤ 70000; omega) hsz HP 4 (by decide) [42]).mono ?_; rw [HND.out]; rintro y9 wx ⟨rfl, K2⟩; replace KN := K2; clear K2) | ((with_reducible refine wpList_gate ?_); first | ((with_reducible refine gate_load ?_ ?_); rfl; first | (refine ks_load1 KN 3 Tryd.underlying3 ?_) | (refine ks_load1 KN 37 Tryd.underlying37 ?_) | (refine ks_load1 KN 9 Tryd.underlying9 ?_) | (refine ks_loadW KN 35 Tryd.underlying35 ?_) | (refine ks_loadW KN 25 Tryd.underlying25 ?_) | (refine ks_load1 KN 26 Tryd.underlying26 ?_)) | ((with_reducible refine gate_store ?_ ?_); rfl; first | (refine ks_store1 KN 3 ?_; clear KN; intro wx KN) | (refine ks_storeW KN 35 ?_; clear KN; intro wx KN) | (refine ks_storeA KN 35 ?_; clear KN; intro wx KN) | (refine ks_storeW KN 25 ?_; clear KN; intro wx KN) | (refine ks_storeA KN 25 ?_; clear KN; intro wx KN)) | ((with_reducible refine gate_new ?_ ?_); rfl; first | (refine ks_alloc KN 25 (q := 3) #[.int .i64 0, .int .i64 0] ?_; clear KN; intro g3 wx hg3 KN) | (refine ks_alloc KN 35 (q := 9) #[.int .i64 0, .int .i64 0, .int .i64 0] ?_; clear KN; intro g9 wx hg9 KN) | (refine wpList_built rfl 25 #[] rfl #[.int .i64 0, .int .i64 0] (by kernel_rfl) ?_))))
                  go_meet
                  case rel => exact ⟨v, _, rfl, HVB.out.1, HVB.out.2, KN, by show i + 2 ≤ i + 2; omega, .inl ⟨i + 2, rfl, hv1, hv2, HRQ.out⟩⟩
                · have HRQ : Hid (R = .error (i + 1, 50)) := Lib.hid (by rw [HRI.out]; unfold sItem; rw [if_pos hk2, ← hv, if_neg hra, if_neg hm])
                  have HND : Hid (needP el ec d ⟨i + 1, (a, b), 0⟩ 4 [42] = ⟨i + 1, posE el ec d (i + 1), 50⟩) := Lib.hid (needP_no hm)
                  clear hk2 hv hra hvb hm
                  go_wp2_with (first | (go_at_call 20; refine (par_any KN HT.out hdl (by show i ≤ 70000; omega) hsz HP 2 (by decide)).mono ?_; rw [HAT.out, HAP.out]; rintro y9 wx ⟨rfl, K2⟩; replace KN := K2; clear K2) | (go_at_call 22; refine (par_need KN HT.out hdl (by show i + 1 ≤ 70000; omega) hsz HP 4 (by decide) [42]).mono ?_; rw [HND.out]; rintro y9 wx ⟨rfl, K2⟩; replace KN := K2; clear K2) | ((with_reducible refine wpList_gate ?_); first | ((with_reducible refine gate_load ?_ ?_); rfl; first | (refine ks_load1 KN 3 Tryd.underlying3 ?_) | (refine ks_load1 KN 37 Tryd.underlying37 ?_) | (refine ks_load1 KN 9 Tryd.underlying9 ?_) | (refine ks_loadW KN 35 Tryd.underlying35 ?_) | (refine ks_loadW KN 25 Tryd.underlying25 ?_) | (refine ks_load1 KN 26 Tryd.underlying26 ?_)) | ((with_reducible refine gate_store ?_ ?_); rfl; first | (refine ks_store1 KN 3 ?_; clear KN; intro wx KN) | (refine ks_storeW KN 35 ?_; clear KN; intro wx KN) | (refine ks_storeA KN 35 ?_; clear KN; intro wx KN) | (refine ks_storeW KN 25 ?_; clear KN; intro wx KN) | (refine ks_storeA KN 25 ?_; clear KN; intro wx KN)) | ((with_reducible refine gate_new ?_ ?_); rfl; first | (refine ks_alloc KN 25 (q := 3) #[.int .i64 0, .int .i64 0] ?_; clear KN; intro g3 wx hg3 KN) | (refine ks_alloc KN 35 (q := 9) #[.int .i64 0, .int .i64 0, .int .i64 0] ?_; clear KN; intro g9 wx hg9 KN) | (refine wpList_built rfl 25 #[] rfl #[.int .i64 0, .int .i64 0] (by kernel_rfl) ?_))))
                  go_meet
                  case rel => exact ⟨v, _, rfl, HVB.out.1, HVB.out.2, KN, by show i + 1 ≤ i + 2; omega, .inr ⟨(i + 1, 50), HRQ.out, rfl, rfl, by show ¬ (50 : Int) = 0; decide⟩⟩
          case rest =>
            clear KN
            obtain ⟨c, s2, rfl, hc0, hc1, KN, hi2, hcase⟩ := hcut
            have HERQ : Hid (∀ q t, R = .error q → BadC el ec d t q → SpoiltC AS t) := Lib.hid (fun q t h hb => ⟨hb.er, by
              rw [HA1.out, HRS.out, h]
              show ([], tpos _ d q.1, q.2) = _
              rw [← posE_tpos HP.out, hb.1, hb.2.1]⟩)
            rcases hcase with ⟨j, rfl, hcl, hcu, hRQ⟩ | ⟨q, hRQ, hbad⟩
            · have HRQ := Lib.hid hRQ
              have hj : j ≤ i + 2 := hi2
              clear hRQ hi2
              by_cases hk1 : (tk d j).kind = 1
              · obtain ⟨t, ht⟩ : ∃ t, d[j]? = some t := ⟨_, List.getElem?_eq_getElem (tkind_lt (by rw [hk1]; decide))⟩
                have htk : tk d j = t.raw := tk_in ht
                obtain ⟨ta, tc, htv, hcc⟩ := HT.out
                obtain ⟨bb, off, hta, hbb, x0, x1, x2, x3, x4⟩ := hcc j t ht
                subst hta
                subst htv
                have HK1 : Hid (kindB d ⟨j, (a, b), 0⟩ 1 = true) := Lib.hid (by rw [kindB_at, decide_eq_true hk1])
                have HTK := Lib.hid htk
                have hjd : j < d.length := tkind_lt (by rw [hk1]; decide)
                have HX1 := Lib.hid x1
                clear hk1 ht htk hcc x0 x1 x2 x3 x4
                go_upto_region 12 with (first | (go_at_call 19; refine (par_kind KN HT.out hdl (by show j ≤ 70000; omega) 1 (by decide)).mono ?_; rw [HK1.out]; rintro e9 wx ⟨rfl, K2⟩; replace KN := K2; clear K2) | ((with_reducible refine wpList_gate ?_); first | ((with_reducible refine gate_load ?_ ?_); rfl; first | (refine ks_load1 KN 3 Tryd.underlying3 ?_) | (refine ks_load1 KN 37 Tryd.underlying37 ?_) | (refine ks_load1 KN 9 Tryd.underlying9 ?_) | (refine ks_loadW KN 35 Tryd.underlying35 ?_) | (refine ks_loadW KN 25 Tryd.underlying25 ?_) | (refine ks_load1 KN 26 Tryd.underlying26 ?_)) | ((with_reducible refine gate_store ?_ ?_); rfl; first | (refine ks_store1 KN 3 ?_; clear KN; intro wx KN) | (refine ks_storeW KN 35 ?_; clear KN; intro wx KN) | (refine ks_storeA KN 35 ?_; clear KN; intro wx KN) | (refine ks_storeW KN 25 ?_; clear KN; intro wx KN) | (refine ks_storeA KN 25 ?_; clear KN; intro wx KN)) | ((with_reducible refine gate_new ?_ ?_); rfl; first | (refine ks_alloc KN 25 (q := 3) #[.int .i64 0, .int .i64 0] ?_; clear KN; intro g3 wx hg3 KN) | (refine ks_alloc KN 35 (q := 9) #[.int .i64 0, .int .i64 0, .int .i64 0] ?_; clear KN; intro g9 wx hg9 KN) | (refine wpList_built rfl 25 #[] rfl #[.int .i64 0, .int .i64 0] (by kernel_rfl) ?_))))
                (try go_frame)
                replace KN := KN.drew
                refine wp_region_held_drew (S := (fun w' => w'.cell? ⟨gp, 1, none⟩ = some (.slice (some ⟨bb, off, none⟩) d.length tc) ∧ w'.cell? ⟨gp, 2, none⟩ = some (.int .i64 (j : Int)) ∧ w'.cell? ⟨bb, off + j * 5 + 1, none⟩ = some (.string (str t.raw.text)))) (by kernel_rfl) ?qvhS (fun hHeld => ?qvrest)
                case qvhS => exact ⟨KN.cell (g := gp) (o := 1) (by repeat (first | exact Has.here | refine Has.there ?_)) rfl, KN.cell (g := gp) (o := 2) (by repeat (first | exact Has.here | refine Has.there ?_)) rfl, (KN.old hbb (by simp)).trans HX1.out⟩
                refine wpAnyH_take (i := 0) (oi := ⟨some 43, _, _, _, _, _⟩) (v := ?qvv0) rfl (by kernel_rfl) (by kernel_rfl) (by kernel_rfl) (fun _ _ _ h => h) (Or.inl ⟨by rfl, ?qvhy0⟩) hHeld ?qvr0
                case qvhy0 => (intro w hSw; (try dsimp only at hSw); go_simp; (try with_reducible rfl))
                (try simp only [Act.put, List.setIfInBounds_toArray, List.set_cons_zero, List.set_cons_succ])
                refine wpAnyH_take (i := 1) (oi := ⟨some 44, _, _, _, _, _⟩) (v := ?qvv1) rfl (by kernel_rfl) (by kernel_rfl) (by kernel_rfl) (fun _ _ _ h => h) (Or.inl ⟨by rfl, ?qvhy1⟩) hHeld ?qvr1
                case qvhy1 => (intro w hSw; (try dsimp only at hSw); go_simp; (try with_reducible rfl))
                (try simp only [Act.put, List.setIfInBounds_toArray, List.set_cons_zero, List.set_cons_succ])
                refine wpAnyH_take (i := 2) (oi := ⟨some 45, _, _, _, _, _⟩) (v := ?qvv2) rfl (by kernel_rfl) (by kernel_rfl) (by kernel_rfl) (fun _ _ _ h => h) (Or.inl ⟨by rfl, ?qvhy2⟩) hHeld ?qvr2
                case qvhy2 => (intro w hSw; (try dsimp only at hSw); go_simp; (try with_reducible rfl))
                (try simp only [Act.put, List.setIfInBounds_toArray, List.set_cons_zero, List.set_cons_succ])
                refine wpAnyH_take (i := 3) (oi := ⟨some 46, _, _, _, _, _⟩) (v := (.slice (some ⟨bb, off, none⟩) d.length tc)) rfl (by kernel_rfl) (by kernel_rfl) (by kernel_rfl) (fun _ _ _ h => h) (kn_yields_cell (by rfl) 37 _ rfl gp 1 rfl _ (fun _ h => h.1) _ Tryd.underlying37 rfl) hHeld ?qvr3
                (try simp only [Act.put, List.setIfInBounds_toArray, List.set_cons_zero, List.set_cons_succ])
                refine wpAnyH_take (i := 4) (oi := ⟨some 47, _, _, _, _, _⟩) (v := ?qvv4) rfl (by kernel_rfl) (by kernel_rfl) (by kernel_rfl) (fun _ _ _ h => h) (Or.inl ⟨by rfl, ?qvhy4⟩) hHeld ?qvr4
                case qvhy4 => (intro w hSw; (try dsimp only at hSw); go_simp; (try with_reducible rfl))
                (try simp only [Act.put, List.setIfInBounds_toArray, List.set_cons_zero, List.set_cons_succ])
                refine wpAnyH_take (i := 5) (oi := ⟨some 48, _, _, _, _, _⟩) (v := ?qvv5) rfl (by kernel_rfl) (by kernel_rfl) (by kernel_rfl) (fun _ _ _ h => h) (Or.inl ⟨by rfl, ?qvhy5⟩) hHeld ?qvr5
                case qvhy5 => (intro w hSw; (try dsimp only at hSw); go_simp; (try with_reducible rfl))
                (try simp only [Act.put, List.setIfInBounds_toArray, List.set_cons_zero, List.set_cons_succ])
                refine wpAnyH_take (i := 6) (oi := ⟨some 49, _, _, _, _, _⟩) (v := ?qvv6) rfl (by kernel_rfl) (by kernel_rfl) (by kernel_rfl) (fun _ _ _ h => h) (Or.inl ⟨by rfl, ?qvhy6⟩) hHeld ?qvr6
                case qvhy6 => (intro w hSw; (try dsimp only at hSw); go_simp; (try with_reducible rfl))
                (try simp only [Act.put, List.setIfInBounds_toArray, List.set_cons_zero, List.set_cons_succ])
                refine wpAnyH_take (i := 7) (oi := ⟨some 50, _, _, _, _, _⟩) (v := (.int .i64 (j : Int))) rfl (by kernel_rfl) (by kernel_rfl) (by kernel_rfl) (fun _ _ _ h => h) (kn_yields_cell (by rfl) 3 _ rfl gp 2 rfl _ (fun _ h => h.2.1) _ Tryd.underlying3 rfl) hHeld ?qvr7
                (try simp only [Act.put, List.setIfInBounds_toArray, List.set_cons_zero, List.set_cons_succ])
                refine wpAnyH_take (i := 8) (oi := ⟨some 51, _, _, _, _, _⟩) (v := (.pointer (some ⟨bb, off + j * 5, none⟩))) rfl (by kernel_rfl) (by kernel_rfl) (by kernel_rfl) (fun _ _ _ h => h) (Or.inl ⟨by rfl, ?qvhy8⟩) hHeld ?qvr8
                case qvhy8 => (intro w hSw; (try dsimp only at hSw); go_simp; (try rfl))
                (try simp only [Act.put, List.setIfInBounds_toArray, List.set_cons_zero, List.set_cons_succ])
                refine wpAnyH_take (i := 9) (oi := ⟨some 52, _, _, _, _, _⟩) (v := ?qvv9) rfl (by kernel_rfl) (by kernel_rfl) (by kernel_rfl) (fun _ _ _ h => h) (Or.inl ⟨by rfl, ?qvhy9⟩) hHeld ?qvr9
                case qvhy9 => (intro w hSw; (try dsimp only at hSw); go_simp; (try with_reducible rfl))
                (try simp only [Act.put, List.setIfInBounds_toArray, List.set_cons_zero, List.set_cons_succ])
                refine wpAnyH_take (i := 10) (oi := ⟨some 53, _, _, _, _, _⟩) (v := (.string (str t.raw.text))) rfl (by kernel_rfl) (by kernel_rfl) (by kernel_rfl) (fun _ _ _ h => h) (kn_yields_cell (by rfl) 9 _ rfl bb (off + j * 5 + 1) rfl _ (fun _ h => h.2.2) _ Tryd.underlying9 rfl) hHeld ?qvr10
                (try simp only [Act.put, List.setIfInBounds_toArray, List.set_cons_zero, List.set_cons_succ])
                refine wpAnyH_ready (rs := [11]) (by kernel_rfl) (by simp) ?qvc11
                refine AllReadyH.cons (o := ⟨some 54, _, _, _, _, _⟩) rfl (fun K hK => ?qvst11) AllReadyH.nil
                go_simp
                (refine (verb_any t.raw.text _).mono ?_; rintro e9 wx ⟨rfl, hb⟩; replace KN := KN.below hb; clear hb)
                refine hK.out _ _ ?qvk11 (fun hHeld2 => ?qvm11)
                case qvk11 => exact ⟨KN.cell (g := gp) (o := 1) (by repeat (first | exact Has.here | refine Has.there ?_)) rfl, KN.cell (g := gp) (o := 2) (by repeat (first | exact Has.here | refine Has.there ?_)) rfl, (KN.old hbb (by simp)).trans HX1.out⟩
                clear hK K hHeld
                have hHeld := hHeld2; clear hHeld2
                (try simp only [Act.put, List.setIfInBounds_toArray, List.set_cons_zero, List.set_cons_succ])
                refine wpAnyH_take (i := 12) (oi := ⟨some 8, _, _, _, _, _⟩) (v := ?qvv12) rfl (by kernel_rfl) (by kernel_rfl) (by kernel_rfl) (fun _ _ _ h => h) (Or.inl ⟨by rfl, ?qvhy12⟩) hHeld ?qvr12
                case qvhy12 => (intro w hSw; (try dsimp only at hSw); go_simp; (try with_reducible rfl))
                (try simp only [Act.put, List.setIfInBounds_toArray, List.set_cons_zero, List.set_cons_succ])
                refine wpAnyH_done (by kernel_rfl) ?qvdone _
                by_cases hv0 : verbOf t.raw.text = 0
                · have HQ : Hid (R = .error (j, 50)) := Lib.hid (by rw [HRQ.out]; unfold sVerb; rw [if_neg (fun h => h.2 (by rw [HTK.out]; exact hv0))]; rfl)
                  have HFL : Hid (failP el ec d ⟨j, (a, b), 0⟩ j 50 = ⟨j, posE el ec d j, 50⟩) := Lib.hid (failP_at _ _)
                  have HSP : Hid (SpoiltC AS ⟨j, posE el ec d j, 50⟩) := Lib.hid (HERQ.out (j, 50) _ HQ.out ⟨rfl, rfl, by show ¬ (50 : Int) = 0; decide⟩)
                  have h0 : (((verbOf t.raw.text : Nat) : Int) == 0) = true := by rw [hv0]; rfl
                  clear hv0
                  go_wp2_with (first | (go_at_call 21; refine (par_fail KN HT.out hdl hsz HP j (by omega) 50).mono ?_; rw [HFL.out]; rintro y9 wx ⟨rfl, K2⟩; replace KN := K2; clear K2) | ((with_reducible refine wpList_gate ?_); first | ((with_reducible refine gate_load ?_ ?_); rfl; first | (refine ks_load1 KN 3 Tryd.underlying3 ?_) | (refine ks_load1 KN 37 Tryd.underlying37 ?_) | (refine ks_load1 KN 9 Tryd.underlying9 ?_) | (refine ks_loadW KN 35 Tryd.underlying35 ?_) | (refine ks_loadW KN 25 Tryd.underlying25 ?_) | (refine ks_load1 KN 26 Tryd.underlying26 ?_)) | ((with_reducible refine gate_store ?_ ?_); rfl; first | (refine ks_store1 KN 3 ?_; clear KN; intro wx KN) | (refine ks_storeW KN 35 ?_; clear KN; intro wx KN) | (refine ks_storeA KN 35 ?_; clear KN; intro wx KN) | (refine ks_storeW KN 25 ?_; clear KN; intro wx KN) | (refine ks_storeA KN 25 ?_; clear KN; intro wx KN)) | ((with_reducible refine gate_new ?_ ?_); rfl; first | (refine ks_alloc KN 25 (q := 3) #[.int .i64 0, .int .i64 0] ?_; clear KN; intro g3 wx hg3 KN) | (refine ks_alloc KN 35 (q := 9) #[.int .i64 0, .int .i64 0, .int .i64 0] ?_; clear KN; intro g9 wx hg9 KN) | (refine wpList_built rfl 25 #[] rfl #[.int .i64 0, .int .i64 0] (by kernel_rfl) ?_))))
                  go_meet
                  case rel => exact ⟨_, out, ol, HOW.out, KN, .inr HSP.out⟩
                · obtain ⟨k, hk⟩ : ∃ k, k = verbOf t.raw.text := ⟨_, rfl⟩
                  have hk8 : k ≤ 8 := by rw [hk]; exact verbOf_le _
                  have hk1 : 1 ≤ k := by rw [hk]; omega
                  rw [← hk]
                  have HV : Hid (R = withCount c (if 100000 - (n : Int) < c then .error (j, 15) else sTail d k (j + 1))) := Lib.hid (by rw [HRQ.out]; unfold sVerb; rw [if_pos ⟨kind_of HK1.out, by rw [HTK.out]; exact hv0⟩, HTK.out, ← hk])
                  have h0 : (((k : Nat) : Int) == 0) = false := beq_eq_false_iff_ne.2 (by omega)
                  have wn : IntKind.u64.wrap (n : Int) = n := by rw [IntKind.wrap_u64]; omega
                  have wc : IntKind.u64.wrap ((n : Int) + c) = n + c := by rw [IntKind.wrap_u64]; omega
                  clear hv0 hk
                  go_upto_if 68 with fail
                  (try go_frame)
                  go_cut [68] (fun _ wz => ∃ s3 : PSt, s3.i = j ∧ Kn [] w1 wz ((gp, At (parC (.string s) (.slice (some ⟨bb, off, none⟩) d.length tc) s3) 56) :: ol) ∧ ((s3 = ⟨j, (a, b), 0⟩ ∧ R = withCount c (sTail d k (j + 1)) ∧ (n : Int) + c ≤ 100000) ∨ (BadC el ec d s3 (j, 15) ∧ R = .error (j, 15))))
                  case first =>
                    by_cases hlim : 100000 < (n : Int) + c
                    · have hdt : decide (100000 < (n : Int) + c) = true := decide_eq_true hlim
                      have HFL : Hid (failP el ec d ⟨j, (a, b), 0⟩ j 15 = ⟨j, posE el ec d j, 15⟩) := Lib.hid (failP_at _ _)
                      have HRE : Hid (R = .error (j, 15)) := Lib.hid (by rw [HV.out, if_pos (by omega)]; rfl)
                      rw [hdt]
                      clear hlim
                      go_wp2_with (first | (go_at_call 21; refine (par_fail KN HT.out hdl hsz HP j (by omega) 15).mono ?_; rw [HFL.out]; rintro y9 wx ⟨rfl, K2⟩; replace KN := K2; clear K2) | ((with_reducible refine wpList_gate ?_); first | ((with_reducible refine gate_load ?_ ?_); rfl; first | (refine ks_load1 KN 3 Tryd.underlying3 ?_) | (refine ks_load1 KN 37 Tryd.underlying37 ?_) | (refine ks_load1 KN 9 Tryd.underlying9 ?_) | (refine ks_loadW KN 35 Tryd.underlying35 ?_) | (refine ks_loadW KN 25 Tryd.underlying25 ?_) | (refine ks_load1 KN 26 Tryd.underlying26 ?_)) | ((with_reducible refine gate_store ?_ ?_); rfl; first | (refine ks_store1 KN 3 ?_; clear KN; intro wx KN) | (refine ks_storeW KN 35 ?_; clear KN; intro wx KN) | (refine ks_storeA KN 35 ?_; clear KN; intro wx KN) | (refine ks_storeW KN 25 ?_; clear KN; intro wx KN) | (refine ks_storeA KN 25 ?_; clear KN; intro wx KN)) | ((with_reducible refine gate_new ?_ ?_); rfl; first | (refine ks_alloc KN 25 (q := 3) #[.int .i64 0, .int .i64 0] ?_; clear KN; intro g3 wx hg3 KN) | (refine ks_alloc KN 35 (q := 9) #[.int .i64 0, .int .i64 0, .int .i64 0] ?_; clear KN; intro g9 wx hg9 KN) | (refine wpList_built rfl 25 #[] rfl #[.int .i64 0, .int .i64 0] (by kernel_rfl) ?_))))
                      go_meet
                      case rel => exact ⟨_, rfl, KN, .inr ⟨⟨rfl, rfl, by show ¬ (15 : Int) = 0; decide⟩, HRE.out⟩⟩
                    · have hdt : decide (100000 < (n : Int) + c) = false := decide_eq_false hlim
                      have HRE : Hid (R = withCount c (sTail d k (j + 1))) := Lib.hid (by rw [HV.out, if_neg (by omega)])
                      rw [hdt]
                      go_wp2_with fail
                      go_meet
                      case rel => exact ⟨_, rfl, KN, .inl ⟨rfl, HRE.out, by omega⟩⟩
                  case rest =>
                    clear KN
                    obtain ⟨s3, hs3, KN, h3⟩ := hcut
                    have H3 := Lib.hid h3
                    have HI3 := Lib.hid hs3
                    have hi3 : s3.i ≤ i + 2 := by omega
                    clear h3 hs3
                    go_upto_region 19 with (first | ((with_reducible refine wpList_gate ?_); first | ((with_reducible refine gate_load ?_ ?_); rfl; first | (refine ks_load1 KN 3 Tryd.underlying3 ?_) | (refine ks_load1 KN 37 Tryd.underlying37 ?_) | (refine ks_load1 KN 9 Tryd.underlying9 ?_) | (refine ks_loadW KN 35 Tryd.underlying35 ?_) | (refine ks_loadW KN 25 Tryd.underlying25 ?_) | (refine ks_load1 KN 26 Tryd.underlying26 ?_)) | ((with_reducible refine gate_store ?_ ?_); rfl; first | (refine ks_store1 KN 3 ?_; clear KN; intro wx KN) | (refine ks_storeW KN 35 ?_; clear KN; intro wx KN) | (refine ks_storeA KN 35 ?_; clear KN; intro wx KN) | (refine ks_storeW KN 25 ?_; clear KN; intro wx KN) | (refine ks_storeA KN 25 ?_; clear KN; intro wx KN)) | ((with_reducible refine gate_new ?_ ?_); rfl; first | (refine wpList_built rfl 35 _ rfl #[.int .i64 (k : Int), .int .i64 0, .int .i64 0] (by kernel_rfl) ?_) | (refine ks_alloc KN 25 (q := 3) #[.int .i64 0, .int .i64 0] ?_; clear KN; intro g3 wx hg3 KN) | (refine ks_alloc KN 35 (q := 9) #[.int .i64 0, .int .i64 0, .int .i64 0] ?_; clear KN; intro g9 wx hg9 KN) | (refine wpList_built rfl 25 #[] rfl #[.int .i64 0, .int .i64 0] (by kernel_rfl) ?_))))
                    (try go_frame)
                    replace KN := KN.as_ gp (parC (.string s) (.slice (some ⟨bb, off, none⟩) d.length tc) (stepP s3)) (by repeat (first | exact Repl.here | apply Repl.there)) (by kernel_rfl)
                    obtain ⟨cn, rfl⟩ := Int.eq_ofNat_of_zero_le hc0
                    obtain ⟨s4, hs4⟩ : ∃ s4, s4 = stepP s3 := ⟨_, rfl⟩
                    rw [← hs4] at KN
                    have hi4 : s4.i = j + 1 := by rw [hs4]; show s3.i + 1 = j + 1; rw [HI3.out]
                    have H4 : Hid ((R = withCount cn (sTail d k (j + 1)) ∧ s4 = ⟨j + 1, (a, b), 0⟩ ∧ n + cn ≤ 100000) ∨ (BadC el ec d s4 (j, 15) ∧ R = .error (j, 15))) := Lib.hid (by
                      rcases H3.out with ⟨h1, h2, h3⟩ | ⟨h1, h2⟩
                      · exact .inl ⟨h2, by rw [hs4, h1]; rfl, by omega⟩
                      · exact .inr ⟨by rw [hs4]; exact h1, h2⟩)
                    obtain ⟨v1, hv1⟩ : ∃ v1, v1 = intV d s4 := ⟨_, rfl⟩
                    obtain ⟨s5, hs5⟩ : ∃ s5, s5 = intP el ec d s4 := ⟨_, rfl⟩
                    have hi5 : s5.i ≤ j + 2 := by rw [hs5]; have := intP_i el ec d s4; omega
                    have HV1 := Lib.hid hv1
                    have HS5 := Lib.hid hs5
                    clear hs4 hv1 hs5
                    go_upto_if 87 with (first | (go_at_call 24; refine (par_int (KN.mv gp) HT.out hdl (by omega) hsz HP HVAL.out).mono ?_; rw [← HV1.out, ← HS5.out]; rintro e9 wx ⟨rfl, K2⟩; replace KN := K2; clear K2) | ((with_reducible refine wpList_gate ?_); first | ((with_reducible refine gate_load ?_ ?_); rfl; first | (refine ks_load1 KN 3 Tryd.underlying3 ?_) | (refine ks_load1 KN 37 Tryd.underlying37 ?_) | (refine ks_load1 KN 9 Tryd.underlying9 ?_) | (refine ks_loadW KN 35 Tryd.underlying35 ?_) | (refine ks_loadW KN 25 Tryd.underlying25 ?_) | (refine ks_load1 KN 26 Tryd.underlying26 ?_)) | ((with_reducible refine gate_store ?_ ?_); rfl; first | (refine ks_store1 KN 3 ?_; clear KN; intro wx KN) | (refine ks_storeW KN 35 ?_; clear KN; intro wx KN) | (refine ks_storeA KN 35 ?_; clear KN; intro wx KN) | (refine ks_storeW KN 25 ?_; clear KN; intro wx KN) | (refine ks_storeA KN 25 ?_; clear KN; intro wx KN)) | ((with_reducible refine gate_new ?_ ?_); rfl; first | (refine ks_alloc KN 25 (q := 3) #[.int .i64 0, .int .i64 0] ?_; clear KN; intro g3 wx hg3 KN) | (refine ks_alloc KN 35 (q := 9) #[.int .i64 0, .int .i64 0, .int .i64 0] ?_; clear KN; intro g9 wx hg9 KN) | (refine wpList_built rfl 25 #[] rfl #[.int .i64 0, .int .i64 0] (by kernel_rfl) ?_))))
                    (try go_frame)
                    go_cut [87] (fun _ wz => ∃ c1 n1 : Int, Kn [] w1 wz ((gp, At (parC (.string s) (.slice (some ⟨bb, off, none⟩) d.length tc) s5) 56) :: (g9, At #[.int .i64 (k : Int), .int .i64 c1, .int .i64 n1] 35) :: ol) ∧ (c1, n1) = if k = 8 then (0, v1) else (v1, 0))
                    case first =>
                      by_cases hk8' : k = 8
                      · have hd8 : (((k : Nat) : Int) == 8) = true := by rw [hk8']; rfl
                        rw [hd8]
                        go_wp2_with (first | ((with_reducible refine wpList_gate ?_); first | ((with_reducible refine gate_load ?_ ?_); rfl; first | (refine ks_load1 KN 3 Tryd.underlying3 ?_) | (refine ks_load1 KN 37 Tryd.underlying37 ?_) | (refine ks_load1 KN 9 Tryd.underlying9 ?_) | (refine ks_loadW KN 35 Tryd.underlying35 ?_) | (refine ks_loadW KN 25 Tryd.underlying25 ?_) | (refine ks_load1 KN 26 Tryd.underlying26 ?_)) | ((with_reducible refine gate_store ?_ ?_); rfl; first | (refine ks_store1 KN 3 ?_; clear KN; intro wx KN) | (refine ks_storeW KN 35 ?_; clear KN; intro wx KN) | (refine ks_storeA KN 35 ?_; clear KN; intro wx KN) | (refine ks_storeW KN 25 ?_; clear KN; intro wx KN) | (refine ks_storeA KN 25 ?_; clear KN; intro wx KN)) | ((with_reducible refine gate_new ?_ ?_); rfl; first | (refine ks_alloc KN 25 (q := 3) #[.int .i64 0, .int .i64 0] ?_; clear KN; intro g3 wx hg3 KN) | (refine ks_alloc KN 35 (q := 9) #[.int .i64 0, .int .i64 0, .int .i64 0] ?_; clear KN; intro g9 wx hg9 KN) | (refine wpList_built rfl 25 #[] rfl #[.int .i64 0, .int .i64 0] (by kernel_rfl) ?_))))
                        replace KN := KN.as_ g9 #[.int .i64 (k : Int), .int .i64 0, .int .i64 v1] (by repeat (first | exact Repl.here | apply Repl.there)) (by kernel_rfl)
                        go_meet
                        case rel => exact ⟨0, v1, KN, by rw [if_pos hk8']⟩
                      · have hd8 : (((k : Nat) : Int) == 8) = false := beq_eq_false_iff_ne.2 (by omega)
                        rw [hd8]
                        go_wp2_with (first | ((with_reducible refine wpList_gate ?_); first | ((with_reducible refine gate_load ?_ ?_); rfl; first | (refine ks_load1 KN 3 Tryd.underlying3 ?_) | (refine ks_load1 KN 37 Tryd.underlying37 ?_) | (refine ks_load1 KN 9 Tryd.underlying9 ?_) | (refine ks_loadW KN 35 Tryd.underlying35 ?_) | (refine ks_loadW KN 25 Tryd.underlying25 ?_) | (refine ks_load1 KN 26 Tryd.underlying26 ?_)) | ((with_reducible refine gate_store ?_ ?_); rfl; first | (refine ks_store1 KN 3 ?_; clear KN; intro wx KN) | (refine ks_storeW KN 35 ?_; clear KN; intro wx KN) | (refine ks_storeA KN 35 ?_; clear KN; intro wx KN) | (refine ks_storeW KN 25 ?_; clear KN; intro wx KN) | (refine ks_storeA KN 25 ?_; clear KN; intro wx KN)) | ((with_reducible refine gate_new ?_ ?_); rfl; first | (refine ks_alloc KN 25 (q := 3) #[.int .i64 0, .int .i64 0] ?_; clear KN; intro g3 wx hg3 KN) | (refine ks_alloc KN 35 (q := 9) #[.int .i64 0, .int .i64 0, .int .i64 0] ?_; clear KN; intro g9 wx hg9 KN) | (refine wpList_built rfl 25 #[] rfl #[.int .i64 0, .int .i64 0] (by kernel_rfl) ?_))))
                        replace KN := KN.as_ g9 #[.int .i64 (k : Int), .int .i64 v1, .int .i64 0] (by repeat (first | exact Repl.here | apply Repl.there)) (by kernel_rfl)
                        go_meet
                        case rel => exact ⟨v1, 0, KN, by rw [if_neg hk8']⟩
                    case rest =>
                      clear KN
                      obtain ⟨c1, n1, KN, hcn⟩ := hcut
                      have HCN := Lib.hid hcn
                      clear hcn
                      obtain ⟨bk, hbk⟩ : ∃ bk, bk = (k == 2 || k == 3 || k == 6 || k == 7) := ⟨_, rfl⟩
                      have HBK := Lib.hid hbk
                      clear hbk
                      go_upto_if 93 with (first | (go_at_call 25; refine (binary_any k _ hk8).mono ?_; rw [← HBK.out]; rintro e9 wx ⟨rfl, rfl⟩) | ((with_reducible refine wpList_gate ?_); first | ((with_reducible refine gate_load ?_ ?_); rfl; first | (refine ks_load1 KN 3 Tryd.underlying3 ?_) | (refine ks_load1 KN 37 Tryd.underlying37 ?_) | (refine ks_load1 KN 9 Tryd.underlying9 ?_) | (refine ks_loadW KN 35 Tryd.underlying35 ?_) | (refine ks_loadW KN 25 Tryd.underlying25 ?_) | (refine ks_load1 KN 26 Tryd.underlying26 ?_)) | ((with_reducible refine gate_store ?_ ?_); rfl; first | (refine ks_store1 KN 3 ?_; clear KN; intro wx KN) | (refine ks_storeW KN 35 ?_; clear KN; intro wx KN) | (refine ks_storeA KN 35 ?_; clear KN; intro wx KN) | (refine ks_storeW KN 25 ?_; clear KN; intro wx KN) | (refine ks_storeA KN 25 ?_; clear KN; intro wx KN)) | ((with_reducible refine gate_new ?_ ?_); rfl; first | (refine ks_alloc KN 25 (q := 3) #[.int .i64 0, .int .i64 0] ?_; clear KN; intro g3 wx hg3 KN) | (refine ks_alloc KN 35 (q := 9) #[.int .i64 0, .int .i64 0, .int .i64 0] ?_; clear KN; intro g9 wx hg9 KN) | (refine wpList_built rfl 25 #[] rfl #[.int .i64 0, .int .i64 0] (by kernel_rfl) ?_))))
                      (try go_frame)
                      go_cut [93] (fun _ wz => ∃ (c2 n2 : Int) (s6 : PSt), Kn [] w1 wz ((gp, At (parC (.string s) (.slice (some ⟨bb, off, none⟩) d.length tc) s6) 56) :: (g9, At #[.int .i64 (k : Int), .int .i64 c2, .int .i64 n2] 35) :: ol) ∧ tailS el ec d k s4 = (c2, n2, needP el ec d s6 4 [59]) ∧ s6.i ≤ j + 3)
                      case first =>
                        cases hb : bk with
                        | true =>
                          have hnb : ¬ k = 8 := by
                            rintro rfl
                            have := HBK.out
                            rw [hb] at this
                            exact absurd this (by decide)
                          have HE : Hid (tailS el ec d k s4 = (c1, intV d s5, needP el ec d (intP el ec d s5) 4 [59])) := Lib.hid (by
                            have hcn := HCN.out
                            rw [if_neg hnb] at hcn
                            injection hcn with h1 h2
                            unfold tailS
                            rw [if_neg hnb, if_pos (by rw [← HBK.out, hb]), h1, ← HS5.out, ← HV1.out])
                          obtain ⟨v2, hv2⟩ : ∃ v2, v2 = intV d s5 := ⟨_, rfl⟩
                          have HV2 := Lib.hid hv2
                          have hi6 := intP_i el ec d s5
                          clear hv2 hnb
                          go_wp2_with (first | (go_at_call 24; refine (par_int KN HT.out hdl (by omega) hsz HP HVAL.out).mono ?_; rw [← HV2.out]; rintro e9 wx ⟨rfl, K2⟩; replace KN := K2; clear K2) | ((with_reducible refine wpList_gate ?_); first | ((with_reducible refine gate_load ?_ ?_); rfl; first | (refine ks_load1 KN 3 Tryd.underlying3 ?_) | (refine ks_load1 KN 37 Tryd.underlying37 ?_) | (refine ks_load1 KN 9 Tryd.underlying9 ?_) | (refine ks_loadW KN 35 Tryd.underlying35 ?_) | (refine ks_loadW KN 25 Tryd.underlying25 ?_) | (refine ks_load1 KN 26 Tryd.underlying26 ?_)) | ((with_reducible refine gate_store ?_ ?_); rfl; first | (refine ks_store1 KN 3 ?_; clear KN; intro wx KN) | (refine ks_storeW KN 35 ?_; clear KN; intro wx KN) | (refine ks_storeA KN 35 ?_; clear KN; intro wx KN) | (refine ks_storeW KN 25 ?_; clear KN; intro wx KN) | (refine ks_storeA KN 25 ?_; clear KN; intro wx KN)) | ((with_reducible refine gate_new ?_ ?_); rfl; first | (refine ks_alloc KN 25 (q := 3) #[.int .i64 0, .int .i64 0] ?_; clear KN; intro g3 wx hg3 KN) | (refine ks_alloc KN 35 (q := 9) #[.int .i64 0, .int .i64 0, .int .i64 0] ?_; clear KN; intro g9 wx hg9 KN) | (refine wpList_built rfl 25 #[] rfl #[.int .i64 0, .int .i64 0] (by kernel_rfl) ?_))))
                          replace KN := KN.as_ g9 #[.int .i64 (k : Int), .int .i64 c1, .int .i64 v2] (by repeat (first | exact Repl.here | apply Repl.there)) (by kernel_rfl)
                          go_meet
                          case rel => exact ⟨c1, v2, _, KN, by rw [HE.out, ← HV2.out], by omega⟩
                        | false =>
                          have HE : Hid (tailS el ec d k s4 = (c1, n1, needP el ec d s5 4 [59])) := Lib.hid (by
                            have hcn := HCN.out
                            unfold tailS
                            by_cases hk8' : k = 8
                            · rw [if_pos hk8'] at hcn
                              injection hcn with h1 h2
                              rw [if_pos hk8', h1, h2, ← HS5.out, ← HV1.out]
                            · rw [if_neg hk8'] at hcn
                              injection hcn with h1 h2
                              rw [if_neg hk8', if_neg (by rw [← HBK.out, hb]; decide), h1, h2, ← HS5.out, ← HV1.out])
                          go_wp2_with fail
                          go_meet
                          case rel => exact ⟨c1, n1, s5, KN, HE.out, by omega⟩
                      case rest =>
                        clear KN
                        obtain ⟨c2, n2, s6, KN, hts, hi6⟩ := hcut
                        obtain ⟨s7, hs7⟩ : ∃ s7, s7 = needP el ec d s6 4 [59] := ⟨_, rfl⟩
                        have HS7 := Lib.hid hs7
                        have HFN : Hid ((∃ j' : Nat, R = .ok (⟨k, c2, n2⟩, (cn : Int), j') ∧ s7 = ⟨j', (a, b), 0⟩) ∨ SpoiltC AS s7) := Lib.hid (by
                          rw [← hs7] at hts
                          rcases H4.out with ⟨h1, h2, h3⟩ | ⟨h1, h2⟩
                          · have htl := tail_law (el := el) (ec := ec) (d := d) (p := (a, b)) hk1 hk8 (j + 1)
                            rw [h2] at hts
                            rw [hts] at htl
                            cases hst : sTail d k (j + 1) with
                            | ok y =>
                              obtain ⟨e, j'⟩ := y
                              rw [hst] at htl h1
                              obtain ⟨t1, t2, t3⟩ := htl
                              injection t2 with t4 t5
                              refine .inl ⟨j', ?_, t1⟩
                              rw [h1]
                              show Except.ok (e, (cn : Int), j') = _
                              obtain ⟨ek, ec', en⟩ := e
                              dsimp only at t3 t4 t5
                              subst t3; subst t4; subst t5; rfl
                            | error q =>
                              rw [hst] at htl h1
                              exact .inr (HERQ.out q s7 (by rw [h1]; rfl) htl)
                          · have hb7 := tailS_bad (el := el) (ec := ec) (d := d) h1.er k
                            rw [hts] at hb7
                            have hb8 : s7 = s4 := hb7
                            rw [hb8]
                            exact .inr (HERQ.out (j, 15) s4 h2 h1))
                        have HN4 : Hid (s7.er = 0 → n + cn ≤ 100000) := Lib.hid (fun h => by
                          rcases H4.out with ⟨h1, h2, h3⟩ | ⟨h1, h2⟩
                          · exact h3
                          · have hb7 := tailS_bad (el := el) (ec := ec) (d := d) h1.er k
                            rw [hts, ← hs7] at hb7
                            have hb8 : s7 = s4 := hb7
                            rw [hb8] at h
                            exact absurd h h1.er)
                        clear hs7 hts
                        go_wp2_with (first | (go_at_call 22; refine (par_need KN HT.out hdl (by omega) hsz HP 4 (by decide) [59]).mono ?_; rw [← HS7.out]; rintro y9 wx ⟨rfl, K2⟩; replace KN := K2; clear K2) | ((with_reducible refine wpList_gate ?_); first | ((with_reducible refine gate_load ?_ ?_); rfl; first | (refine ks_load1 KN 3 Tryd.underlying3 ?_) | (refine ks_load1 KN 37 Tryd.underlying37 ?_) | (refine ks_load1 KN 9 Tryd.underlying9 ?_) | (refine ks_loadW KN 35 Tryd.underlying35 ?_) | (refine ks_loadW KN 25 Tryd.underlying25 ?_) | (refine ks_load1 KN 26 Tryd.underlying26 ?_)) | ((with_reducible refine gate_store ?_ ?_); rfl; first | (refine ks_store1 KN 3 ?_; clear KN; intro wx KN) | (refine ks_storeW KN 35 ?_; clear KN; intro wx KN) | (refine ks_storeA KN 35 ?_; clear KN; intro wx KN) | (refine ks_storeW KN 25 ?_; clear KN; intro wx KN) | (refine ks_storeA KN 25 ?_; clear KN; intro wx KN)) | ((with_reducible refine gate_new ?_ ?_); rfl; first | (refine ks_alloc KN 25 (q := 3) #[.int .i64 0, .int .i64 0] ?_; clear KN; intro g3 wx hg3 KN) | (refine ks_alloc KN 35 (q := 9) #[.int .i64 0, .int .i64 0, .int .i64 0] ?_; clear KN; intro g9 wx hg9 KN) | (refine wpList_built rfl 25 #[] rfl #[.int .i64 0, .int .i64 0] (by kernel_rfl) ?_))))
                        go_loopw [6, 11] (fun s6 s11 wr => RCopyRel w1 gp g9 (.string s) (.slice (some ⟨bb, off, none⟩) d.length tc) s7 out ⟨k, c2, n2⟩ cn s6 s11 wr) (fun _ s11 _ => cn - (intOf s11).toNat)
                        case atStart => exact ⟨0, ol, rfl, Nat.zero_le _, fun _ => rfl, by rw [List.replicate_zero, List.append_nil]; exact HOW.out, KN⟩
                        case round =>
                          clear KN
                          obtain ⟨m, ol2, rfl, hm, hm0, OW2, KN⟩ := hrel
                          have HL2 : Hid ((evRows (out ++ List.replicate m ⟨k, c2, n2⟩)).length = n + m) := Lib.hid (by rw [List.length_map, List.length_append, List.length_replicate, HN.out])
                          obtain ⟨pa, pc, hpv⟩ := OW2.form
                          rw [HL2.out] at hpv
                          subst hpv
                          have HO2 := Lib.hid OW2
                          have HM0 := Lib.hid hm0
                          clear OW2 hm0
                          by_cases hgo : m < cn ∧ s7.er = 0
                          · have hmc := hgo.1
                            have hncn := HN4.out hgo.2
                            have HT7 : Hid ((s7.er == 0) = true) := Lib.hid (by rw [hgo.2]; rfl)
                            have HE7 := Lib.hid hgo.2
                            have hdm : decide ((m : Int) < (cn : Int)) = true := decide_eq_true (by omega)
                            clear hgo
                            go_wp2_with (first | (go_at_call 17; refine (par_ok KN).mono ?_; rw [HT7.out]; rintro e9 wx ⟨rfl, K2⟩; replace KN := K2; clear K2) | ((with_reducible refine wpList_gate ?_); first | (refine wpList_kn_lit KN rfl 22 35 1 _ rfl 110 rfl Tryd.underlying22 #[.int .i64 (k : Int), .int .i64 c2, .int .i64 n2] (by kernel_rfl) ?_; clear KN; intro g110 wx hg110 KN) | (at_builtin; (refine wpList_kn_append1 KN HO2.out (by rfl) _ _ 22 rfl 24 Tryd.underlying22 (by kernel_rfl) (by decide) rfl 1 rfl rfl (by kernel_rfl) (by rw [HL2.out]; unfold maxLen; omega) (by rw [HL2.out]; omega) (f := fun o => (gp, _) :: (g9, _) :: o) (TailF.cons _ (TailF.cons _ TailF.id)) rfl ?_); clear KN; intro v3 wx ol3 OW3 KN) | ((with_reducible refine gate_load ?_ ?_); rfl; first | (refine ks_load1 KN 3 Tryd.underlying3 ?_) | (refine ks_load1 KN 37 Tryd.underlying37 ?_) | (refine ks_load1 KN 9 Tryd.underlying9 ?_) | (refine ks_loadW KN 35 Tryd.underlying35 ?_) | (refine ks_loadW KN 25 Tryd.underlying25 ?_) | (refine ks_load1 KN 26 Tryd.underlying26 ?_)) | ((with_reducible refine gate_store ?_ ?_); rfl; first | (refine ks_store1 KN 3 ?_; clear KN; intro wx KN) | (refine ks_storeW KN 35 ?_; clear KN; intro wx KN) | (refine ks_storeA KN 35 ?_; clear KN; intro wx KN) | (refine ks_storeW KN 25 ?_; clear KN; intro wx KN) | (refine ks_storeA KN 25 ?_; clear KN; intro wx KN)) | ((with_reducible refine gate_new ?_ ?_); rfl; first | (refine ks_alloc KN 25 (q := 3) #[.int .i64 0, .int .i64 0] ?_; clear KN; intro g3 wx hg3 KN) | (refine ks_alloc KN 35 (q := 9) #[.int .i64 0, .int .i64 0, .int .i64 0] ?_; clear KN; intro g9 wx hg9 KN) | (refine wpList_built rfl 25 #[] rfl #[.int .i64 0, .int .i64 0] (by kernel_rfl) ?_))))
                            go_roundw
                            case rel => exact ⟨m + 1, ol3, by go_num, by omega, fun h => absurd HE7.out h, by rw [← evRows_snoc]; exact OW3, KN⟩
                            case measure => simp [intOf]; omega
                          · have HEND : Hid ((∃ j' : Nat, R = .ok (⟨k, c2, n2⟩, (cn : Int), j') ∧ s7 = ⟨j', (a, b), 0⟩ ∧ m = cn) ∨ SpoiltC AS s7) := Lib.hid (by
                              rcases HFN.out with ⟨j', h1, h2⟩ | h1
                              · refine .inl ⟨j', h1, h2, ?_⟩
                                have h3 : ¬ m < cn := fun h4 => hgo ⟨h4, by rw [h2]⟩
                                omega
                              · exact .inr h1)
                            have HREL : Hid (∀ wq, Kn [] w1 wq ((gp, At (parC (.string s) (.slice (some ⟨bb, off, none⟩) d.length tc) s7) 56) :: (g9, At #[.int .i64 (k : Int), .int .i64 c2, .int .i64 n2] 35) :: ol2) → RItemsRel w1 gp (.string s) (.slice (some ⟨bb, off, none⟩) d.length tc) d (a, b) er r0 AS (.slice pa (n + m) pc) wq ∧ parM d.length gp wq < d.length - i) := Lib.hid (fun wq KQ => by
                              have hpm := parM_eq KQ .here d.length
                              refine ⟨⟨s7, out ++ List.replicate m ⟨k, c2, n2⟩, ol2, HO2.out, KQ.drop (.there .here), ?_⟩, ?_⟩
                              · rcases HEND.out with ⟨j', h1, h2, h3⟩ | h1
                                · have hnx := sItem_next (d := d) (n := n) (i := i) (j := j') (c := (cn : Int)) (e := ⟨k, c2, n2⟩) (by rw [← HRI.out]; exact h1)
                                  refine .inl ⟨HE.out, f - 1, j', h2, ?_, by omega, hnx.2.1, ?_⟩
                                  · rw [HRS.out, h1, h3]; rfl
                                  · rw [List.length_append, List.length_replicate, ← HN.out]; omega
                                · exact .inr h1
                              · rw [hpm]
                                rcases HEND.out with ⟨j', h1, h2, h3⟩ | h1
                                · have hnx := sItem_next (d := d) (n := n) (i := i) (j := j') (c := (cn : Int)) (e := ⟨k, c2, n2⟩) (by rw [← HRI.out]; exact h1)
                                  rw [if_pos (by rw [h2])]
                                  rw [h2]
                                  show d.length - j' < _
                                  omega
                                · rw [if_neg h1.1]; omega)
                            by_cases hmc : m < cn
                            · have HT7 : Hid ((s7.er == 0) = false) := Lib.hid (by rw [beq_eq_false_iff_ne]; exact fun h => hgo ⟨hmc, h⟩)
                              have hdm : decide ((m : Int) < (cn : Int)) = true := decide_eq_true (by omega)
                              clear hgo
                              go_wp2_with (first | (go_at_call 17; refine (par_ok KN).mono ?_; rw [HT7.out]; rintro e9 wx ⟨rfl, K2⟩; replace KN := K2; clear K2) | ((with_reducible refine wpList_gate ?_); first | ((with_reducible refine gate_load ?_ ?_); rfl; first | (refine ks_load1 KN 3 Tryd.underlying3 ?_) | (refine ks_load1 KN 37 Tryd.underlying37 ?_) | (refine ks_load1 KN 9 Tryd.underlying9 ?_) | (refine ks_loadW KN 35 Tryd.underlying35 ?_) | (refine ks_loadW KN 25 Tryd.underlying25 ?_) | (refine ks_load1 KN 26 Tryd.underlying26 ?_)) | ((with_reducible refine gate_store ?_ ?_); rfl; first | (refine ks_store1 KN 3 ?_; clear KN; intro wx KN) | (refine ks_storeW KN 35 ?_; clear KN; intro wx KN) | (refine ks_storeA KN 35 ?_; clear KN; intro wx KN) | (refine ks_storeW KN 25 ?_; clear KN; intro wx KN) | (refine ks_storeA KN 25 ?_; clear KN; intro wx KN)) | ((with_reducible refine gate_new ?_ ?_); rfl; first | (refine ks_alloc KN 25 (q := 3) #[.int .i64 0, .int .i64 0] ?_; clear KN; intro g3 wx hg3 KN) | (refine ks_alloc KN 35 (q := 9) #[.int .i64 0, .int .i64 0, .int .i64 0] ?_; clear KN; intro g9 wx hg9 KN) | (refine wpList_built rfl 25 #[] rfl #[.int .i64 0, .int .i64 0] (by kernel_rfl) ?_))))
                              go_roundw
                              case rel => exact (HREL.out _ KN).1
                              case measure => rw [HME.out]; exact (HREL.out _ KN).2
                            · have hdm : decide ((m : Int) < (cn : Int)) = false := decide_eq_false (by omega)
                              clear hgo
                              go_wp2_with fail
                              go_roundw
                              case rel => exact (HREL.out _ KN).1
                              case measure => rw [HME.out]; exact (HREL.out _ KN).2
              · have HQ : Hid (R = .error (j, 50)) := Lib.hid (by rw [HRQ.out]; unfold sVerb; rw [if_neg (fun h => hk1 h.1)]; rfl)
                have HK1 : Hid (kindB d ⟨j, (a, b), 0⟩ 1 = false) := Lib.hid (by rw [kindB_at, decide_eq_false hk1])
                have HFL : Hid (failP el ec d ⟨j, (a, b), 0⟩ j 50 = ⟨j, posE el ec d j, 50⟩) := Lib.hid (failP_at _ _)
                have HSP : Hid (SpoiltC AS ⟨j, posE el ec d j, 50⟩) := Lib.hid (HERQ.out (j, 50) _ HQ.out ⟨rfl, rfl, by show ¬ (50 : Int) = 0; decide⟩)
                clear hk1
                go_wp2_with (first | (go_at_call 19; refine (par_kind KN HT.out hdl (by show j ≤ 70000; omega) 1 (by decide)).mono ?_; rw [HK1.out]; rintro e9 wx ⟨rfl, K2⟩; replace KN := K2; clear K2) | (go_at_call 21; refine (par_fail KN HT.out hdl hsz HP j (by omega) 50).mono ?_; rw [HFL.out]; rintro y9 wx ⟨rfl, K2⟩; replace KN := K2; clear K2) | ((with_reducible refine wpList_gate ?_); first | ((with_reducible refine gate_load ?_ ?_); rfl; first | (refine ks_load1 KN 3 Tryd.underlying3 ?_) | (refine ks_load1 KN 37 Tryd.underlying37 ?_) | (refine ks_load1 KN 9 Tryd.underlying9 ?_) | (refine ks_loadW KN 35 Tryd.underlying35 ?_) | (refine ks_loadW KN 25 Tryd.underlying25 ?_) | (refine ks_load1 KN 26 Tryd.underlying26 ?_)) | ((with_reducible refine gate_store ?_ ?_); rfl; first | (refine ks_store1 KN 3 ?_; clear KN; intro wx KN) | (refine ks_storeW KN 35 ?_; clear KN; intro wx KN) | (refine ks_storeA KN 35 ?_; clear KN; intro wx KN) | (refine ks_storeW KN 25 ?_; clear KN; intro wx KN) | (refine ks_storeA KN 25 ?_; clear KN; intro wx KN)) | ((with_reducible refine gate_new ?_ ?_); rfl; first | (refine ks_alloc KN 25 (q := 3) #[.int .i64 0, .int .i64 0] ?_; clear KN; intro g3 wx hg3 KN) | (refine ks_alloc KN 35 (q := 9) #[.int .i64 0, .int .i64 0, .int .i64 0] ?_; clear KN; intro g9 wx hg9 KN) | (refine wpList_built rfl 25 #[] rfl #[.int .i64 0, .int .i64 0] (by kernel_rfl) ?_))))
                go_meet
                case rel => exact ⟨_, out, ol, HOW.out, KN, .inr HSP.out⟩
            · have HSP : Hid (SpoiltC AS s2) := Lib.hid (HERQ.out q s2 hRQ hbad)
              have HK1 : Hid (kindB d s2 1 = false) := Lib.hid (kindB_er0 hbad.er 1)
              have HFL : Hid (failP el ec d s2 s2.i 50 = s2) := Lib.hid (failP_bad hbad.er _ _)
              clear hRQ hbad
              go_wp2_with (first | (go_at_call 19; refine (par_kind KN HT.out hdl (by omega) 1 (by decide)).mono ?_; rw [HK1.out]; rintro e9 wx ⟨rfl, K2⟩; replace KN := K2; clear K2) | (go_at_call 21; refine (par_fail KN HT.out hdl hsz HP s2.i (by omega) 50).mono ?_; rw [HFL.out]; rintro y9 wx ⟨rfl, K2⟩; replace KN := K2; clear K2) | ((with_reducible refine wpList_gate ?_); first | ((with_reducible refine gate_load ?_ ?_); rfl; first | (refine ks_load1 KN 3 Tryd.underlying3 ?_) | (refine ks_load1 KN 37 Tryd.underlying37 ?_) | (refine ks_load1 KN 9 Tryd.underlying9 ?_) | (refine ks_loadW KN 35 Tryd.underlying35 ?_) | (refine ks_loadW KN 25 Tryd.underlying25 ?_) | (refine ks_load1 KN 26 Tryd.underlying26 ?_)) | ((with_reducible refine gate_store ?_ ?_); rfl; first | (refine ks_store1 KN 3 ?_; clear KN; intro wx KN) | (refine ks_storeW KN 35 ?_; clear KN; intro wx KN) | (refine ks_storeA KN 35 ?_; clear KN; intro wx KN) | (refine ks_storeW KN 25 ?_; clear KN; intro wx KN) | (refine ks_storeA KN 25 ?_; clear KN; intro wx KN)) | ((with_reducible refine gate_new ?_ ?_); rfl; first | (refine ks_alloc KN 25 (q := 3) #[.int .i64 0, .int .i64 0] ?_; clear KN; intro g3 wx hg3 KN) | (refine ks_alloc KN 35 (q := 9) #[.int .i64 0, .int .i64 0, .int .i64 0] ?_; clear KN; intro g9 wx hg9 KN) | (refine wpList_built rfl 25 #[] rfl #[.int .i64 0, .int .i64 0] (by kernel_rfl) ?_))))
              go_meet
              case rel => exact ⟨_, out, ol, HOW.out, KN, .inr HSP.out⟩
        · have HDN : Hid (decide (d.length ≤ (⟨i, (a, b), 0⟩ : PSt).i) = true) := Lib.hid (decide_eq_true (by show d.length ≤ i; omega))
          have HAQ : Hid (AS = (out, (0, 0), 0)) := Lib.hid (by
            have hro : r0 = .ok out := by
              rw [HR.out]
              cases f with
              | zero => rfl
              | succ f => rw [sAll, if_neg hlt]
            rw [HA1.out, hro]; rfl)
          go_wp2_with (first | (go_at_call 17; refine (par_ok KN).mono ?_; rw [HT1.out]; rintro e9 wx ⟨rfl, K2⟩; replace KN := K2; clear K2) | (go_at_call 18; refine (par_done KN HT.out HDL.out).mono ?_; rw [HDN.out]; rintro e9 wx ⟨rfl, K2⟩; replace KN := K2; clear K2) | ((with_reducible refine wpList_gate ?_); first | ((with_reducible refine gate_load ?_ ?_); rfl; first | (refine ks_load1 KN 3 Tryd.underlying3 ?_) | (refine ks_load1 KN 37 Tryd.underlying37 ?_) | (refine ks_load1 KN 9 Tryd.underlying9 ?_) | (refine ks_loadW KN 35 Tryd.underlying35 ?_) | (refine ks_loadW KN 25 Tryd.underlying25 ?_) | (refine ks_load1 KN 26 Tryd.underlying26 ?_)) | ((with_reducible refine gate_store ?_ ?_); rfl; first | (refine ks_store1 KN 3 ?_; clear KN; intro wx KN) | (refine ks_storeW KN 35 ?_; clear KN; intro wx KN) | (refine ks_storeA KN 35 ?_; clear KN; intro wx KN) | (refine ks_storeW KN 25 ?_; clear KN; intro wx KN) | (refine ks_storeA KN 25 ?_; clear KN; intro wx KN)) | ((with_reducible refine gate_new ?_ ?_); rfl; first | (refine ks_alloc KN 25 (q := 3) #[.int .i64 0, .int .i64 0] ?_; clear KN; intro g3 wx hg3 KN) | (refine ks_alloc KN 35 (q := 9) #[.int .i64 0, .int .i64 0, .int .i64 0] ?_; clear KN; intro g9 wx hg9 KN) | (refine wpList_built rfl 25 #[] rfl #[.int .i64 0, .int .i64 0] (by kernel_rfl) ?_))))
          go_meet
          case rel => exact ⟨_, out, ol, HOW.out, KN, .inl ⟨rfl, HAQ.out⟩⟩
      · have HSP := Lib.hid hsp
        have HT1 : Hid ((s1.er == 0) = false) := Lib.hid (by rw [beq_eq_false_iff_ne]; exact hsp.1)
        clear hsp
        go_wp2_with (first | (go_at_call 17; refine (par_ok KN).mono ?_; rw [HT1.out]; rintro e9 wx ⟨rfl, K2⟩; replace KN := K2; clear K2) | ((with_reducible refine wpList_gate ?_); first | ((with_reducible refine gate_load ?_ ?_); rfl; first | (refine ks_load1 KN 3 Tryd.underlying3 ?_) | (refine ks_load1 KN 37 Tryd.underlying37 ?_) | (refine ks_load1 KN 9 Tryd.underlying9 ?_) | (refine ks_loadW KN 35 Tryd.underlying35 ?_) | (refine ks_loadW KN 25 Tryd.underlying25 ?_) | (refine ks_load1 KN 26 Tryd.underlying26 ?_)) | ((with_reducible refine gate_store ?_ ?_); rfl; first | (refine ks_store1 KN 3 ?_; clear KN; intro wx KN) | (refine ks_storeW KN 35 ?_; clear KN; intro wx KN) | (refine ks_storeA KN 35 ?_; clear KN; intro wx KN) | (refine ks_storeW KN 25 ?_; clear KN; intro wx KN) | (refine ks_storeA KN 25 ?_; clear KN; intro wx KN)) | ((with_reducible refine gate_new ?_ ?_); rfl; first | (refine ks_alloc KN 25 (q := 3) #[.int .i64 0, .int .i64 0] ?_; clear KN; intro g3 wx hg3 KN) | (refine ks_alloc KN 35 (q := 9) #[.int .i64 0, .int .i64 0, .int .i64 0] ?_; clear KN; intro g9 wx hg9 KN) | (refine wpList_built rfl 25 #[] rfl #[.int .i64 0, .int .i64 0] (by kernel_rfl) ?_))))
        go_meet
        case rel => exact ⟨_, out, ol, HOW.out, KN, .inr HSP.out⟩
  case rest =>
    clear KN
    obtain ⟨s2, out, ol, OW, KN, hcase⟩ := hcut
    obtain ⟨n, hn⟩ : ∃ n, n = out.length := ⟨_, rfl⟩
    obtain ⟨oa, oc, hov⟩ := OW.form
    rw [show (evRows out).length = n from by rw [hn]; exact List.length_map ..] at hov
    subst hov
    have HOW := Lib.hid OW
    clear OW hn
    rcases hcase with ⟨h0, hA⟩ | hsp
    · have HAQ := Lib.hid hA
      have HT1 : Hid ((s2.er == 0) = true) := Lib.hid (by rw [h0]; rfl)
      clear h0 hA
      go_upto_region 32 with (first | (go_at_call 17; refine (par_ok KN).mono ?_; rw [HT1.out]; rintro e9 wx ⟨rfl, K2⟩; replace KN := K2; clear K2) | ((with_reducible refine wpList_gate ?_); first | ((with_reducible refine gate_load ?_ ?_); rfl; first | (refine ks_load1 KN 3 Tryd.underlying3 ?_) | (refine ks_load1 KN 37 Tryd.underlying37 ?_) | (refine ks_load1 KN 9 Tryd.underlying9 ?_) | (refine ks_loadW KN 35 Tryd.underlying35 ?_) | (refine ks_loadW KN 25 Tryd.underlying25 ?_) | (refine ks_load1 KN 26 Tryd.underlying26 ?_)) | ((with_reducible refine gate_store ?_ ?_); rfl; first | (refine ks_store1 KN 3 ?_; clear KN; intro wx KN) | (refine ks_storeW KN 35 ?_; clear KN; intro wx KN) | (refine ks_storeA KN 35 ?_; clear KN; intro wx KN) | (refine ks_storeW KN 25 ?_; clear KN; intro wx KN) | (refine ks_storeA KN 25 ?_; clear KN; intro wx KN)) | ((with_reducible refine gate_new ?_ ?_); rfl; first | (refine ks_alloc KN 25 (q := 3) #[.int .i64 0, .int .i64 0] ?_; clear KN; intro g3 wx hg3 KN) | (refine ks_alloc KN 35 (q := 9) #[.int .i64 0, .int .i64 0, .int .i64 0] ?_; clear KN; intro g9 wx hg9 KN) | (refine wpList_built rfl 25 #[] rfl #[.int .i64 0, .int .i64 0] (by kernel_rfl) ?_))))
      (try go_frame)
      replace KN := Kn.base1 K0.out KN
      go_wp2_with (first | ((with_reducible refine wpList_gate ?_); first | ((with_reducible refine gate_load ?_ ?_); rfl; first | (refine ks_load1 KN 3 Tryd.underlying3 ?_) | (refine ks_load1 KN 37 Tryd.underlying37 ?_) | (refine ks_load1 KN 9 Tryd.underlying9 ?_) | (refine ks_loadW KN 35 Tryd.underlying35 ?_) | (refine ks_loadW KN 25 Tryd.underlying25 ?_) | (refine ks_load1 KN 26 Tryd.underlying26 ?_)) | ((with_reducible refine gate_store ?_ ?_); rfl; first | (refine ks_store1 KN 3 ?_; clear KN; intro wx KN) | (refine ks_storeW KN 35 ?_; clear KN; intro wx KN) | (refine ks_storeA KN 35 ?_; clear KN; intro wx KN) | (refine ks_storeW KN 25 ?_; clear KN; intro wx KN) | (refine ks_storeA KN 25 ?_; clear KN; intro wx KN)) | ((with_reducible refine gate_new ?_ ?_); rfl; first | (refine wpList_built rfl 25 _ rfl #[.int .i64 0, .int .i64 0] (by kernel_rfl) ?_) | (refine ks_alloc KN 25 (q := 3) #[.int .i64 0, .int .i64 0] ?_; clear KN; intro g3 wx hg3 KN) | (refine ks_alloc KN 35 (q := 9) #[.int .i64 0, .int .i64 0, .int .i64 0] ?_; clear KN; intro g9 wx hg9 KN) | (refine wpList_built rfl 25 #[] rfl #[.int .i64 0, .int .i64 0] (by kernel_rfl) ?_))))
      refine bodyPost_ret (results_tct2 rfl _ _ g3 #[.int .i64 0, .int .i64 0] (.int .i64 0) (.slice oa n oc) rfl rfl (run_loadVar_row _ g3 _ _ _ (0, 0) _ (KN.at_ (by repeat (first | exact Has.here | refine Has.there ?_))) Tryd.underlying25 rfl (by kernel_rfl)) rfl) rfl ?_
      exact HOUT.out _ _ ⟨.slice oa n oc, ol, by rw [HAQ.out], by rw [HAQ.out]; exact HOW.out, KN.pick (List.Sublist.cons _ (List.Sublist.cons _ (List.sublist_append_left _ _)))⟩
    · have HSP := Lib.hid hsp
      have HT1 : Hid ((s2.er == 0) = false) := Lib.hid (by rw [beq_eq_false_iff_ne]; exact hsp.1)
      clear hsp
      go_upto_region 31 with (first | (go_at_call 17; refine (par_ok KN).mono ?_; rw [HT1.out]; rintro e9 wx ⟨rfl, K2⟩; replace KN := K2; clear K2) | ((with_reducible refine wpList_gate ?_); first | ((with_reducible refine gate_load ?_ ?_); rfl; first | (refine ks_load1 KN 3 Tryd.underlying3 ?_) | (refine ks_load1 KN 37 Tryd.underlying37 ?_) | (refine ks_load1 KN 9 Tryd.underlying9 ?_) | (refine ks_loadW KN 35 Tryd.underlying35 ?_) | (refine ks_loadW KN 25 Tryd.underlying25 ?_) | (refine ks_load1 KN 26 Tryd.underlying26 ?_)) | ((with_reducible refine gate_store ?_ ?_); rfl; first | (refine ks_store1 KN 3 ?_; clear KN; intro wx KN) | (refine ks_storeW KN 35 ?_; clear KN; intro wx KN) | (refine ks_storeA KN 35 ?_; clear KN; intro wx KN) | (refine ks_storeW KN 25 ?_; clear KN; intro wx KN) | (refine ks_storeA KN 25 ?_; clear KN; intro wx KN)) | ((with_reducible refine gate_new ?_ ?_); rfl; first | (refine ks_alloc KN 25 (q := 3) #[.int .i64 0, .int .i64 0] ?_; clear KN; intro g3 wx hg3 KN) | (refine ks_alloc KN 35 (q := 9) #[.int .i64 0, .int .i64 0, .int .i64 0] ?_; clear KN; intro g9 wx hg9 KN) | (refine wpList_built rfl 25 #[] rfl #[.int .i64 0, .int .i64 0] (by kernel_rfl) ?_))))
      (try go_frame)
      replace KN := Kn.base1 K0.out KN
      replace KN := KN.drew
      refine wp_region_held_drew (S := (fun w' => BlkT w' gp (parC (.string s) tv s2) 56)) (by kernel_rfl) ?qghS (fun hHeld => ?qgrest)
      case qghS => exact KN.at_ (by repeat (first | exact Has.here | refine Has.there ?_))
      refine wpAnyH_take (i := 0) (oi := ⟨some 115, _, _, _, _, _⟩) (v := ?qgv0) rfl (by kernel_rfl) (by kernel_rfl) (by kernel_rfl) (fun _ _ _ h => h) (Or.inl ⟨by rfl, ?qghy0⟩) hHeld ?qgr0
      case qghy0 => (intro w hSw; (try dsimp only at hSw); go_simp; (try with_reducible rfl))
      (try simp only [Act.put, List.setIfInBounds_toArray, List.set_cons_zero, List.set_cons_succ])
      refine wpAnyH_take (i := 1) (oi := ⟨some 116, _, _, _, _, _⟩) (v := ?qgv1) rfl (by kernel_rfl) (by kernel_rfl) (by kernel_rfl) (fun _ _ _ h => h) (Or.inl ⟨by rfl, ?qghy1⟩) hHeld ?qgr1
      case qghy1 => (intro w hSw; (try dsimp only at hSw); go_simp; (try with_reducible rfl))
      (try simp only [Act.put, List.setIfInBounds_toArray, List.set_cons_zero, List.set_cons_succ])
      refine wpAnyH_take (i := 2) (oi := ⟨some 117, _, _, _, _, _⟩) (v := ?qgv2) rfl (by kernel_rfl) (by kernel_rfl) (by kernel_rfl) (fun _ _ _ h => h) (Or.inl ⟨by rfl, ?qghy2⟩) hHeld ?qgr2
      case qghy2 => (intro w hSw; (try dsimp only at hSw); go_simp; (try with_reducible rfl))
      (try simp only [Act.put, List.setIfInBounds_toArray, List.set_cons_zero, List.set_cons_succ])
      refine wpAnyH_take (i := 3) (oi := ⟨some 118, _, _, _, _, _⟩) (v := (.agg #[.int .i64 s2.p.1, .int .i64 s2.p.2])) rfl (by kernel_rfl) (by kernel_rfl) (by kernel_rfl) (fun _ _ _ h => h) (kn_yieldsN (by rfl) 25 _ rfl gp 3 rfl _ 56 (fun _ h => h) #[.int .i64 s2.p.1, .int .i64 s2.p.2] rfl _ Tryd.underlying25 rfl (by kernel_rfl)) hHeld ?qgr3
      (try simp only [Act.put, List.setIfInBounds_toArray, List.set_cons_zero, List.set_cons_succ])
      refine wpAnyH_take (i := 4) (oi := ⟨some 119, _, _, _, _, _⟩) (v := ?qgv4) rfl (by kernel_rfl) (by kernel_rfl) (by kernel_rfl) (fun _ _ _ h => h) (Or.inl ⟨by rfl, ?qghy4⟩) hHeld ?qgr4
      case qghy4 => (intro w hSw; (try dsimp only at hSw); go_simp; (try with_reducible rfl))
      (try simp only [Act.put, List.setIfInBounds_toArray, List.set_cons_zero, List.set_cons_succ])
      refine wpAnyH_take (i := 5) (oi := ⟨some 120, _, _, _, _, _⟩) (v := ?qgv5) rfl (by kernel_rfl) (by kernel_rfl) (by kernel_rfl) (fun _ _ _ h => h) (Or.inl ⟨by rfl, ?qghy5⟩) hHeld ?qgr5
      case qghy5 => (intro w hSw; (try dsimp only at hSw); go_simp; (try with_reducible rfl))
      (try simp only [Act.put, List.setIfInBounds_toArray, List.set_cons_zero, List.set_cons_succ])
      refine wpAnyH_take (i := 6) (oi := ⟨some 121, _, _, _, _, _⟩) (v := ?qgv6) rfl (by kernel_rfl) (by kernel_rfl) (by kernel_rfl) (fun _ _ _ h => h) (Or.inl ⟨by rfl, ?qghy6⟩) hHeld ?qgr6
      case qghy6 => (intro w hSw; (try dsimp only at hSw); go_simp; (try with_reducible rfl))
      (try simp only [Act.put, List.setIfInBounds_toArray, List.set_cons_zero, List.set_cons_succ])
      refine wpAnyH_take (i := 7) (oi := ⟨some 122, _, _, _, _, _⟩) (v := (.int .i64 s2.er)) rfl (by kernel_rfl) (by kernel_rfl) (by kernel_rfl) (fun _ _ _ h => h) (kn_yields1 (by rfl) 26 _ rfl gp 5 rfl _ 56 (fun _ h => h) _ rfl _ Tryd.underlying26 rfl) hHeld ?qgr7
      (try simp only [Act.put, List.setIfInBounds_toArray, List.set_cons_zero, List.set_cons_succ])
      refine wpAnyH_take (i := 8) (oi := ⟨some 2, _, _, _, _, _⟩) (v := ?qgv8) rfl (by kernel_rfl) (by kernel_rfl) (by kernel_rfl) (fun _ _ _ h => h) (Or.inl ⟨by rfl, ?qghy8⟩) hHeld ?qgr8
      case qghy8 => (intro w hSw; (try dsimp only at hSw); go_simp; (try with_reducible rfl))
      (try simp only [Act.put, List.setIfInBounds_toArray, List.set_cons_zero, List.set_cons_succ])
      refine wpAnyH_ready (rs := [9]) (by kernel_rfl) (by simp) ?qgc9
      refine AllReadyH.cons (o := ⟨none, _, _, _, _, _⟩) rfl (fun K hK => ?qgst9) AllReadyH.nil
      (rw [if_pos (by rfl)]; refine wp_kn_storeW KN 25 _ _ rfl _ rfl #[.int .i64 s2.p.1, .int .i64 s2.p.2] rfl _ _ (by repeat (first | exact Repl.here | apply Repl.there)) (by kernel_rfl) (by kernel_rfl) (by kernel_rfl) ?_; clear KN; intro wx KN)
      refine hK.out _ _ ?qgk9 (fun hHeld2 => ?qgm9)
      case qgk9 => exact KN.at_ (by repeat (first | exact Has.here | refine Has.there ?_))
      clear hK K hHeld
      have hHeld := hHeld2; clear hHeld2
      (try simp only [Act.put, List.setIfInBounds_toArray, List.set_cons_zero, List.set_cons_succ])
      refine wpAnyH_take (i := 10) (oi := ⟨some 4, _, _, _, _, _⟩) (v := ?qgv10) rfl (by kernel_rfl) (by kernel_rfl) (by kernel_rfl) (fun _ _ _ h => h) (Or.inl ⟨by rfl, ?qghy10⟩) hHeld ?qgr10
      case qghy10 => (intro w hSw; (try dsimp only at hSw); go_simp; (try with_reducible rfl))
      (try simp only [Act.put, List.setIfInBounds_toArray, List.set_cons_zero, List.set_cons_succ])
      refine wpAnyH_done (by kernel_rfl) ?qgdone _
      go_wp2_with fail
      refine bodyPost_ret (results_tct2 rfl _ _ g3 #[.int .i64 s2.p.1, .int .i64 s2.p.2] (.int .i64 s2.er) (.slice none 0 0) rfl rfl (run_loadVar_row _ g3 _ _ _ (0, 0) _ (KN.at_ (by repeat (first | exact Has.here | refine Has.there ?_))) Tryd.underlying25 rfl (by kernel_rfl)) rfl) rfl ?_
      exact HOUT.out _ _ ⟨.slice none 0 0, [], by rw [HSP.out.2], by rw [HSP.out.2]; exact .nil, KN.frame0⟩
end Go.Proofs.YtgeeklgojjcdmaaDoor
