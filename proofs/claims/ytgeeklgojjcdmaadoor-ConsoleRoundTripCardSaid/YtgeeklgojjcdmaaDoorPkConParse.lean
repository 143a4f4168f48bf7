/- The console's ParseScript. -/
import Derived.Test.YtgeeklgojjcdmaaDoorPkConP1
import Derived.Test.YtgeeklgojjcdmaaDoorPkAsmT
set_option linter.unusedVariables false
set_option linter.unusedSimpArgs false
set_option linter.unusedSectionVars false
namespace Go.Proofs.YtgeeklgojjcdmaaDoor
open Go.RowKit Go.BigFrame

theorem results_tct2 {P : Program} {fn : Func} {p s r : Tmp} {ty : TypeId} (h : fn.results = #[.tmp r, .cell p ty, .tmp s]) (tmps : Array Value) (w : World) (g : Nat) (cs : Array Value) (v x : Value)
    (hx : tmps.getD r undef = x) (hp : tmps.getD p undef = .pointer (some ⟨g, 0, none⟩)) (hg : (loadVar ty ⟨g, 0, none⟩).run P w = .ok (.agg cs) w) (hs : tmps.getD s undef = v) :
    (results fn tmps).run P w = .ok (.tuple #[x, .agg cs, v]) w := by
  have hp' : tmps[p]?.getD undef = .pointer (some ⟨g, 0, none⟩) := by simpa using hp
  have hs' : tmps[s]?.getD undef = v := by simpa using hs
  have hx' : tmps[r]?.getD undef = x := by simpa using hx
  simp [results, h, hp', hs', hx', asAddr, hg]
theorem tkind_lt {d : List Tok} {i : Nat} (h : ¬ (tk d i).kind = 0) : i < d.length := by
  rcases Nat.lt_or_ge i d.length with h1 | h1
  · exact h1
  · exact absurd (by rw [tk_out h1]) h
theorem isP_lt2 {d : List Tok} {i : Nat} {m : List UInt8} (h : isP d i m = true) : i < d.length := by
  unfold isP at h
  rw [Bool.and_eq_true, decide_eq_true_eq] at h
  exact tkind_lt (by rw [h.1]; decide)
theorem sTail_next {d : List Tok} {k J j : Nat} {e : Ev} (h : sTail d k J = .ok (e, j)) : J + 1 ≤ j ∧ j ≤ d.length := by
  have key : ∀ (q : Nat) (ev : Ev), J ≤ q → (if isP d q [59] = true then (Except.ok (ev, q + 1) : Except AErr (Ev × Nat)) else .error (q, 50)) = .ok (e, j) → J + 1 ≤ j ∧ j ≤ d.length := by
    intro q ev hq h
    split at h
    · rename_i hp
      simp only [Except.ok.injEq, Prod.mk.injEq] at h
      obtain ⟨_, rfl⟩ := h
      have := isP_lt2 hp
      omega
    · cases h
  unfold sTail at h
  cases hA : (if evCore k = true then sNum d J else .ok 0) with
  | error q => rw [hA] at h; cases h
  | ok c =>
    rw [hA] at h
    dsimp only at h
    cases hB : (if evNum k = true then sNum d (if evCore k = true then J + 1 else J) else .ok 0) with
    | error q => rw [hB] at h; cases h
    | ok m =>
      rw [hB] at h
      exact key _ _ (by split <;> split <;> omega) h
theorem sVerb_next {d : List Tok} {n J j : Nat} {c : Int} {e : Ev} (h : sVerb d n c J = .ok (e, j)) : J + 2 ≤ j ∧ j ≤ d.length ∧ (n : Int) + c ≤ 100000 := by
  unfold sVerb at h
  split at h
  · split at h
    · cases h
    · have := sTail_next h
      omega
  · cases h
theorem withCount_ok {c c' : Int} {x : Except AErr (Ev × Nat)} {e : Ev} {j : Nat} (h : withCount c x = .ok (e, c', j)) : c' = c ∧ x = .ok (e, j) := by
  cases x with
  | error q => cases h
  | ok y =>
    obtain ⟨a, b⟩ := y
    simp only [withCount, Except.ok.injEq, Prod.mk.injEq] at h
    obtain ⟨rfl, rfl, rfl⟩ := h
    exact ⟨rfl, rfl⟩
theorem sItem_next {d : List Tok} {n i j : Nat} {c : Int} {e : Ev} (h : sItem d n i = .ok (e, c, j)) : i < j ∧ j ≤ d.length ∧ 1 ≤ c ∧ (n : Int) + c ≤ 100000 := by
  unfold sItem at h
  split at h
  · split at h
    · cases h
    · split at h
      · obtain ⟨e1, h1⟩ := withCount_ok h
        have := sVerb_next h1
        omega
      · cases h
  · obtain ⟨e1, h1⟩ := withCount_ok h
    have := sVerb_next h1
    omega
abbrev evRows (l : List Ev) : List (List Value) := l.map fun e => e.cells.toList
def ScriptOut (l : List UInt8) (w : World) (e : Ending) (w' : World) : Prop :=
  ∃ (v : Value) (ol : Ents), e = .returned (.tuple #[v, .agg #[.int .i64 (script l).2.1.1, .int .i64 (script l).2.1.2], .int .i64 (script l).2.2]) ∧ OwnT 35 3 v (evRows (script l).1) ol ∧ Kn [] w w' ol
def conAt (g : Nat) (w : World) : Nat := match w.cell? ⟨g, 1, none⟩ with | some (.int _ n) => n.toNat | _ => 0
theorem conAt_eq {M : List Nat} {W w : World} {l : Ents} {g i : Nat} {tv : Value} {el ec er : Int} {p : Int × Int} {T : TypeId} (KN : Kn M W w l) (m : Has l g (At (conC tv i el ec p er) T)) : conAt g w = i := by
  unfold conAt; rw [KN.cell m (o := 1) (v := .int .i64 (i : Int)) rfl]; rfl
/-- Between two items. -/
def ItemsRel (W : World) (g : Nat) (tv : Value) (el ec : Int) (d : List Tok) (r0 : Except AErr (List Ev)) (s10 : Value) (wr : World) : Prop :=
  ∃ (f i : Nat) (out : List Ev) (ol : Ents), r0 = sAll d f i out ∧ d.length ≤ f + i ∧ i ≤ d.length ∧ out.length ≤ 100000 ∧ OwnT 35 3 s10 (evRows out) ol ∧ Kn [] W wr ((g, At (conC tv i el ec (0, 0) 0) 44) :: ol)
/-- Among the copies of one event. -/
def CopyRel (W : World) (g g11 : Nat) (tv : Value) (j : Nat) (el ec : Int) (out : List Ev) (ev : Ev) (c : Nat) (s10 s63 : Value) (wr : World) : Prop :=
  ∃ (k : Nat) (ol : Ents), s63 = .int .i64 (k : Int) ∧ k ≤ c ∧ OwnT 35 3 s10 (evRows (out ++ List.replicate k ev)) ol ∧ Kn [] W wr ((g11, At ev.cells 35) :: (g, At (conC tv j el ec (0, 0) 0) 44) :: ol)
theorem ItemOut.ok {W : World} {g : Nat} {tv : Value} {el ec : Int} {d : List Tok} {p : Int × Int} {er : Int} {l : Ents} {r : Except AErr (Ev × Int × Nat)} {e : Ending} {w' : World} (h : ItemOut W g tv el ec d p er l r e w') {ev : Ev} {c : Int} {j : Nat} (hr : r = .ok (ev, c, j)) :
    e = .returned (.tuple #[.agg ev.cells, .int .i64 c, .bool true]) ∧ Kn [] W w' ((g, At (conC tv j el ec p er) 44) :: l) := by
  rcases h with ⟨ev', c', j', h1, h2, h3⟩ | ⟨a, _, _, _, _, _, h1, _⟩
  · rw [hr] at h1
    simp only [Except.ok.injEq, Prod.mk.injEq] at h1
    obtain ⟨rfl, rfl, rfl⟩ := h1
    exact ⟨h2, h3⟩
  · rw [hr] at h1; cases h1
theorem ItemOut.err {W : World} {g : Nat} {tv : Value} {el ec : Int} {d : List Tok} {p : Int × Int} {er : Int} {l : Ents} {r : Except AErr (Ev × Int × Nat)} {e : Ending} {w' : World} (h : ItemOut W g tv el ec d p er l r e w') {a : AErr} (hr : r = .error a) :
    ∃ (x y z u : Int) (j : Nat), e = .returned (.tuple #[.agg #[.int .i64 x, .int .i64 y, .int .i64 z], .int .i64 u, .bool false]) ∧ Kn [] W w' ((g, At (conC tv j el ec (posE el ec d a.1) a.2) 44) :: l) := by
  rcases h with ⟨ev', c', j', h1, _⟩ | ⟨a', x, y, z, u, j, h1, h2, h3⟩
  · rw [hr] at h1; cases h1
  · rw [hr] at h1
    injection h1 with h1
    subst h1
    exact ⟨x, y, z, u, j, h2, h3⟩
def finS (l : List UInt8) (d : List Tok) : Except AErr (List Ev) → List Ev × (Int × Int) × Int
  | .error x => ([], tpos l d x.1, x.2)
  | .ok out => (out, (0, 0), 0)
theorem Kn.base1 {w w1 wz : World} {a c : Nat × (Obj → Prop)} {X tl : Ents} (K0 : Kn [] w w1 (c :: tl)) (KN : Kn [] w1 wz (a :: X)) : Kn [] w wz (a :: c :: (X ++ tl)) :=
  (K0.call0 KN).perm (List.Perm.cons _ List.perm_middle)
theorem posE_tpos {l : List UInt8} {d : List Tok} {el ec : Int} (h : adv l (1, 1) = (el, ec)) (i : Nat) : posE el ec d i = tpos l d i := by
  unfold posE tpos
  cases d[i]? with
  | none => exact h.symm
  | some t => rfl
theorem evRows_snoc (out : List Ev) (k : Nat) (ev : Ev) : evRows (out ++ List.replicate k ev) ++ [ev.cells.toList] = evRows (out ++ List.replicate (k + 1) ev) := by
  unfold evRows
  rw [List.map_append, List.map_append, List.map_replicate, List.map_replicate, List.append_assoc, List.replicate_succ']
set_option maxRecDepth 100000 in
set_option maxHeartbeats 8000000 in
theorem ParseScript_any (s : ByteArray) (w : World) (hs : s.size ≤ maxLen) : Calls Tryd.prog 6 #[.string s] w (ScriptOut s.data.toList w) := by
  have KN := Kn.start w
  obtain ⟨d, hd⟩ : ∃ d, d = (scanRes s.data.toList).1 := ⟨_, rfl⟩
  obtain ⟨a, ha⟩ : ∃ a, a = (scanRes s.data.toList).2.1 := ⟨_, rfl⟩
  obtain ⟨b, hb⟩ : ∃ b, b = (scanRes s.data.toList).2.2.1 := ⟨_, rfl⟩
  obtain ⟨er, her⟩ : ∃ er, er = (scanRes s.data.toList).2.2.2 := ⟨_, rfl⟩
  have hsr : scanRes s.data.toList = (d, a, b, er) := by rw [hd, ha, hb, her]
  have hsc : ∀ w0, ∀ e w', ScanPost s.data.toList w0 e w' → ∃ ta tc ol, e = .returned (.tuple #[.slice ta d.length tc, .agg #[.int .i64 a, .int .i64 b], .int .i64 er]) ∧ TokRd w' (.slice ta d.length tc) d ∧ Kn [] w0 w' ol := by
    rintro w0 e w' ⟨v, rfl, hown, hbel⟩
    rw [flat_map, ← hd] at hown
    obtain ⟨ol, h1, h2⟩ := Kn.of_owned hbel (tok_len d) (by rw [List.length_map]) hown
    obtain ⟨ta, tc, hv⟩ := h1.form
    rw [List.length_map] at hv
    subst hv
    exact ⟨ta, tc, ol, by rw [ha, hb, her], TokRd.of_own h1 h2 (fun x hx => hx), h2⟩
  have HSC := Lib.hid hsc
  have HS := Lib.hid hs
  obtain ⟨AS, hAS⟩ : ∃ AS, AS = script s.data.toList := ⟨_, rfl⟩
  have HOUT : Hid (∀ (e : Ending) (w' : World), (∃ (v : Value) (ol : Ents), e = .returned (.tuple #[v, .agg #[.int .i64 AS.2.1.1, .int .i64 AS.2.1.2], .int .i64 AS.2.2]) ∧ OwnT 35 3 v (evRows AS.1) ol ∧ Kn [] w w' ol) → ScriptOut s.data.toList w e w') := Lib.hid (fun e w' h => by
    unfold ScriptOut
    rw [← hAS]
    exact h)
  have HAE : Hid (¬ er = 0 → AS = ([], (a, b), er)) := Lib.hid (fun h => by
    rw [hAS]
    unfold script
    rw [hsr]
    show (if ¬ er = 0 then _ else _) = _
    rw [if_pos h])
  have HAO : Hid (er = 0 → AS = finS s.data.toList d (sAll d d.length 0 [])) := Lib.hid (fun h => by
    rw [hAS]
    unfold script
    rw [hsr]
    show (if ¬ er = 0 then _ else _) = _
    rw [if_neg (by simpa using h)]
    cases sAll d d.length 0 [] <;> rfl)
  have HDL : Hid (d.length ≤ 65536) := Lib.hid (by rw [hd]; exact scanRes_len _)
  have HVAL : Hid (∀ t ∈ d, 0 ≤ t.raw.value ∧ t.raw.value ≤ 18446744073709551615) := Lib.hid (by rw [hd]; exact scanRes_val _)
  have HSZ : Hid (er = 0 → s.size ≤ 65536) := Lib.hid (fun h => by
    rcases Nat.lt_or_ge 65536 s.size with h1 | h1
    · rw [her, scanRes_long (l := s.data.toList) h1] at h
      exact absurd h (by decide)
    · exact h1)
  have hend := adv_end s
  have hbd := adv_bd s s.size (Nat.le_refl _)
  rw [List.take_of_length_le (show s.data.toList.length ≤ s.size from Nat.le_refl _), hend] at hbd
  obtain ⟨el, hel⟩ : ∃ el : Int, el = (Lib.countByte s.data.toList 10 : Int) + 1 := ⟨_, rfl⟩
  obtain ⟨ec, hec⟩ : ∃ ec : Int, ec = (s.size : Int) - Lib.lastIndexByte s 10 := ⟨_, rfl⟩
  rw [← hel, ← hec] at hend hbd
  have HEND := Lib.hid hend
  have HBD := Lib.hid hbd
  have HEL := Lib.hid hel
  have HEC := Lib.hid hec
  generalize ScriptOut s.data.toList w = POST at HOUT ⊢
  clear hd ha hb her hsr hsc hAS hs hend hbd hel hec
  by_cases he : er = 0
  · subst he
    have hsz := HSZ.out rfl
    have HSS : Hid (s.size < 4611686018427387904) := Lib.hid (by omega)
    have HAS0 := Lib.hid (HAO.out rfl)
    obtain ⟨r0, hr0⟩ : ∃ r0, r0 = sAll d d.length 0 [] := ⟨_, rfl⟩
    have HAR : Hid (AS = finS s.data.toList d r0) := Lib.hid (by rw [hr0]; exact HAS0.out)
    have HR0 := Lib.hid hr0
    have e0 : ((0 : Int) != 0) = false := rfl
    clear hr0 HAE HAO HSZ HAS0
    go_enter Tryd.func6, Tryd.ntmps6
    go_upto_region 5 with (first | (go_at_call 12; refine (ScanP_any s _ HS.out).mono ?_; intro e w1 hp; obtain ⟨ta, tc, tl, rfl, hrd, K2⟩ := HSC.out _ _ _ hp; have K0 := Lib.hid ((KN.call0 K2).perm List.perm_append_comm); have HRD := Lib.hid hrd; clear KN K2 hp hrd; have KN := Kn.start w1) | (go_at_call 13; refine (Tryd.strings_LastIndexByte s _ HSS.out _).mono ?_; rintro e w' ⟨rfl, rfl⟩) | ((with_reducible refine wpList_gate ?_); first | ((with_reducible refine gate_load ?_ ?_); rfl; first | (refine ks_loadW KN 25 Tryd.underlying25 ?_) | (refine ks_load1 KN 3 Tryd.underlying3 ?_) | (refine ks_load1 KN 26 Tryd.underlying26 ?_) | (refine ks_loadW KN 35 Tryd.underlying35 ?_)) | ((with_reducible refine gate_store ?_ ?_); rfl; first | (refine ks_storeW KN 25 ?_; clear KN; intro wx KN) | (refine ks_storeA KN 25 ?_; clear KN; intro wx KN) | (refine ks_storeW KN 35 ?_; clear KN; intro wx KN) | (refine ks_storeA KN 35 ?_; clear KN; intro wx KN)) | ((with_reducible refine gate_new ?_ ?_); rfl; first | (refine ks_alloc KN 25 (q := 3) #[.int .i64 0, .int .i64 0] ?_; clear KN; intro g3 wx hg3 KN) | (refine ks_alloc KN 25 (q := 6) #[.int .i64 0, .int .i64 0] ?_; clear KN; intro g6 wx hg6 KN) | (refine ks_boxA KN 44 (q := 36) ?_; clear KN; intro g36 wx hg36 KN) | (refine ks_alloc KN 35 (q := 11) #[.int .i64 0, .int .i64 0, .int .i64 0] ?_; clear KN; intro g11 wx hg11 KN) | (refine wpList_built rfl 25 #[] rfl #[.int .i64 0, .int .i64 0] (by kernel_rfl) ?_))))
    (try go_frame)
    go_upto_region 6 with (first | (go_at_call 14; refine (Tryd.strings_Count_one s 10 _).mono ?_; rintro e w9 ⟨rfl, rfl⟩) | ((with_reducible refine wpList_gate ?_); first | ((with_reducible refine gate_load ?_ ?_); rfl; first | (refine ks_loadW KN 25 Tryd.underlying25 ?_) | (refine ks_load1 KN 3 Tryd.underlying3 ?_) | (refine ks_load1 KN 26 Tryd.underlying26 ?_) | (refine ks_loadW KN 35 Tryd.underlying35 ?_)) | ((with_reducible refine gate_store ?_ ?_); rfl; first | (refine ks_storeW KN 25 ?_; clear KN; intro wx KN) | (refine ks_storeA KN 25 ?_; clear KN; intro wx KN) | (refine ks_storeW KN 35 ?_; clear KN; intro wx KN) | (refine ks_storeA KN 35 ?_; clear KN; intro wx KN)) | ((with_reducible refine gate_new ?_ ?_); rfl; first | (refine wpList_built rfl 25 _ rfl #[.int .i64 (wrap64 ((Lib.countByte s.data.toList 10 : Int) + 1)), .int .i64 (wrap64 ((s.size : Int) - Lib.lastIndexByte s 10))] (by kernel_rfl) ?_) | (refine wpList_built rfl 44 _ rfl #[.slice ta d.length tc, .int .i64 0, .int .i64 (wrap64 ((Lib.countByte s.data.toList 10 : Int) + 1)), .int .i64 (wrap64 ((s.size : Int) - Lib.lastIndexByte s 10)), .int .i64 0, .int .i64 0, .int .i64 0] (by kernel_rfl) ?_) | (refine ks_alloc KN 25 (q := 3) #[.int .i64 0, .int .i64 0] ?_; clear KN; intro g3 wx hg3 KN) | (refine ks_alloc KN 25 (q := 6) #[.int .i64 0, .int .i64 0] ?_; clear KN; intro g6 wx hg6 KN) | (refine ks_boxA KN 44 (q := 36) ?_; clear KN; intro g36 wx hg36 KN) | (refine ks_alloc KN 35 (q := 11) #[.int .i64 0, .int .i64 0, .int .i64 0] ?_; clear KN; intro g11 wx hg11 KN) | (refine wpList_built rfl 25 #[] rfl #[.int .i64 0, .int .i64 0] (by kernel_rfl) ?_))))
    (try go_frame)
    have hbd := HBD.out
    have hw1 : wrap64 ((Lib.countByte s.data.toList 10 : Int) + 1) = el := by rw [← HEL.out]; unfold wrap64; have h1 := hbd.1; have h2 := hbd.2.1; omega
    have hw2 : wrap64 ((s.size : Int) - Lib.lastIndexByte s 10) = ec := by rw [← HEC.out]; unfold wrap64; have h1 := hbd.2.2.1; have h2 := hbd.2.2.2; omega
    replace KN := KN.as_ g36 (conC (.slice ta d.length tc) 0 el ec (0, 0) 0) (by repeat (first | exact Repl.here | apply Repl.there)) (by rw [← hw1, ← hw2]; rfl)
    clear hbd hw1 hw2
    obtain ⟨tv, htv⟩ : ∃ tv, tv = Value.slice ta d.length tc := ⟨_, rfl⟩
    rw [← htv] at KN HRD
    have HTV := Lib.hid htv
    clear htv
    go_wp2_with fail
    go_loopw [10, 11, 12, 13] (fun s10 _ _ _ wr => ItemsRel w1 g36 tv el ec d r0 s10 wr) (fun _ _ _ _ wr => d.length - conAt g36 wr)
    case atStart => exact ⟨d.length, 0, [], [], HR0.out, by omega, by omega, by decide, .nil, KN.pick⟩
    case round =>
      clear KN
      obtain ⟨f, i, out, ol, hr, hf, hi, hol, OW, KN⟩ := hrel
      obtain ⟨n, hn⟩ : ∃ n, n = out.length := ⟨_, rfl⟩
      obtain ⟨oa, oc, hov⟩ := OW.form
      rw [show (evRows out).length = n from by rw [hn]; exact List.length_map ..] at hov
      subst hov
      have HOW := Lib.hid OW
      have HR := Lib.hid hr
      have HN := Lib.hid hn
      have HME : Hid (conAt g36 wr = i) := Lib.hid (conAt_eq KN .here)
      rw [← hn] at hol
      have hdl := HDL.out
      clear hr hn OW
      by_cases hlt : i < d.length
      · have HRS : Hid (r0 = (match sItem d n i with | .error q => .error q | .ok (e, c, j) => sAll d (f - 1) j (out ++ List.replicate c.toNat e))) := Lib.hid (by
          obtain ⟨f, rfl⟩ : ∃ f', f = f' + 1 := ⟨f - 1, by omega⟩
          rw [HR.out, sAll, if_pos hlt, ← HN.out]
          rfl)
        cases hI : sItem d n i with
        | error q =>
          have HI := Lib.hid hI
          have HAQ : Hid (AS = ([], posE el ec d q.1, q.2)) := Lib.hid (by rw [HAR.out, HRS.out, hI, posE_tpos HEND.out]; rfl)
          clear hI
          go_upto_region 10 with (first | (go_at_call 15; refine (con_item KN HRD.out hdl (by omega) HVAL.out hol).mono ?_; intro e9 wx hp; obtain ⟨x9, y9, z9, u9, j9, rfl, K2⟩ := hp.err HI.out; replace KN := K2; clear K2 hp) | ((with_reducible refine wpList_gate ?_); first | ((with_reducible refine gate_load ?_ ?_); rfl; first | (refine ks_loadW KN 25 Tryd.underlying25 ?_) | (refine ks_load1 KN 3 Tryd.underlying3 ?_) | (refine ks_load1 KN 26 Tryd.underlying26 ?_) | (refine ks_loadW KN 35 Tryd.underlying35 ?_)) | ((with_reducible refine gate_store ?_ ?_); rfl; first | (refine ks_storeW KN 25 ?_; clear KN; intro wx KN) | (refine ks_storeA KN 25 ?_; clear KN; intro wx KN) | (refine ks_storeW KN 35 ?_; clear KN; intro wx KN) | (refine ks_storeA KN 35 ?_; clear KN; intro wx KN)) | ((with_reducible refine gate_new ?_ ?_); rfl; first | (refine ks_alloc KN 25 (q := 3) #[.int .i64 0, .int .i64 0] ?_; clear KN; intro g3 wx hg3 KN) | (refine ks_alloc KN 25 (q := 6) #[.int .i64 0, .int .i64 0] ?_; clear KN; intro g6 wx hg6 KN) | (refine ks_boxA KN 44 (q := 36) ?_; clear KN; intro g36 wx hg36 KN) | (refine ks_alloc KN 35 (q := 11) #[.int .i64 0, .int .i64 0, .int .i64 0] ?_; clear KN; intro g11 wx hg11 KN) | (refine wpList_built rfl 25 #[] rfl #[.int .i64 0, .int .i64 0] (by kernel_rfl) ?_))))
          (try go_frame)
          replace KN := Kn.base1 K0.out (KN.mv g36)
          replace KN := KN.drew
          refine wp_region_held_drew (S := (fun w' => BlkT w' g36 (conC tv j9 el ec (posE el ec d q.1) q.2) 44)) (by kernel_rfl) ?qbhS (fun hHeld => ?qbrest)
          case qbhS => exact KN.at_ (by repeat (first | exact Has.here | refine Has.there ?_))
          refine wpAnyH_take (i := 0) (oi := ⟨some 54, _, _, _, _, _⟩) (v := ?qbv0) rfl (by kernel_rfl) (by kernel_rfl) (by kernel_rfl) (fun _ _ _ h => h) (Or.inl ⟨by rfl, ?qbhy0⟩) hHeld ?qbr0
          case qbhy0 => (intro w hSw; (try dsimp only at hSw); go_simp; (try with_reducible rfl))
          (try simp only [Act.put, List.setIfInBounds_toArray, List.set_cons_zero, List.set_cons_succ])
          refine wpAnyH_take (i := 1) (oi := ⟨some 55, _, _, _, _, _⟩) (v := ?qbv1) rfl (by kernel_rfl) (by kernel_rfl) (by kernel_rfl) (fun _ _ _ h => h) (Or.inl ⟨by rfl, ?qbhy1⟩) hHeld ?qbr1
          case qbhy1 => (intro w hSw; (try dsimp only at hSw); go_simp; (try with_reducible rfl))
          (try simp only [Act.put, List.setIfInBounds_toArray, List.set_cons_zero, List.set_cons_succ])
          refine wpAnyH_take (i := 2) (oi := ⟨some 56, _, _, _, _, _⟩) (v := ?qbv2) rfl (by kernel_rfl) (by kernel_rfl) (by kernel_rfl) (fun _ _ _ h => h) (Or.inl ⟨by rfl, ?qbhy2⟩) hHeld ?qbr2
          case qbhy2 => (intro w hSw; (try dsimp only at hSw); go_simp; (try with_reducible rfl))
          (try simp only [Act.put, List.setIfInBounds_toArray, List.set_cons_zero, List.set_cons_succ])
          refine wpAnyH_take (i := 3) (oi := ⟨some 57, _, _, _, _, _⟩) (v := (.agg #[.int .i64 (posE el ec d q.1).1, .int .i64 (posE el ec d q.1).2])) rfl (by kernel_rfl) (by kernel_rfl) (by kernel_rfl) (fun _ _ _ h => h) (kn_yieldsN (by rfl) 25 _ rfl g36 4 rfl _ 44 (fun _ h => h) #[.int .i64 (posE el ec d q.1).1, .int .i64 (posE el ec d q.1).2] rfl _ Tryd.underlying25 rfl (by kernel_rfl)) hHeld ?qbr3
          (try simp only [Act.put, List.setIfInBounds_toArray, List.set_cons_zero, List.set_cons_succ])
          refine wpAnyH_take (i := 4) (oi := ⟨some 58, _, _, _, _, _⟩) (v := ?qbv4) rfl (by kernel_rfl) (by kernel_rfl) (by kernel_rfl) (fun _ _ _ h => h) (Or.inl ⟨by rfl, ?qbhy4⟩) hHeld ?qbr4
          case qbhy4 => (intro w hSw; (try dsimp only at hSw); go_simp; (try with_reducible rfl))
          (try simp only [Act.put, List.setIfInBounds_toArray, List.set_cons_zero, List.set_cons_succ])
          refine wpAnyH_take (i := 5) (oi := ⟨some 59, _, _, _, _, _⟩) (v := ?qbv5) rfl (by kernel_rfl) (by kernel_rfl) (by kernel_rfl) (fun _ _ _ h => h) (Or.inl ⟨by rfl, ?qbhy5⟩) hHeld ?qbr5
          case qbhy5 => (intro w hSw; (try dsimp only at hSw); go_simp; (try with_reducible rfl))
          (try simp only [Act.put, List.setIfInBounds_toArray, List.set_cons_zero, List.set_cons_succ])
          refine wpAnyH_take (i := 6) (oi := ⟨some 60, _, _, _, _, _⟩) (v := ?qbv6) rfl (by kernel_rfl) (by kernel_rfl) (by kernel_rfl) (fun _ _ _ h => h) (Or.inl ⟨by rfl, ?qbhy6⟩) hHeld ?qbr6
          case qbhy6 => (intro w hSw; (try dsimp only at hSw); go_simp; (try with_reducible rfl))
          (try simp only [Act.put, List.setIfInBounds_toArray, List.set_cons_zero, List.set_cons_succ])
          refine wpAnyH_take (i := 7) (oi := ⟨some 61, _, _, _, _, _⟩) (v := (.int .i64 q.2)) rfl (by kernel_rfl) (by kernel_rfl) (by kernel_rfl) (fun _ _ _ h => h) (kn_yields1 (by rfl) 26 _ rfl g36 6 rfl _ 44 (fun _ h => h) _ rfl _ Tryd.underlying26 rfl) hHeld ?qbr7
          (try simp only [Act.put, List.setIfInBounds_toArray, List.set_cons_zero, List.set_cons_succ])
          refine wpAnyH_take (i := 8) (oi := ⟨some 2, _, _, _, _, _⟩) (v := ?qbv8) rfl (by kernel_rfl) (by kernel_rfl) (by kernel_rfl) (fun _ _ _ h => h) (Or.inl ⟨by rfl, ?qbhy8⟩) hHeld ?qbr8
          case qbhy8 => (intro w hSw; (try dsimp only at hSw); go_simp; (try with_reducible rfl))
          (try simp only [Act.put, List.setIfInBounds_toArray, List.set_cons_zero, List.set_cons_succ])
          refine wpAnyH_ready (rs := [9]) (by kernel_rfl) (by simp) ?qbc9
          refine AllReadyH.cons (o := ⟨none, _, _, _, _, _⟩) rfl (fun K hK => ?qbst9) AllReadyH.nil
          (rw [if_pos (by rfl)]; refine wp_kn_storeW KN 25 _ _ rfl _ rfl #[.int .i64 (posE el ec d q.1).1, .int .i64 (posE el ec d q.1).2] rfl _ _ (by repeat (first | exact Repl.here | apply Repl.there)) (by kernel_rfl) (by kernel_rfl) (by kernel_rfl) ?_; clear KN; intro wx KN)
          refine hK.out _ _ ?qbk9 (fun hHeld2 => ?qbm9)
          case qbk9 => exact KN.at_ (by repeat (first | exact Has.here | refine Has.there ?_))
          clear hK K hHeld
          have hHeld := hHeld2; clear hHeld2
          (try simp only [Act.put, List.setIfInBounds_toArray, List.set_cons_zero, List.set_cons_succ])
          refine wpAnyH_take (i := 10) (oi := ⟨some 4, _, _, _, _, _⟩) (v := ?qbv10) rfl (by kernel_rfl) (by kernel_rfl) (by kernel_rfl) (fun _ _ _ h => h) (Or.inl ⟨by rfl, ?qbhy10⟩) hHeld ?qbr10
          case qbhy10 => (intro w hSw; (try dsimp only at hSw); go_simp; (try with_reducible rfl))
          (try simp only [Act.put, List.setIfInBounds_toArray, List.set_cons_zero, List.set_cons_succ])
          refine wpAnyH_done (by kernel_rfl) ?qbdone _
          go_wp2_with fail
          refine bodyPost_ret (results_tct2 rfl _ _ g3 #[.int .i64 (posE el ec d q.1).1, .int .i64 (posE el ec d q.1).2] (.int .i64 q.2) (.slice none 0 0) rfl rfl (run_loadVar_row _ g3 _ _ _ (0, 0) _ (KN.at_ (by repeat (first | exact Has.here | refine Has.there ?_))) Tryd.underlying25 rfl (by kernel_rfl)) rfl) rfl ?_
          exact HOUT.out _ _ ⟨.slice none 0 0, [], by rw [HAQ.out], by rw [HAQ.out]; exact .nil, KN.frame0⟩
        | ok y =>
          obtain ⟨ev, c, j⟩ := y
          have HI := Lib.hid hI
          have HNX := Lib.hid (sItem_next hI)
          have hc := sItem_next hI
          have hc0 : 0 ≤ c := by omega
          obtain ⟨cn, hcn⟩ := Int.eq_ofNat_of_zero_le hc0
          subst hcn
          have hcb : n + cn ≤ 100000 := by omega
          have HRT : Hid (r0 = sAll d (f - 1) j (out ++ List.replicate cn ev)) := Lib.hid (by rw [HRS.out, hI]; rfl)
          clear hI hc hc0
          go_wp2_with (first | (go_at_call 15; refine (con_item KN HRD.out hdl (by omega) HVAL.out hol).mono ?_; intro e9 wx hp; obtain ⟨rfl, K2⟩ := hp.ok HI.out; replace KN := K2; clear K2 hp) | ((with_reducible refine wpList_gate ?_); first | ((with_reducible refine gate_load ?_ ?_); rfl; first | (refine ks_loadW KN 25 Tryd.underlying25 ?_) | (refine ks_load1 KN 3 Tryd.underlying3 ?_) | (refine ks_load1 KN 26 Tryd.underlying26 ?_) | (refine ks_loadW KN 35 Tryd.underlying35 ?_)) | ((with_reducible refine gate_store ?_ ?_); rfl; first | (refine ks_storeW KN 25 ?_; clear KN; intro wx KN) | (refine ks_storeA KN 25 ?_; clear KN; intro wx KN) | (refine ks_storeW KN 35 ?_; clear KN; intro wx KN) | (refine ks_storeA KN 35 ?_; clear KN; intro wx KN)) | ((with_reducible refine gate_new ?_ ?_); rfl; first | (refine ks_alloc KN 25 (q := 3) #[.int .i64 0, .int .i64 0] ?_; clear KN; intro g3 wx hg3 KN) | (refine ks_alloc KN 25 (q := 6) #[.int .i64 0, .int .i64 0] ?_; clear KN; intro g6 wx hg6 KN) | (refine ks_boxA KN 44 (q := 36) ?_; clear KN; intro g36 wx hg36 KN) | (refine ks_alloc KN 35 (q := 11) #[.int .i64 0, .int .i64 0, .int .i64 0] ?_; clear KN; intro g11 wx hg11 KN) | (refine wpList_built rfl 25 #[] rfl #[.int .i64 0, .int .i64 0] (by kernel_rfl) ?_))))
          go_loopw [10, 63] (fun s10 s63 wr => CopyRel w1 g36 g11 tv j el ec out ev cn s10 s63 wr) (fun _ s63 _ => cn - (intOf s63).toNat)
          case atStart => exact ⟨0, ol, rfl, Nat.zero_le _, by rw [List.replicate_zero, List.append_nil]; exact HOW.out, KN⟩
          case round =>
            clear KN
            obtain ⟨k, ol2, rfl, hk, OW2, KN⟩ := hrel
            have HL2 : Hid ((evRows (out ++ List.replicate k ev)).length = n + k) := Lib.hid (by rw [List.length_map, List.length_append, List.length_replicate, HN.out])
            obtain ⟨pa, pc, hpv⟩ := OW2.form
            rw [HL2.out] at hpv
            subst hpv
            have HO2 := Lib.hid OW2
            clear OW2
            by_cases hkc : k < cn
            · go_wp2_with (first | ((with_reducible refine wpList_gate ?_); first | (refine wpList_kn_lit KN rfl 22 35 1 _ rfl 67 rfl Tryd.underlying22 ev.cells (by kernel_rfl) ?_; clear KN; intro g67 wx hg67 KN) | (at_builtin; (refine wpList_kn_append1 KN HO2.out (by rfl) _ _ 22 rfl 24 Tryd.underlying22 (by kernel_rfl) (by decide) rfl 1 rfl rfl (by kernel_rfl) (by rw [HL2.out]; unfold maxLen; omega) (by rw [HL2.out]; omega) (f := fun o => (g11, _) :: (g36, _) :: o) (TailF.cons _ (TailF.cons _ TailF.id)) rfl ?_); clear KN; intro v3 wx ol3 OW3 KN) | ((with_reducible refine gate_load ?_ ?_); rfl; first | (refine ks_loadW KN 25 Tryd.underlying25 ?_) | (refine ks_load1 KN 3 Tryd.underlying3 ?_) | (refine ks_load1 KN 26 Tryd.underlying26 ?_) | (refine ks_loadW KN 35 Tryd.underlying35 ?_)) | ((with_reducible refine gate_store ?_ ?_); rfl; first | (refine ks_storeW KN 25 ?_; clear KN; intro wx KN) | (refine ks_storeA KN 25 ?_; clear KN; intro wx KN) | (refine ks_storeW KN 35 ?_; clear KN; intro wx KN) | (refine ks_storeA KN 35 ?_; clear KN; intro wx KN)) | ((with_reducible refine gate_new ?_ ?_); rfl; first | (refine ks_alloc KN 25 (q := 3) #[.int .i64 0, .int .i64 0] ?_; clear KN; intro g3 wx hg3 KN) | (refine ks_alloc KN 25 (q := 6) #[.int .i64 0, .int .i64 0] ?_; clear KN; intro g6 wx hg6 KN) | (refine ks_boxA KN 44 (q := 36) ?_; clear KN; intro g36 wx hg36 KN) | (refine ks_alloc KN 35 (q := 11) #[.int .i64 0, .int .i64 0, .int .i64 0] ?_; clear KN; intro g11 wx hg11 KN) | (refine wpList_built rfl 25 #[] rfl #[.int .i64 0, .int .i64 0] (by kernel_rfl) ?_))))
              go_roundw
              case rel => exact ⟨k + 1, ol3, by go_num, by omega, by rw [← evRows_snoc]; exact OW3, KN⟩
              case measure => simp [intOf]; omega
            · obtain rfl : k = cn := by omega
              go_wp2_with fail
              go_roundw
              case rel => exact ⟨f - 1, j, out ++ List.replicate k ev, ol2, HRT.out, by have := HNX.out; omega, HNX.out.2.1, by rw [List.length_append, List.length_replicate, ← HN.out]; exact hcb, HO2.out, KN.drop .here⟩
              case measure => (have h1 := conAt_eq KN (.there .here); rw [HME.out, h1]; have h2 := HNX.out; omega)
      · have HAQ : Hid (AS = (out, (0, 0), 0)) := Lib.hid (by
          have hro : r0 = .ok out := by
            rw [HR.out]
            cases f with
            | zero => rfl
            | succ f => rw [sAll, if_neg hlt]
          rw [HAR.out, hro]; rfl)
        go_upto_region 15 with (first | ((with_reducible refine wpList_gate ?_); first | ((with_reducible refine gate_load ?_ ?_); rfl; first | (refine ks_loadW KN 25 Tryd.underlying25 ?_) | (refine ks_load1 KN 3 Tryd.underlying3 ?_) | (refine ks_load1 KN 26 Tryd.underlying26 ?_) | (refine ks_loadW KN 35 Tryd.underlying35 ?_)) | ((with_reducible refine gate_store ?_ ?_); rfl; first | (refine ks_storeW KN 25 ?_; clear KN; intro wx KN) | (refine ks_storeA KN 25 ?_; clear KN; intro wx KN) | (refine ks_storeW KN 35 ?_; clear KN; intro wx KN) | (refine ks_storeA KN 35 ?_; clear KN; intro wx KN)) | ((with_reducible refine gate_new ?_ ?_); rfl; first | (refine ks_alloc KN 25 (q := 3) #[.int .i64 0, .int .i64 0] ?_; clear KN; intro g3 wx hg3 KN) | (refine ks_alloc KN 25 (q := 6) #[.int .i64 0, .int .i64 0] ?_; clear KN; intro g6 wx hg6 KN) | (refine ks_boxA KN 44 (q := 36) ?_; clear KN; intro g36 wx hg36 KN) | (refine ks_alloc KN 35 (q := 11) #[.int .i64 0, .int .i64 0, .int .i64 0] ?_; clear KN; intro g11 wx hg11 KN) | (refine wpList_built rfl 25 #[] rfl #[.int .i64 0, .int .i64 0] (by kernel_rfl) ?_))))
        (try go_frame)
        replace KN := Kn.base1 K0.out KN
        go_wp2_with (first | ((with_reducible refine wpList_gate ?_); first | ((with_reducible refine gate_load ?_ ?_); rfl; first | (refine ks_loadW KN 25 Tryd.underlying25 ?_) | (refine ks_load1 KN 3 Tryd.underlying3 ?_) | (refine ks_load1 KN 26 Tryd.underlying26 ?_) | (refine ks_loadW KN 35 Tryd.underlying35 ?_)) | ((with_reducible refine gate_store ?_ ?_); rfl; first | (refine ks_storeW KN 25 ?_; clear KN; intro wx KN) | (refine ks_storeA KN 25 ?_; clear KN; intro wx KN) | (refine ks_storeW KN 35 ?_; clear KN; intro wx KN) | (refine ks_storeA KN 35 ?_; clear KN; intro wx KN)) | ((with_reducible refine gate_new ?_ ?_); rfl; first | (refine wpList_built rfl 25 _ rfl #[.int .i64 0, .int .i64 0] (by kernel_rfl) ?_) | (refine ks_alloc KN 25 (q := 3) #[.int .i64 0, .int .i64 0] ?_; clear KN; intro g3 wx hg3 KN) | (refine ks_alloc KN 25 (q := 6) #[.int .i64 0, .int .i64 0] ?_; clear KN; intro g6 wx hg6 KN) | (refine ks_boxA KN 44 (q := 36) ?_; clear KN; intro g36 wx hg36 KN) | (refine ks_alloc KN 35 (q := 11) #[.int .i64 0, .int .i64 0, .int .i64 0] ?_; clear KN; intro g11 wx hg11 KN) | (refine wpList_built rfl 25 #[] rfl #[.int .i64 0, .int .i64 0] (by kernel_rfl) ?_))))
        refine bodyPost_ret (results_tct2 rfl _ _ g3 #[.int .i64 0, .int .i64 0] (.int .i64 0) (.slice oa n oc) rfl rfl (run_loadVar_row _ g3 _ _ _ (0, 0) _ (KN.at_ (by repeat (first | exact Has.here | refine Has.there ?_))) Tryd.underlying25 rfl (by kernel_rfl)) rfl) rfl ?_
        exact HOUT.out _ _ ⟨.slice oa n oc, ol, by rw [HAQ.out], by rw [HAQ.out]; exact HOW.out, KN.pick (List.Sublist.cons _ (List.Sublist.cons _ (List.sublist_append_left _ _)))⟩
  · have HE := Lib.hid (HAE.out he)
    have h0 : (er != 0) = true := by rw [bne_iff_ne]; exact he
    clear he
    go_enter Tryd.func6, Tryd.ntmps6
    go_upto_region 3 with (first | (go_at_call 12; refine (ScanP_any s _ HS.out).mono ?_; intro e wx hp; obtain ⟨ta, tc, tl, rfl, _, K2⟩ := HSC.out _ _ _ hp; replace KN := (KN.call0 K2).perm List.perm_append_comm; clear K2 hp; simp only [List.cons_append, List.nil_append] at KN) | ((with_reducible refine wpList_gate ?_); first | ((with_reducible refine gate_load ?_ ?_); rfl; first | (refine ks_loadW KN 25 Tryd.underlying25 ?_) | (refine ks_load1 KN 3 Tryd.underlying3 ?_) | (refine ks_load1 KN 26 Tryd.underlying26 ?_) | (refine ks_loadW KN 35 Tryd.underlying35 ?_)) | ((with_reducible refine gate_store ?_ ?_); rfl; first | (refine ks_storeW KN 25 ?_; clear KN; intro wx KN) | (refine ks_storeA KN 25 ?_; clear KN; intro wx KN) | (refine ks_storeW KN 35 ?_; clear KN; intro wx KN) | (refine ks_storeA KN 35 ?_; clear KN; intro wx KN)) | ((with_reducible refine gate_new ?_ ?_); rfl; first | (refine ks_alloc KN 25 (q := 3) #[.int .i64 0, .int .i64 0] ?_; clear KN; intro g3 wx hg3 KN) | (refine ks_alloc KN 25 (q := 6) #[.int .i64 0, .int .i64 0] ?_; clear KN; intro g6 wx hg6 KN) | (refine ks_boxA KN 44 (q := 36) ?_; clear KN; intro g36 wx hg36 KN) | (refine ks_alloc KN 35 (q := 11) #[.int .i64 0, .int .i64 0, .int .i64 0] ?_; clear KN; intro g11 wx hg11 KN) | (refine wpList_built rfl 25 #[] rfl #[.int .i64 0, .int .i64 0] (by kernel_rfl) ?_))))
    (try go_frame)
    replace KN := KN.drew
    refine wp_region_held_drew (S := (fun w' => BlkT w' g6 #[.int .i64 a, .int .i64 b] 25)) (by kernel_rfl) ?qahS (fun hHeld => ?qarest)
    case qahS => exact KN.at_ (by repeat (first | exact Has.here | refine Has.there ?_))
    refine wpAnyH_take (i := 0) (oi := ⟨some 22, _, _, _, _, _⟩) (v := (.agg #[.int .i64 a, .int .i64 b])) rfl (by kernel_rfl) (by kernel_rfl) (by kernel_rfl) (fun _ _ _ h => h) (kn_yieldsN (by rfl) 25 _ rfl g6 0 rfl _ 25 (fun _ h => h) #[.int .i64 a, .int .i64 b] rfl _ Tryd.underlying25 rfl (by kernel_rfl)) hHeld ?qar0
    (try simp only [Act.put, List.setIfInBounds_toArray, List.set_cons_zero, List.set_cons_succ])
    refine wpAnyH_take (i := 1) (oi := ⟨some 23, _, _, _, _, _⟩) (v := ?qav1) rfl (by kernel_rfl) (by kernel_rfl) (by kernel_rfl) (fun _ _ _ h => h) (Or.inl ⟨by rfl, ?qahy1⟩) hHeld ?qar1
    case qahy1 => (intro w hSw; (try dsimp only at hSw); go_simp; (try with_reducible rfl))
    (try simp only [Act.put, List.setIfInBounds_toArray, List.set_cons_zero, List.set_cons_succ])
    refine wpAnyH_take (i := 2) (oi := ⟨some 2, _, _, _, _, _⟩) (v := ?qav2) rfl (by kernel_rfl) (by kernel_rfl) (by kernel_rfl) (fun _ _ _ h => h) (Or.inl ⟨by rfl, ?qahy2⟩) hHeld ?qar2
    case qahy2 => (intro w hSw; (try dsimp only at hSw); go_simp; (try with_reducible rfl))
    (try simp only [Act.put, List.setIfInBounds_toArray, List.set_cons_zero, List.set_cons_succ])
    refine wpAnyH_ready (rs := [3]) (by kernel_rfl) (by simp) ?qac3
    refine AllReadyH.cons (o := ⟨none, _, _, _, _, _⟩) rfl (fun K hK => ?qast3) AllReadyH.nil
    (rw [if_pos (by rfl)]; refine wp_kn_storeW KN 25 _ _ rfl _ rfl #[.int .i64 a, .int .i64 b] rfl _ _ (by repeat (first | exact Repl.here | apply Repl.there)) (by kernel_rfl) (by kernel_rfl) (by kernel_rfl) ?_; clear KN; intro wx KN)
    refine hK.out _ _ ?qak3 (fun hHeld2 => ?qam3)
    case qak3 => exact KN.at_ (by repeat (first | exact Has.here | refine Has.there ?_))
    clear hK K hHeld
    have hHeld := hHeld2; clear hHeld2
    (try simp only [Act.put, List.setIfInBounds_toArray, List.set_cons_zero, List.set_cons_succ])
    refine wpAnyH_take (i := 4) (oi := ⟨some 4, _, _, _, _, _⟩) (v := ?qav4) rfl (by kernel_rfl) (by kernel_rfl) (by kernel_rfl) (fun _ _ _ h => h) (Or.inl ⟨by rfl, ?qahy4⟩) hHeld ?qar4
    case qahy4 => (intro w hSw; (try dsimp only at hSw); go_simp; (try with_reducible rfl))
    (try simp only [Act.put, List.setIfInBounds_toArray, List.set_cons_zero, List.set_cons_succ])
    refine wpAnyH_done (by kernel_rfl) ?qadone _
    go_wp2_with fail
    refine bodyPost_ret (results_tct2 rfl _ _ g3 #[.int .i64 a, .int .i64 b] (.int .i64 er) (.slice none 0 0) rfl rfl (run_loadVar_row _ g3 _ _ _ (0, 0) _ (KN.at_ (by repeat (first | exact Has.here | refine Has.there ?_))) Tryd.underlying25 rfl (by kernel_rfl)) rfl) rfl ?_
    exact HOUT.out _ _ ⟨.slice none 0 0, [], by rw [HE.out], by rw [HE.out]; exact .nil, KN.frame0⟩
end Go.Proofs.YtgeeklgojjcdmaaDoor
