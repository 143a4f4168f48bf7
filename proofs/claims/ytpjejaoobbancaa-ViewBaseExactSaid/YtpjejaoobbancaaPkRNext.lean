/- The reference's Next: the walk. -/
import Derived.Test.YtpjejaoobbancaaPkRNextP
import Derived.Test.YtpjejaoobbancaaPkROwn
set_option linter.unusedVariables false
set_option linter.unusedSimpArgs false
set_option linter.unusedSectionVars false
namespace Go.Proofs.Ytpjejaoobbancaa
open Go.RowKit Go.BigFrame

theorem numbered_yes (x : Int) (h0 : 0 ≤ x) (h1 : x ≤ 1073741824) (w : World) : Calls Try.prog 35 #[.int .i64 x] w fun e w' => e = .returned (.bool true) ∧ w = w' := by
  have q1 : decide (0 ≤ x) = true := decide_eq_true h0
  have q2 : decide (x ≤ 1073741824) = true := decide_eq_true h1
  go_enter Try.func35, Try.ntmps35
  go_wp2
  go_ret
  exact ⟨rfl, rfl⟩
def R2a (p : Int) (rs : List Rep) (g12 g15 : Nat) (b15 : Array Value) (w : World) (s16 s17 i : Value) (wr : World) : Prop :=
  ∃ (k : Nat) (m : Int) (oc : Ents), i = .int .i64 (k : Int) ∧ s16 = .int .i64 m ∧ k ≤ rs.length ∧ IsMax m (numsOf p (rs.take k)) ∧ OwnT 3 1 s17 (intRows (upto k)) oc ∧ Kn [] w wr ((g15, At b15 30) :: (g12, At #[.int .i64 0, .slice none 0 0, .slice none 0 0] 30) :: oc)
def R2b (leader mx : Int) (L : Ents) (g19 : Nat) (w : World) (wr : World) : Prop :=
  ∃ y : Int, mx + 1 ≤ y ∧ y ≤ numFor leader mx ∧ Kn [] w wr ((g19, At #[.int .i64 y, .slice none 0 0, .slice none 0 0] 30) :: L)
def intAt0 (g : Nat) (w : World) : Int := match w.cell? ⟨g, 0, none⟩ with | some (.int _ y) => y | _ => 0
def R2c (bm : List Int) (n : Nat) (x y z : Nat × (Obj → Prop)) (oc : Ents) (w : World) (vm i : Value) (wr : World) : Prop :=
  ∃ (k : Nat) (om : Ents), i = .int .i64 (k : Int) ∧ k ≤ bm.length ∧ OwnT 3 1 vm (intRows (inL (bm.take k) (upto n))) om ∧ Kn [] w wr (x :: y :: z :: (oc ++ om))
def R2d (m0 cs : List Int) (x y z : Nat × (Obj → Prop)) (oc : Ents) (w : World) (vm i : Value) (wr : World) : Prop :=
  ∃ (k : Nat) (om : Ents), i = .int .i64 (k : Int) ∧ k ≤ cs.length ∧ OwnT 3 1 vm (intRows (joinU m0 (cs.take k))) om ∧ Kn [] w wr (x :: y :: z :: (oc ++ om))
def R2e (m1 wanted dead : List Int) (x y z : Nat × (Obj → Prop)) (om : Ents) (w : World) (vj i : Value) (wr : World) : Prop :=
  ∃ (k : Nat) (js : List Int) (oj : Ents), i = .int .i64 (k : Int) ∧ k ≤ wanted.length ∧ js.length ≤ k ∧ js.Pairwise (· < ·) ∧ (∀ z, z ∈ js ↔ z ∈ wanted.take k ∧ z ∉ dead ∧ z ∉ m1) ∧ OwnT 3 1 vj (intRows js) oj ∧ Kn [] w wr (x :: y :: z :: (om ++ oj))
/-- Add, its list being the last of what the call has made. -/
def AddKn (f : Ents → Ents) (l : List Int) (n : Int) (W : World) (e : Ending) (w' : World) : Prop :=
  ∃ (v' : Value) (l' : List Int) (ol' : Ents), e = .returned v' ∧ l'.Pairwise (· < ·) ∧ (∀ z, z ∈ l' ↔ z ∈ l ∨ z = n) ∧ l'.length ≤ l.length + 1 ∧ OwnT 3 1 v' (intRows l') ol' ∧ Kn [] W w' (f ol')
theorem Add_kn {W w : World} {pre ol : Ents} {v : Value} {l : List Int} (KN : Kn [] W w (pre ++ ol)) (OW : OwnT 3 1 v (intRows l) ol) (hs : l.Pairwise (· < ·)) (hl : l.length ≤ 100000) (n : Int) :
    Calls Try.prog 37 #[v, .int .i64 n] w (AddKn (fun o => pre ++ o) l n W) := by
  refine (Add_any (OW.row (f := fun o => o) (KN.sub (List.sublist_append_right _ _)) .id) hs hl n).mono ?_
  rintro e w' (⟨rfl, hin, rfl⟩ | ⟨v', l', ol', rfl, h1, h2, h3, h4, h5⟩)
  · refine ⟨v, l, ol, rfl, hs, fun z => ⟨.inl, ?_⟩, Nat.le_succ _, OW, KN⟩
    rintro (h | rfl)
    · exact h
    · exact hin
  · refine ⟨v', l', ol', rfl, h1, h2, h3, h4, ?_⟩
    exact ((KN.call0 h5).perm List.perm_append_comm).sub ((List.sublist_append_left pre ol).append_right ol')
/-- The joining cores, one wanted core more. -/
theorem js_yes {js js' m1 wanted dead : List Int} {k : Nat} {x : Int} (hx : wanted[k]? = some x) (h : ∀ z, z ∈ js ↔ z ∈ wanted.take k ∧ z ∉ dead ∧ z ∉ m1) (h' : ∀ z, z ∈ js' ↔ z ∈ js ∨ z = x) (hd : x ∉ dead) (hm : x ∉ m1) : ∀ z, z ∈ js' ↔ z ∈ wanted.take (k + 1) ∧ z ∉ dead ∧ z ∉ m1 := by
  intro z
  rw [h', h, take_snocI hx, List.mem_append, List.mem_singleton]
  constructor
  · rintro (⟨a, b⟩ | rfl)
    · exact ⟨.inl a, b⟩
    · exact ⟨.inr rfl, hd, hm⟩
  · rintro ⟨a | a, b⟩
    · exact .inl ⟨a, b⟩
    · exact .inr a
theorem js_no {js m1 wanted dead : List Int} {k : Nat} {x : Int} (hx : wanted[k]? = some x) (h : ∀ z, z ∈ js ↔ z ∈ wanted.take k ∧ z ∉ dead ∧ z ∉ m1) (hn : x ∈ dead ∨ x ∈ m1) : ∀ z, z ∈ js ↔ z ∈ wanted.take (k + 1) ∧ z ∉ dead ∧ z ∉ m1 := by
  intro z
  rw [h, take_snocI hx, List.mem_append, List.mem_singleton]
  constructor
  · rintro ⟨a, b⟩; exact ⟨.inl a, b⟩
  · rintro ⟨a | rfl, b, c⟩
    · exact ⟨a, b, c⟩
    · exact absurd hn (by rintro (q | q); exact b q; exact c q)
set_option maxRecDepth 100000 in
set_option maxHeartbeats 8000000 in
theorem RNext_any {w : World} {v wv dv mvv : Value} {rs : List Rep} {wanted dead : List Int} {mvs : List (Int × Int)} (leader p : Int) (h : RepRd w v rs) (hl : rs.length ≤ 1000) (hcore : ∀ (k : Nat) (r : Rep), rs[k]? = some r → r.core = (k : Int)) (hnum : ∀ z ∈ numsOf p rs, 0 ≤ z ∧ z ≤ 1073741824)
    (hnb : ∀ r ∈ rs, (0 ≤ r.view.num ∧ r.view.num ≤ 1073741824) ∧ 0 ≤ r.next.num ∧ r.next.num ≤ 1073741824) (hw : Row w wv 1 (intRows wanted)) (hwl : wanted.length ≤ 1000) (hvb : ViewsB rs) (hd : Row w dv 1 (intRows dead)) (hmv : Row w mvv 2 (mvRows mvs)) :
    Calls Try.prog 13 #[.int .i64 leader, .int .i64 p, v, wv, dv, mvv] w (NextOutM leader p rs (keepL dead (sortL wanted)) mvs w) := by
  have KN := Kn.start w
  have H := Lib.hid h
  have HCORE := Lib.hid hcore
  have HNUM := Lib.hid hnum
  have HNB := Lib.hid hnb
  have HWW := Lib.hid hw
  have HWL := Lib.hid hwl
  have HDD := Lib.hid hd
  have HVB := Lib.hid hvb
  have HMVR := Lib.hid hmv
  obtain ⟨mva, mvc, rfl, hmvm, _⟩ := mv_at hmv
  obtain ⟨wa, wc, rfl, hwm, _⟩ := ints_form hw
  obtain ⟨da, dc, rfl, hdm, _⟩ := ints_form hd
  obtain ⟨a, c, rfl, _, hf⟩ := h.form
  obtain ⟨n, hn⟩ : ∃ n, n = rs.length := ⟨_, rfl⟩
  have HN := Lib.hid hn
  have HF := Lib.hid hf
  obtain ⟨wn, hwn⟩ : ∃ wn, wn = wanted.length := ⟨_, rfl⟩
  have HWN := Lib.hid hwn
  rw [← hn] at H hl ⊢
  rw [← hwn] at HWW hwm ⊢
  unfold maxLen at hmvm hwm hdm
  have hp := hnum p (by unfold numsOf; exact List.mem_cons_self)
  clear h hf hn hcore hnum hnb hw hwl hd hvb hmv hwn
  by_cases hlc : 0 ≤ leader ∧ leader < 32
  rotate_left
  · have HLC := Lib.hid hlc
    have hcase : decide (leader < 0) = true ∨ (decide (leader < 0) = false ∧ decide (32 ≤ leader) = true) := by
      by_cases h0 : leader < 0
      · exact .inl (decide_eq_true h0)
      · exact .inr ⟨decide_eq_false h0, decide_eq_true (by omega)⟩
    clear hlc
    rcases hcase with e1 | ⟨e1, e2⟩ <;>
    · go_enter Try.func13, Try.ntmps13
      go_wp2_with (first | ((with_reducible refine wpList_gate ?_); first | ((with_reducible refine gate_load ?_ ?_); rfl; first | (refine ks_load1 KN 3 Try.underlying3 ?_) | (refine ks_load1 KN 4 Try.underlying4 ?_) | (refine ks_load1 KN 22 Try.underlying22 ?_) | (refine ks_loadW KN 30 Try.underlying30 ?_)) | ((with_reducible refine gate_store ?_ ?_); rfl; first | (refine ks_storeW KN 30 ?_; clear KN; intro wx KN) | (refine ks_storeA KN 30 ?_; clear KN; intro wx KN) | (refine ks_store1 KN 3 ?_; clear KN; intro wx KN) | (refine ks_store1 KN 22 ?_; clear KN; intro wx KN)) | ((with_reducible refine gate_new ?_ ?_); rfl; first | (refine ks_alloc KN 30 (q := 12) #[.int .i64 0, .slice none 0 0, .slice none 0 0] ?_; clear KN; intro g12 wx hg12 KN) | (refine wpList_built rfl 30 #[] rfl #[.int .i64 0, .slice none 0 0, .slice none 0 0] (by kernel_rfl) ?_) | (refine ks_alloc KN 30 (q := 15) #[.int .i64 0, .slice none 0 0, .slice none 0 0] ?_; clear KN; intro g15 wx hg15 KN) | (refine ks_alloc KN 30 (q := 19) #[.int .i64 0, .slice none 0 0, .slice none 0 0] ?_; clear KN; intro g19 wx hg19 KN))))
      refine bodyPost_ret (results_cell_row (p := 12) Try.results13 _ _ g12 30 #[.int .i64 0, .slice none 0 0, .slice none 0 0] (0, 0) _ rfl (KN.at_ (by repeat (first | exact Has.here | refine Has.there ?_))) Try.underlying30 rfl (by kernel_rfl)) rfl ?_
      exact ⟨⟨none, 0, 0⟩, ⟨none, 0, 0⟩, ⟨0, [], []⟩, fun q => absurd q HLC.out, fun _ => rfl, rfl, nilRow _, nilRow _, KN.toBelow⟩
  have hl0 : 0 ≤ leader := hlc.1
  have hl1 : leader < 32 := hlc.2
  have HLC := Lib.hid hlc
  have e1 : decide (leader < 0) = false := decide_eq_false (by omega)
  have e2 : decide (32 ≤ leader) = false := decide_eq_false (by omega)
  clear hlc
  go_enter Try.func13, Try.ntmps13
  go_upto_region 4 with (first | (go_at_call 35; refine (numbered_yes _ hp.1 hp.2 _).mono ?_; rintro e wx ⟨rfl, rfl⟩) | (go_at_call 11; refine (RBase_any (H.out.below KN.toBelow) (by rw [← HN.out]; exact hl) (fun r hr => ⟨(HNB.out r hr).1.1, (HNB.out r hr).2.1⟩)).mono ?_; rintro e wx ⟨b, ad, rfl, hbs, rfl⟩; have HBS := Lib.hid hbs; clear hbs) | ((with_reducible refine wpList_gate ?_); first | ((with_reducible refine gate_load ?_ ?_); rfl; first | (refine ks_load1 KN 3 Try.underlying3 ?_) | (refine ks_load1 KN 4 Try.underlying4 ?_) | (refine ks_load1 KN 22 Try.underlying22 ?_) | (refine ks_loadW KN 30 Try.underlying30 ?_)) | ((with_reducible refine gate_store ?_ ?_); rfl; first | (refine ks_storeW KN 30 ?_; clear KN; intro wx KN) | (refine ks_storeA KN 30 ?_; clear KN; intro wx KN) | (refine ks_store1 KN 3 ?_; clear KN; intro wx KN) | (refine ks_store1 KN 22 ?_; clear KN; intro wx KN)) | ((with_reducible refine gate_new ?_ ?_); rfl; first | (refine ks_alloc KN 30 (q := 12) #[.int .i64 0, .slice none 0 0, .slice none 0 0] ?_; clear KN; intro g12 wx hg12 KN) | (refine wpList_built rfl 30 #[] rfl #[.int .i64 0, .slice none 0 0, .slice none 0 0] (by kernel_rfl) ?_) | (refine ks_alloc KN 30 (q := 15) #[.int .i64 0, .slice none 0 0, .slice none 0 0] ?_; clear KN; intro g15 wx hg15 KN) | (refine ks_alloc KN 30 (q := 19) #[.int .i64 0, .slice none 0 0, .slice none 0 0] ?_; clear KN; intro g19 wx hg19 KN))))
  (try go_frame)
  go_upto_region 5 with (first | (go_at_call 36; refine (RbaseView_any H.out KN.toBelow (by rw [← HN.out]; exact hl) b ad).mono ?_; rintro e wx ⟨⟨ma, mn2, mc⟩, ⟨oa, on2, oc2⟩, rfl, hbm, hbo, hbb⟩; have HBM := Lib.hid hbm; have HBO := Lib.hid hbo; replace KN := KN.below hbb; clear hbm hbo hbb) | ((with_reducible refine wpList_gate ?_); first | ((with_reducible refine gate_load ?_ ?_); rfl; first | (refine ks_load1 KN 3 Try.underlying3 ?_) | (refine ks_load1 KN 4 Try.underlying4 ?_) | (refine ks_load1 KN 22 Try.underlying22 ?_) | (refine ks_loadW KN 30 Try.underlying30 ?_)) | ((with_reducible refine gate_store ?_ ?_); rfl; first | (refine ks_storeW KN 30 ?_; clear KN; intro wx KN) | (refine ks_storeA KN 30 ?_; clear KN; intro wx KN) | (refine ks_store1 KN 3 ?_; clear KN; intro wx KN) | (refine ks_store1 KN 22 ?_; clear KN; intro wx KN)) | ((with_reducible refine gate_new ?_ ?_); rfl; first | (refine ks_alloc KN 30 (q := 12) #[.int .i64 0, .slice none 0 0, .slice none 0 0] ?_; clear KN; intro g12 wx hg12 KN) | (refine wpList_built rfl 30 #[] rfl #[.int .i64 0, .slice none 0 0, .slice none 0 0] (by kernel_rfl) ?_) | (refine ks_alloc KN 30 (q := 15) #[.int .i64 0, .slice none 0 0, .slice none 0 0] ?_; clear KN; intro g15 wx hg15 KN) | (refine ks_alloc KN 30 (q := 19) #[.int .i64 0, .slice none 0 0, .slice none 0 0] ?_; clear KN; intro g19 wx hg19 KN))))
  (try go_frame)
  obtain ⟨B, hB⟩ : ∃ B, B = baseVf rs b ad := ⟨_, rfl⟩
  have HBV := Lib.hid hB
  have HBL : Hid (B.mem.length ≤ 1000 ∧ B.own.length ≤ 1000) := Lib.hid (by rw [hB]; exact baseVf_len HVB.out b ad)
  rw [← hB] at HBM HBO
  have HMN : Hid (mn2 = B.mem.length) := Lib.hid (by
    obtain ⟨_, _, hv, _, _⟩ := ints_form HBM.out
    simp only [SL.v, Value.slice.injEq] at hv
    exact hv.2.1)
  obtain ⟨bn, hbn⟩ : ∃ q, q = (baseVf rs b ad).num := ⟨_, rfl⟩
  replace KN := KN.as_ g15 #[.int .i64 bn, .slice ma mn2 mc, .slice oa on2 oc2] (by repeat (first | exact Repl.here | apply Repl.there)) (by rw [hbn]; rfl)
  clear hB hbn
  go_upto_block 1 with (first | ((with_reducible refine wpList_gate ?_); first | ((with_reducible refine gate_load ?_ ?_); rfl; first | (refine ks_load1 KN 3 Try.underlying3 ?_) | (refine ks_load1 KN 4 Try.underlying4 ?_) | (refine ks_load1 KN 22 Try.underlying22 ?_) | (refine ks_loadW KN 30 Try.underlying30 ?_)) | ((with_reducible refine gate_store ?_ ?_); rfl; first | (refine ks_storeW KN 30 ?_; clear KN; intro wx KN) | (refine ks_storeA KN 30 ?_; clear KN; intro wx KN) | (refine ks_store1 KN 3 ?_; clear KN; intro wx KN) | (refine ks_store1 KN 22 ?_; clear KN; intro wx KN)) | ((with_reducible refine gate_new ?_ ?_); rfl; first | (refine ks_alloc KN 30 (q := 12) #[.int .i64 0, .slice none 0 0, .slice none 0 0] ?_; clear KN; intro g12 wx hg12 KN) | (refine wpList_built rfl 30 #[] rfl #[.int .i64 0, .slice none 0 0, .slice none 0 0] (by kernel_rfl) ?_) | (refine ks_alloc KN 30 (q := 15) #[.int .i64 0, .slice none 0 0, .slice none 0 0] ?_; clear KN; intro g15 wx hg15 KN) | (refine ks_alloc KN 30 (q := 19) #[.int .i64 0, .slice none 0 0, .slice none 0 0] ?_; clear KN; intro g19 wx hg19 KN))))
  (try go_frame)
  go_wp2_with fail
  go_loopw [16, 17, 18] (fun s16 s17 i wr => R2a p rs g12 g15 #[.int .i64 bn, .slice ma mn2 mc, .slice oa on2 oc2] w s16 s17 i wr) (fun _ _ i _ => n - (intOf i).toNat)
  case atStart => exact ⟨0, p, [], rfl, rfl, Nat.zero_le _, by unfold numsOf; exact ⟨by simp, fun z hz => by have : z = p := (by simpa using hz); omega⟩, .nil, KN⟩
  case round =>
    clear KN
    obtain ⟨k, m16, oc, rfl, rfl, hk, hmx, OC, KN⟩ := hrel
    have HMX := Lib.hid hmx
    have HOC := Lib.hid OC
    obtain ⟨ca, cn, cc, rfl, hcn⟩ := OC.form4
    rw [List.length_map, upto_len] at hcn
    subst hcn
    rw [← HN.out] at hk
    clear hmx OC
    by_cases hlt : cn < n
    · obtain ⟨r, hr⟩ : ∃ r, rs[cn]? = some r := ⟨_, List.getElem?_eq_getElem (by rw [← HN.out]; exact hlt)⟩
      obtain ⟨g, off, cs, rfl, hg, hc1, hc2, hd, hrange⟩ := HF.out cn r hr
      obtain ⟨m, o, s0, s2, s3, nm, no, p0, p2, p3, rfl, _⟩ := hd
      have hck := HCORE.out cn r hr
      rw [hck] at hrange
      have hnr := HNB.out r (List.mem_of_getElem? hr)
      have hc1' : n ≤ c := by rw [HN.out]; exact hc1
      have HNS := Lib.hid (numsOf_snoc (p := p) hr)
      unfold maxLen at hc2
      obtain ⟨rd, hrd⟩ : ∃ q, q = r.ready := ⟨_, rfl⟩
      rw [← hrd] at hrange
      have HRD := Lib.hid hrd
      have c0 := (KN.old hg (by simp)).trans (hrange 0 _ rfl)
      rw [Nat.add_zero] at c0
      have c1 := (KN.old hg (by simp)).trans (hrange 1 _ rfl)
      have c10 := (KN.old hg (by simp)).trans (hrange 10 _ rfl)
      have c11 := (KN.old hg (by simp)).trans (hrange 11 _ rfl)
      clear hr hrange hc1 hrd hck
      cases hb : rd with
      | true =>
        rw [hb] at c10
        have HNX : Hid (numsOf p (rs.take (cn + 1)) = (numsOf p (rs.take cn) ++ [r.view.num]) ++ [r.next.num]) := Lib.hid (by rw [HNS.out]; unfold repNums; rw [if_pos (by rw [← HRD.out]; exact hb)]; simp)
        clear hb
        go_upto_region 12 with (go_at_call 35; refine (numbered_yes _ (by first | exact hnr.1.1 | exact hnr.2.1) (by first | exact hnr.1.2 | exact hnr.2.2) _).mono ?_; rintro e wx ⟨rfl, rfl⟩)
        (try go_frame)
        go_upto_region 15 with fail
        (try go_frame)
        go_wp2_with (go_at_call 37; refine (Add_kn (pre := [(g15, At #[.int .i64 bn, .slice ma mn2 mc, .slice oa on2 oc2] 30), (g12, At #[.int .i64 0, .slice none 0 0, .slice none 0 0] 30)]) KN HOC.out (upto_asc cn) (by rw [upto_len]; omega) (cn : Int)).mono ?_; rintro e wx ⟨v2, l2, o2, rfl, hp2, hm2, _, O2, K2⟩; have he := upto_next hp2 hm2; subst he; have HO2 := Lib.hid O2; clear KN; have KN := K2; clear K2 O2 hp2 hm2)
        go_roundw
        case rel => exact ⟨cn + 1, _, o2, by go_num, rfl, by rw [← HN.out]; omega, by rw [HNX.out]; have h9 := (HMX.out.snoc (x := r.view.num)).snoc (x := r.next.num); rwa [Int.max_assoc] at h9, HO2.out, KN⟩
        case measure => simp [intOf]; omega
      | false =>
        rw [hb] at c10
        have HNX : Hid (numsOf p (rs.take (cn + 1)) = numsOf p (rs.take cn) ++ [r.view.num]) := Lib.hid (by rw [HNS.out]; unfold repNums; rw [if_neg (by rw [← HRD.out, hb]; decide)])
        clear hb
        go_upto_region 12 with (go_at_call 35; refine (numbered_yes _ (by first | exact hnr.1.1 | exact hnr.2.1) (by first | exact hnr.1.2 | exact hnr.2.2) _).mono ?_; rintro e wx ⟨rfl, rfl⟩)
        (try go_frame)
        go_upto_region 15 with fail
        (try go_frame)
        go_wp2_with (go_at_call 37; refine (Add_kn (pre := [(g15, At #[.int .i64 bn, .slice ma mn2 mc, .slice oa on2 oc2] 30), (g12, At #[.int .i64 0, .slice none 0 0, .slice none 0 0] 30)]) KN HOC.out (upto_asc cn) (by rw [upto_len]; omega) (cn : Int)).mono ?_; rintro e wx ⟨v2, l2, o2, rfl, hp2, hm2, _, O2, K2⟩; have he := upto_next hp2 hm2; subst he; have HO2 := Lib.hid O2; clear KN; have KN := K2; clear K2 O2 hp2 hm2)
        go_roundw
        case rel => exact ⟨cn + 1, _, o2, by go_num, rfl, by rw [← HN.out]; omega, by rw [HNX.out]; exact HMX.out.snoc, HO2.out, KN⟩
        case measure => simp [intOf]; omega
    · obtain rfl : cn = n := by omega
      have HMX2 : Hid (IsMax m16 (numsOf p rs)) := Lib.hid (by have := HMX.out; rwa [List.take_of_length_le (by rw [← HN.out]; omega)] at this)
      have hmxb := HNUM.out m16 HMX2.out.1
      have HFB := Lib.hid (numFor_bd (mx := m16) hl0 hl1)
      clear HMX hk hlt
      go_upto_block 2 with (first | ((with_reducible refine wpList_gate ?_); first | ((with_reducible refine gate_load ?_ ?_); rfl; first | (refine ks_load1 KN 3 Try.underlying3 ?_) | (refine ks_load1 KN 4 Try.underlying4 ?_) | (refine ks_load1 KN 22 Try.underlying22 ?_) | (refine ks_loadW KN 30 Try.underlying30 ?_)) | ((with_reducible refine gate_store ?_ ?_); rfl; first | (refine ks_storeW KN 30 ?_; clear KN; intro wx KN) | (refine ks_storeA KN 30 ?_; clear KN; intro wx KN) | (refine ks_store1 KN 3 ?_; clear KN; intro wx KN) | (refine ks_store1 KN 22 ?_; clear KN; intro wx KN)) | ((with_reducible refine gate_new ?_ ?_); rfl; first | (refine wpList_built rfl 30 #[(0, .tmp 108)] rfl #[.int .i64 (m16 + 1), .slice none 0 0, .slice none 0 0] (by kernel_rfl) ?_) | (refine ks_alloc KN 30 (q := 12) #[.int .i64 0, .slice none 0 0, .slice none 0 0] ?_; clear KN; intro g12 wx hg12 KN) | (refine wpList_built rfl 30 #[] rfl #[.int .i64 0, .slice none 0 0, .slice none 0 0] (by kernel_rfl) ?_) | (refine ks_alloc KN 30 (q := 15) #[.int .i64 0, .slice none 0 0, .slice none 0 0] ?_; clear KN; intro g15 wx hg15 KN) | (refine ks_alloc KN 30 (q := 19) #[.int .i64 0, .slice none 0 0, .slice none 0 0] ?_; clear KN; intro g19 wx hg19 KN))))
      (try go_frame)
      go_wp2_with fail
      go_loopw [] (fun wr => R2b leader m16 ((g15, At #[.int .i64 bn, .slice ma mn2 mc, .slice oa on2 oc2] 30) :: (g12, At #[.int .i64 0, .slice none 0 0, .slice none 0 0] 30) :: oc) g19 w wr) (fun wr => (numFor leader m16 - intAt0 g19 wr).toNat)
      case atStart => exact ⟨m16 + 1, by omega, by have := HFB.out; omega, KN⟩
      case round =>
        clear KN
        obtain ⟨y, hy1, hy2, KN⟩ := hrel
        have hfb := HFB.out
        have htm : y.tmod 32 = y % 32 := Int.tmod_eq_emod_of_nonneg (by omega)
        by_cases hym : y % 32 = leader
        · have HNM : Hid (y = numFor leader m16) := Lib.hid (numFor_next hl0 hl1 hy1 hy2 hym)
          have e3 : (y % 32 == leader) = true := beq_iff_eq.2 hym
          have e4 : (y % 32 != leader) = false := by simp [hym]
          have HYM := Lib.hid hym
          clear hym
          go_upto_block 0 with ((with_reducible refine wpList_gate ?_); (with_reducible refine gate_load ?_ ?_); rfl; first | (refine ks_load1 KN 22 Try.underlying22 ?_) | (refine ks_load1 KN 3 Try.underlying3 ?_))
          (try go_frame)
          obtain ⟨num, hnum⟩ : ∃ q, q = y := ⟨_, rfl⟩
          rw [← hnum] at HNM KN ⊢
          clear hnum htm e3 e4 hy1 hy2 hfb hmxb HYM
          go_wp2_with fail
          go_loopw [20, 21] (fun vm i wr => R2c B.mem cn (g19, At #[.int .i64 num, .slice none 0 0, .slice none 0 0] 30) (g15, At #[.int .i64 bn, .slice ma mn2 mc, .slice oa on2 oc2] 30) (g12, At #[.int .i64 0, .slice none 0 0, .slice none 0 0] 30) oc w vm i wr) (fun _ i _ => mn2 - (intOf i).toNat)
          case atStart => exact ⟨0, [], rfl, Nat.zero_le _, .nil, by rw [List.append_nil]; exact KN⟩
          case round =>
            clear KN
            obtain ⟨j, om, rfl, hj, OM, KN⟩ := hrel
            have HOM := Lib.hid OM
            obtain ⟨za, zn, zc, rfl⟩ := OM.form3
            clear OM
            rw [← HMN.out] at hj
            by_cases hjt : j < mn2
            · obtain ⟨x, hx⟩ : ∃ x, B.mem[j]? = some x := ⟨_, List.getElem?_eq_getElem (by rw [← HMN.out]; exact hjt)⟩
              have HX := Lib.hid hx
              obtain ⟨g, off, rfl, hg, hc1, hc2, hcell⟩ := row_at (a := ma) (n := mn2) (c := mc) (HBM.out.below KN.toBelow) hx
              unfold maxLen at hc2
              have HIL : Hid ((inL (B.mem.take j) (upto cn)).length ≤ 1000) := Lib.hid (by have := inL_len (B.mem.take j) (upto cn); rw [List.length_take] at this; have := HBL.out.1; omega)
              clear hx
              by_cases hin : x ∈ upto cn
              · have HD : Hid (decide (x ∈ upto cn) = true) := Lib.hid (decide_eq_true hin)
                have HNX := Lib.hid (inL_yes HX.out hin)
                clear hin
                go_upto_region 24 with (first | ((with_reducible refine wpList_gate ?_); (with_reducible refine gate_load ?_ ?_); rfl; (refine ks_load1 KN 22 Try.underlying22 ?_)) | (go_at_call 15; refine (HasInt_any (HOC.out.row (f := fun o => o) (KN.sub (List.Sublist.cons _ (List.Sublist.cons _ (List.Sublist.cons _ (List.sublist_append_left _ _))))) .id) x).mono ?_; rw [HD.out]; rintro e wx ⟨rfl, rfl⟩))
                (try go_frame)
                go_wp2_with (first | ((with_reducible refine wpList_gate ?_); (with_reducible refine gate_load ?_ ?_); rfl; (refine ks_load1 KN 22 Try.underlying22 ?_)) | (refine wpList_kn_lit KN (by rfl) 22 3 1 _ rfl 139 rfl Try.underlying22 #[.int .i64 x] (by kernel_rfl) ?_; clear KN; intro g139 wx hg139 KN) | (at_builtin; refine wpList_kn_append1 KN HOM.out (by rfl) _ _ 22 rfl 8 Try.underlying22 (by kernel_rfl) (by decide) rfl 1 rfl rfl (by kernel_rfl) (by rw [List.length_map]; have := HIL.out; unfold maxLen; omega) (by rw [List.length_map]; have := HIL.out; omega) (f := fun o => (g19, _) :: (g15, _) :: (g12, _) :: (oc ++ o)) (.cons _ (.cons _ (.cons _ (.app .id _)))) rfl ?_; clear KN; intro vap wx olA OWA KN; obtain ⟨ta, tn, tc, rfl⟩ := OWA.form3; have HOA := Lib.hid OWA; clear OWA))
                go_roundw
                case rel => exact ⟨j + 1, olA, by go_num, by rw [← HMN.out]; omega, by rw [HNX.out, ← intRows_snoc]; exact HOA.out, KN⟩
                case measure => simp [intOf]; omega
              · have HD : Hid (decide (x ∈ upto cn) = false) := Lib.hid (decide_eq_false hin)
                have HNX := Lib.hid (inL_no HX.out hin)
                clear hin
                go_wp2_with (first | ((with_reducible refine wpList_gate ?_); (with_reducible refine gate_load ?_ ?_); rfl; (refine ks_load1 KN 22 Try.underlying22 ?_)) | (go_at_call 15; refine (HasInt_any (HOC.out.row (f := fun o => o) (KN.sub (List.Sublist.cons _ (List.Sublist.cons _ (List.Sublist.cons _ (List.sublist_append_left _ _))))) .id) x).mono ?_; rw [HD.out]; rintro e wx ⟨rfl, rfl⟩))
                go_roundw
                case rel => exact ⟨j + 1, om, by go_num, by rw [← HMN.out]; omega, by rw [HNX.out]; exact HOM.out, KN⟩
                case measure => simp [intOf]; omega
            · obtain rfl : j = mn2 := by omega
              have HTK2 : Hid (B.mem.take j = B.mem) := Lib.hid (List.take_of_length_le (by rw [← HMN.out]; omega))
              rw [HTK2.out] at HOM
              obtain ⟨m0, hm0⟩ : ∃ m0, m0 = inL B.mem (upto cn) := ⟨_, rfl⟩
              have HM0 := Lib.hid hm0
              have HML : Hid (m0.length ≤ 1000) := Lib.hid (by rw [hm0]; have := inL_len B.mem (upto cn); have := HBL.out.1; omega)
              rw [← hm0] at HOM
              clear hm0 hj hjt
              go_upto_block 0 with ((with_reducible refine wpList_gate ?_); (with_reducible refine gate_load ?_ ?_); rfl; (refine ks_load1 KN 22 Try.underlying22 ?_))
              (try go_frame)
              go_wp2_with fail
              go_loopw [20, 22] (fun vm i wr => R2d m0 (upto cn) (g19, At #[.int .i64 num, .slice none 0 0, .slice none 0 0] 30) (g15, At #[.int .i64 bn, .slice ma j mc, .slice oa on2 oc2] 30) (g12, At #[.int .i64 0, .slice none 0 0, .slice none 0 0] 30) oc w vm i wr) (fun _ i _ => cn - (intOf i).toNat)
              case atStart => exact ⟨0, om, rfl, Nat.zero_le _, HOM.out, KN⟩
              case round =>
                clear KN HOM
                obtain ⟨q, om, rfl, hq, OM, KN⟩ := hrel
                have HOM := Lib.hid OM
                obtain ⟨za, zn, zc, rfl, hzn⟩ := OM.form4
                rw [List.length_map] at hzn
                have HZN := Lib.hid hzn
                clear OM hzn
                rw [upto_len] at hq
                by_cases hqt : q < cn
                · obtain ⟨x, hx⟩ : ∃ x, (upto cn)[q]? = some x := ⟨_, List.getElem?_eq_getElem (by rw [upto_len]; exact hqt)⟩
                  have HX := Lib.hid hx
                  obtain ⟨g, off, rfl, hg, hc1, hc2, hcell⟩ := row_at (HOC.out.row (f := fun o => o) (KN.sub (List.Sublist.cons _ (List.Sublist.cons _ (List.Sublist.cons _ (List.sublist_append_left _ _))))) .id) hx
                  unfold maxLen at hc2
                  have HIL : Hid ((joinU m0 ((upto cn).take q)).length ≤ 3000) := Lib.hid (by have := joinU_len m0 ((upto cn).take q); rw [List.length_take, upto_len] at this; have := HML.out; omega)
                  clear hx
                  by_cases hin : x ∈ joinU m0 ((upto cn).take q)
                  · have HD : Hid (decide (x ∈ joinU m0 ((upto cn).take q)) = true) := Lib.hid (decide_eq_true hin)
                    have HNX : Hid (joinU m0 ((upto cn).take (q + 1)) = joinU m0 ((upto cn).take q)) := Lib.hid (by rw [take_snocI HX.out, joinU_snoc, if_pos hin])
                    clear hin
                    go_wp2_with (first | (go_at_call 15; refine (HasInt_any (HOM.out.row (f := fun o => o) (KN.sub (List.Sublist.cons _ (List.Sublist.cons _ (List.Sublist.cons _ (List.sublist_append_right _ _))))) .id) x).mono ?_; rw [HD.out]; rintro e wx ⟨rfl, rfl⟩))
                    go_roundw
                    case rel => exact ⟨q + 1, om, by go_num, by rw [upto_len]; omega, by rw [HNX.out]; exact HOM.out, KN⟩
                    case measure => simp [intOf]; omega
                  · have HD : Hid (decide (x ∈ joinU m0 ((upto cn).take q)) = false) := Lib.hid (decide_eq_false hin)
                    have HNX : Hid (joinU m0 ((upto cn).take (q + 1)) = joinU m0 ((upto cn).take q) ++ [x]) := Lib.hid (by rw [take_snocI HX.out, joinU_snoc, if_neg hin])
                    clear hin
                    go_upto_region 29 with (first | (go_at_call 15; refine (HasInt_any (HOM.out.row (f := fun o => o) (KN.sub (List.Sublist.cons _ (List.Sublist.cons _ (List.Sublist.cons _ (List.sublist_append_right _ _))))) .id) x).mono ?_; rw [HD.out]; rintro e wx ⟨rfl, rfl⟩))
                    (try go_frame)
                    go_wp2_with (first | (refine wpList_kn_lit KN (by rfl) 22 3 1 _ rfl 159 rfl Try.underlying22 #[.int .i64 x] (by kernel_rfl) ?_; clear KN; intro g159 wx hg159 KN) | (at_builtin; refine wpList_kn_append1 KN HOM.out (by rfl) _ _ 22 rfl 8 Try.underlying22 (by kernel_rfl) (by decide) rfl 1 rfl rfl (by kernel_rfl) (by rw [List.length_map]; have := HIL.out; unfold maxLen; omega) (by rw [List.length_map]; have := HIL.out; omega) (f := fun o => (g19, _) :: (g15, _) :: (g12, _) :: (oc ++ o)) (.cons _ (.cons _ (.cons _ (.app .id _)))) rfl ?_; clear KN; intro vap wx olA OWA KN; obtain ⟨ta, tn, tc, rfl⟩ := OWA.form3; have HOA := Lib.hid OWA; clear OWA))
                    go_roundw
                    case rel => exact ⟨q + 1, olA, by go_num, by rw [upto_len]; omega, by rw [HNX.out, ← intRows_snoc]; exact HOA.out, KN⟩
                    case measure => simp [intOf]; omega
                · obtain rfl : q = cn := by omega
                  have HTK3 : Hid ((upto q).take q = upto q) := Lib.hid (List.take_of_length_le (by rw [upto_len]; omega))
                  rw [HTK3.out] at HOM HZN
                  obtain ⟨m1, hm1⟩ : ∃ m1, m1 = joinU m0 (upto q) := ⟨_, rfl⟩
                  have HM1 := Lib.hid hm1
                  have HML1 : Hid (m1.length ≤ 2000) := Lib.hid (by rw [hm1]; have := joinU_len m0 (upto q); rw [upto_len] at this; have := HML.out; omega)
                  rw [← hm1] at HOM HZN
                  clear hm1 hq hqt
                  have K4 := KN.sub (List.Sublist.cons_cons _ (List.Sublist.cons_cons _ (List.Sublist.cons_cons _ (List.sublist_append_right oc om))))
                  clear KN
                  have KN := K4
                  clear K4
                  go_upto_block 0 with fail
                  (try go_frame)
                  go_wp2_with fail
                  go_loopw [23, 24] (fun vj i wr => R2e m1 wanted dead (g19, At #[.int .i64 num, .slice none 0 0, .slice none 0 0] 30) (g15, At #[.int .i64 bn, .slice ma j mc, .slice oa on2 oc2] 30) (g12, At #[.int .i64 0, .slice none 0 0, .slice none 0 0] 30) om w vj i wr) (fun _ i _ => wn - (intOf i).toNat)
                  case atStart => exact ⟨0, [], [], rfl, Nat.zero_le _, Nat.le_refl _, List.Pairwise.nil, by simp, .nil, by rw [List.append_nil]; exact KN⟩
                  case round =>
                    clear KN
                    obtain ⟨u, js, oj, rfl, hu, hjl, hjp, hjm, OJ, KN⟩ := hrel
                    have HOJ := Lib.hid OJ
                    obtain ⟨ja, jn, jc, rfl⟩ := OJ.form3
                    have HJP := Lib.hid hjp
                    have HJM := Lib.hid hjm
                    have HJL := Lib.hid hjl
                    rw [← HWN.out] at hu
                    clear OJ hjp hjm hjl
                    by_cases hut : u < wn
                    · obtain ⟨x, hx⟩ : ∃ x, wanted[u]? = some x := ⟨_, List.getElem?_eq_getElem (by rw [← HWN.out]; exact hut)⟩
                      have HX := Lib.hid hx
                      obtain ⟨g, off, rfl, hg, hc1, hc2, hcell⟩ := row_at (HWW.out.below KN.toBelow) hx
                      unfold maxLen at hc2
                      clear hx
                      by_cases hxd : x ∈ dead
                      · have HQ1 : Hid (Calls Try.prog 15 #[.slice da dead.length dc, .int .i64 x] _ _) := Lib.hid (HasInt_any (HDD.out.below KN.toBelow) x)
                        rw [decide_eq_true hxd] at HQ1
                        have HNX := Lib.hid (js_no HX.out HJM.out (.inl hxd))
                        clear hxd
                        go_wp2_with (first | (go_at_call 15; with_reducible refine HQ1.out.mono ?_; rintro e wx ⟨rfl, rfl⟩))
                        go_roundw
                        case rel => exact ⟨u + 1, js, oj, by go_num, by rw [← HWN.out]; omega, Nat.le_succ_of_le HJL.out, HJP.out, HNX.out, HOJ.out, KN⟩
                        case measure => simp [intOf]; omega
                      · have HQ1 : Hid (Calls Try.prog 15 #[.slice da dead.length dc, .int .i64 x] _ _) := Lib.hid (HasInt_any (HDD.out.below KN.toBelow) x)
                        rw [decide_eq_false hxd] at HQ1
                        by_cases hxm : x ∈ m1
                        · have HQ2 : Hid (Calls Try.prog 15 #[.slice za zn zc, .int .i64 x] _ _) := Lib.hid (HasInt_any (HOM.out.row (f := fun o => o) (KN.sub (List.Sublist.cons _ (List.Sublist.cons _ (List.Sublist.cons _ (List.sublist_append_left _ _))))) .id) x)
                          rw [decide_eq_true hxm] at HQ2
                          have HNX := Lib.hid (js_no HX.out HJM.out (.inr hxm))
                          clear hxd hxm
                          go_wp2_with (first | (go_at_call 15; with_reducible refine HQ1.out.mono ?_; rintro e wx ⟨rfl, rfl⟩) | (go_at_call 15; with_reducible refine HQ2.out.mono ?_; rintro e wx ⟨rfl, rfl⟩))
                          go_roundw
                          case rel => exact ⟨u + 1, js, oj, by go_num, by rw [← HWN.out]; omega, Nat.le_succ_of_le HJL.out, HJP.out, HNX.out, HOJ.out, KN⟩
                          case measure => simp [intOf]; omega
                        · have HQ2 : Hid (Calls Try.prog 15 #[.slice za zn zc, .int .i64 x] _ _) := Lib.hid (HasInt_any (HOM.out.row (f := fun o => o) (KN.sub (List.Sublist.cons _ (List.Sublist.cons _ (List.Sublist.cons _ (List.sublist_append_left _ _))))) .id) x)
                          rw [decide_eq_false hxm] at HQ2
                          have HNX := Lib.hid (fun js' h' => js_yes (js' := js') HX.out HJM.out h' hxd hxm)
                          clear hxd hxm
                          go_upto_region 35 with (first | (go_at_call 15; with_reducible refine HQ1.out.mono ?_; rintro e wx ⟨rfl, rfl⟩) | (go_at_call 15; with_reducible refine HQ2.out.mono ?_; rintro e wx ⟨rfl, rfl⟩))
                          (try go_frame)
                          have hjl := HJL.out
                          have hwl := HWL.out
                          go_wp2_with (go_at_call 37; refine (Add_kn (pre := (g19, At #[.int .i64 num, .slice none 0 0, .slice none 0 0] 30) :: (g15, At #[.int .i64 bn, .slice ma j mc, .slice oa on2 oc2] 30) :: (g12, At #[.int .i64 0, .slice none 0 0, .slice none 0 0] 30) :: om) KN HOJ.out HJP.out (by rw [← HWN.out] at hwl; omega) x).mono ?_; rintro e wx ⟨v2, l2, o2, rfl, hp2, hm2, hl2, O2, K2⟩; have HO2 := Lib.hid O2; have HP2 := Lib.hid hp2; have HM2 := Lib.hid (HNX.out _ hm2); have HL2 := Lib.hid hl2; clear KN; have KN := K2; clear K2 O2 hp2 hm2 hl2)
                          go_roundw
                          case rel => exact ⟨u + 1, l2, o2, by go_num, by rw [← HWN.out]; omega, Nat.le_trans HL2.out (Nat.succ_le_succ HJL.out), HP2.out, HM2.out, HO2.out, KN⟩
                          case measure => simp [intOf]; omega
                    · obtain rfl : u = wn := by omega
                      obtain ⟨js2, hjs2⟩ : ∃ q, q = m1 ++ js := ⟨_, rfl⟩
                      have HJS2 := Lib.hid hjs2
                      have HMEQ : Hid (joinU (inL (baseVf rs b ad).mem (upto rs.length)) (upto rs.length ++ keepL dead (sortL wanted)) = js2) := Lib.hid (by
                        rw [hjs2, ← HN.out, ← HBV.out, ← HM0.out, joinU_app, ← HM1.out]
                        refine joins_eq HJP.out fun z => ?_
                        have := HJM.out z
                        rwa [List.take_of_length_le (by rw [← HWN.out]; exact Nat.le_refl _)] at this)
                      clear hjs2
                      have hjl := HJL.out
                      have hwl := HWL.out
                      rw [← HWN.out] at hwl
                      have hml := HML1.out
                      have HJR := Lib.hid (HOJ.out.row (f := fun o => o) (KN.sub (List.Sublist.cons _ (List.Sublist.cons _ (List.Sublist.cons _ (List.sublist_append_right _ _))))) .id)
                      have K4 := KN.perm (List.Perm.cons _ (List.Perm.cons _ (List.Perm.cons _ (List.perm_append_comm (l₁ := om) (l₂ := oj)))))
                      clear KN
                      have KN := K4
                      clear K4
                      go_upto_region 37 with (at_builtin; refine wpList_kn_appendR (f := fun o => (g19, _) :: (g15, _) :: (g12, _) :: (oj ++ o)) KN HOM.out (by rfl) _ _ 22 rfl 8 Try.underlying22 int_info (by decide) rfl (.slice ja jn jc) rfl _ HJR.out (intRows_len _) (intRows_one _) (by rw [List.length_map, List.length_map]; unfold maxLen; omega) (by rw [List.length_map, List.length_map]; omega) (.cons _ (.cons _ (.cons _ (.app .id _)))) rfl ?_; clear KN; intro vq wx oq OQ KN; rw [← List.map_append, ← HJS2.out] at OQ; obtain ⟨qa, qn, qc, rfl⟩ := OQ.form3; have HOQ := Lib.hid OQ; clear OQ)
                      (try go_frame)
                      have K5 := KN.sub (List.Sublist.cons_cons _ (List.Sublist.cons_cons _ (List.Sublist.cons_cons _ (List.sublist_append_right oj oq))))
                      clear KN
                      have KN := K5
                      clear K5
                      go_upto_region 38 with (first | (refine ks_store1 KN 22 ?_; clear KN; intro wx KN))
                      (try go_frame)
                      replace KN := KN.as_ g19 #[.int .i64 num, .slice qa qn qc, .slice none 0 0] (by repeat (first | exact Repl.here | apply Repl.there)) (by kernel_rfl)
                      have HBR := Lib.hid (Calls.mono (owners_any (v := .slice oa on2 oc2) (mv' := .slice qa qn qc) (mvv := .slice mva mvs.length mvc) (HBO.out.below KN.toBelow) (HOQ.out.row (f := fun o => o) (KN.sub (List.Sublist.cons _ (List.Sublist.cons _ (List.Sublist.cons _ (List.Sublist.refl _))))) .id) (HMVR.out.below KN.toBelow) HBL.out.2) (fun _ _ h => h))
                      go_wp2_with (first | ((with_reducible refine wpList_gate ?_); (with_reducible refine gate_load ?_ ?_); rfl; (refine ks_load1 KN 22 Try.underlying22 ?_)) | (go_at_call 38; refine HBR.out.mono ?_; rintro e wx ⟨vo, oo, rfl, OO, K2⟩; have HOO := Lib.hid OO; replace KN := ((KN.call0 K2).perm List.perm_append_comm); simp only [List.cons_append] at KN; clear K2; obtain ⟨pa, pn, pc, rfl⟩ := OO.form3; clear OO) | (refine ks_store1 KN 22 ?_; clear KN; intro wx KN) | (refine ks_loadW KN 30 Try.underlying30 ?_) | (refine ks_storeA KN 30 ?_; clear KN; intro wx KN) | (refine ks_storeW KN 30 ?_; clear KN; intro wx KN))
                      refine bodyPost_ret (results_cell_row (p := 12) Try.results13 _ _ g12 30 #[.int .i64 num, .slice qa qn qc, .slice pa pn pc] (0, 0) _ rfl (KN.at_ (by repeat (first | exact Has.here | refine Has.there ?_))) Try.underlying30 rfl (by kernel_rfl)) rfl ?_
                      refine ⟨⟨qa, qn, qc⟩, ⟨pa, pn, pc⟩, ⟨num, js2, (mvF js2 B.own mvs).map (fix1 js2)⟩, fun _ => ⟨m16, b, ad, HMX2.out, HBS.out, HNM.out, HMEQ.out.symm, ?_⟩, fun q => absurd HLC.out q, rfl, HOQ.out.row (f := fun o => o) (KN.sub (List.Sublist.cons _ (List.Sublist.cons _ (List.Sublist.cons _ (List.sublist_append_left _ _))))) .id, HOO.out.row (f := fun o => o) (KN.sub (List.Sublist.cons _ (List.Sublist.cons _ (List.Sublist.cons _ (List.sublist_append_right _ _))))) .id, KN.toBelow⟩
                      show (mvF js2 B.own mvs).map _ = _
                      rw [HBV.out]
        · have HMO := Lib.hid (numFor_more hl0 hl1 hy1 hy2 hym)
          have e3 : (y % 32 == leader) = false := beq_eq_false_iff_ne.2 hym
          have e4 : (y % 32 != leader) = true := by simp [hym]
          have hat : intAt0 g19 _ = y := (by unfold intAt0; rw [KN.cell (g := g19) (o := 0) (by repeat (first | exact Has.here | refine Has.there ?_)) rfl]; rfl)
          have HAT := Lib.hid hat
          clear hat hym
          go_wp2_with (first | ((with_reducible refine wpList_gate ?_); (with_reducible refine gate_load ?_ ?_); rfl; first | (refine ks_load1 KN 22 Try.underlying22 ?_) | (refine ks_load1 KN 3 Try.underlying3 ?_)) | (refine ks_store1 KN 3 ?_; clear KN; intro wx KN))
          (try go_frame)
          go_roundw
          case rel => exact ⟨y + 1, by omega, HMO.out, KN⟩
          case measure =>
            have h2 : intAt0 g19 _ = y + 1 := (by unfold intAt0; rw [KN.cell (g := g19) (o := 0) (by repeat (first | exact Has.here | refine Has.there ?_)) rfl]; rfl)
            rw [h2, HAT.out]
            have := HMO.out
            omega
end Go.Proofs.Ytpjejaoobbancaa
