/- viewsync.Next: the walk, moves being asked for. -/
import Derived.Test.YtpjejaoobbancaaPkVNext
set_option linter.unusedVariables false
set_option linter.unusedSimpArgs false
set_option linter.unusedSectionVars false
namespace Go.Proofs.Ytpjejaoobbancaa
open Go.RowKit Go.BigFrame

theorem isCore_no (x : Int) (h : ¬ (0 ≤ x ∧ x < 32)) (w : World) : Calls Try.prog 27 #[.int .i64 x] w fun e w' => e = .returned (.bool false) ∧ w = w' := by
  by_cases h0 : 0 ≤ x
  · have q1 : decide (0 ≤ x) = true := decide_eq_true h0
    have q2 : decide (x < 32) = false := decide_eq_false (fun q => h ⟨h0, q⟩)
    go_enter Try.func27, Try.ntmps27
    go_wp2
    go_ret
    exact ⟨rfl, rfl⟩
  · have q1 : decide (0 ≤ x) = false := decide_eq_false h0
    go_enter Try.func27, Try.ntmps27
    go_wp2
    go_ret
    exact ⟨rfl, rfl⟩
theorem nilRow (w : World) : Row w (SL.v ⟨none, 0, 0⟩) 1 (intRows []) := ⟨by simp [maxLen], .inl ⟨rfl, _, _, rfl⟩⟩
/-- A move is carried out if it names a region and a member. -/
def mv1 (mem ow : List Int) (m : Int × Int) : List Int := if 0 ≤ m.1 ∧ m.1 < (ow.length : Int) ∧ m.2 ∈ mem then ow.set m.1.toNat m.2 else ow
def mvF (mem ow : List Int) (mv : List (Int × Int)) : List Int := mv.foldl (mv1 mem) ow
theorem mv1_len (mem ow : List Int) (m : Int × Int) : (mv1 mem ow m).length = ow.length := by unfold mv1; split <;> simp
theorem mvF_len (mem : List Int) (mv : List (Int × Int)) : ∀ ow : List Int, (mvF mem ow mv).length = ow.length := by
  induction mv with
  | nil => intro ow; rfl
  | cons m mv ih => intro ow; exact (ih (mv1 mem ow m)).trans (mv1_len mem ow m)
theorem mvF_snoc (mem ow : List Int) {mv : List (Int × Int)} {k : Nat} {m : Int × Int} (h : mv[k]? = some m) : mvF mem ow (mv.take (k + 1)) = mv1 mem (mvF mem ow (mv.take k)) m := by
  unfold mvF; rw [List.take_add_one, h, List.foldl_append]; rfl
abbrev mvRows (mv : List (Int × Int)) : List (List Value) := mv.map fun m => [Value.int .i64 m.1, .int .i64 m.2]
theorem mv_at {w : World} {v : Value} {mv : List (Int × Int)} (h : Row w v 2 (mvRows mv)) : ∃ a c, v = .slice a mv.length c ∧ mv.length ≤ maxLen ∧ ∀ (k : Nat) (m : Int × Int), mv[k]? = some m → ∃ (g off : Nat), a = some ⟨g, off, none⟩ ∧ g < w.heap.size ∧ mv.length ≤ c ∧ c ≤ maxLen ∧ w.rangeAt g (off + k * 2) [Value.int .i64 m.1, .int .i64 m.2] := by
  have hm := h.1
  rw [List.length_map] at hm
  rcases h.2 with ⟨h0, a, c, rfl⟩ | ⟨b, off, cap, hv, h0, hl, hmm, hb, hc⟩
  · have : mv = [] := by simpa using h0
    subst this
    exact ⟨a, c, rfl, by simp, fun k x hx => by simp at hx⟩
  · rw [List.length_map] at hv hl
    refine ⟨_, _, hv, hm, fun k m hk => ?_⟩
    exact ⟨b, off, rfl, hb, hl, hmm, fun j v hj => hc k _ j v (by rw [List.getElem?_map, hk]; rfl) hj⟩
/-- The proposed view, these moves being asked for. -/
def IsNextM (leader p : Int) (rs : List Rep) (joins : List Int) (mv : List (Int × Int)) (V : Vw) : Prop :=
  ∃ mx b ad, IsMax mx (numsOf p rs) ∧ IsBase rs b ad ∧ V.num = numFor leader mx ∧ V.mem = joinU (inL (baseVf rs b ad).mem (upto rs.length)) (upto rs.length ++ joins) ∧ V.own = (mvF V.mem (baseVf rs b ad).own mv).map (fix1 V.mem)
def NextOutM (leader p : Int) (rs : List Rep) (joins : List Int) (mv : List (Int × Int)) (w : World) (e : Ending) (w' : World) : Prop :=
  ∃ (m o : SL) (V : Vw), ((0 ≤ leader ∧ leader < 32) → IsNextM leader p rs joins mv V) ∧ (¬ (0 ≤ leader ∧ leader < 32) → V = ⟨0, [], []⟩) ∧ e = .returned (.agg #[.int .i64 V.num, m.v, o.v]) ∧ Row w' m.v 1 (intRows V.mem) ∧ Row w' o.v 1 (intRows V.own) ∧ Below w.heap.size w w'
def NxM (mem ow : List Int) (mv : List (Int × Int)) (vo : Value) (L : Ents) (w : World) (i : Value) (wr : World) : Prop :=
  ∃ (k : Nat) (oo : Ents), i = .int .i64 (k : Int) ∧ k ≤ mv.length ∧ OwnT 3 1 vo (intRows (mvF mem ow (mv.take k))) oo ∧ Kn [] w wr (oo ++ L)
theorem perm5 {α : Type} (x y z u : α) (om : List α) : (x :: y :: z :: u :: om).Perm (u :: x :: y :: z :: om) := List.perm_middle (l₁ := [x, y, z])
set_option maxRecDepth 100000 in
set_option maxHeartbeats 8000000 in
theorem Next_mv {w : World} {v wv dv mvv : Value} {rs : List Rep} {srt dead : List Int} {mvs : List (Int × Int)} (leader p : Int) (h : RepRd w v rs) (hl : rs.length ≤ 1000) (hcore : ∀ (k : Nat) (r : Rep), rs[k]? = some r → r.core = (k : Int)) (hnum : ∀ z ∈ numsOf p rs, 0 ≤ z ∧ z ≤ 1073741824)
    (hs : SortsTo w wv srt) (hsl : srt.length ≤ 1000) (hvb : ViewsB rs) (hd : Row w dv 1 (intRows dead)) (hmv : Row w mvv 2 (mvRows mvs)) :
    Calls Try.prog 12 #[.int .i64 leader, .int .i64 p, v, wv, dv, mvv] w (NextOutM leader p rs (keepL dead srt) mvs w) := by
  have KN := Kn.start w
  have H := Lib.hid h
  have HCORE := Lib.hid hcore
  have HNUM := Lib.hid hnum
  have HSRT := Lib.hid hs
  have HSL := Lib.hid hsl
  have HDD := Lib.hid hd
  have HVB := Lib.hid hvb
  obtain ⟨a, c, rfl, _, hf⟩ := h.form
  obtain ⟨mva, mvc, rfl, hmvm, hmvf⟩ := mv_at hmv
  have HMV := Lib.hid hmvf
  obtain ⟨mvn, hmvn⟩ : ∃ mvn, mvn = mvs.length := ⟨_, rfl⟩
  have HMVN := Lib.hid hmvn
  rw [← hmvn] at hmvm ⊢
  unfold maxLen at hmvm
  obtain ⟨n, hn⟩ : ∃ n, n = rs.length := ⟨_, rfl⟩
  have HN := Lib.hid hn
  have HF := Lib.hid hf
  rw [← hn] at H hl ⊢
  clear h hf hn hcore hnum hs hsl hd hvb hmv hmvf hmvn
  go_enter Try.func12, Try.ntmps12
  go_wp2_with (first | ((with_reducible refine wpList_gate ?_); first | (refine wpList_kn_lit KN (by rfl) 22 3 1 _ rfl 29 rfl Try.underlying22 #[.int .i64 p] (by kernel_rfl) ?_; clear KN; intro g29 wx hg29 KN) | ((with_reducible refine gate_load ?_ ?_); rfl; first | (refine ks_loadW KN 40 Try.underlying40 ?_) | (refine ks_load1 KN 3 Try.underlying3 ?_) | (refine ks_load1 KN 4 Try.underlying4 ?_) | (refine ks_load1 KN 22 Try.underlying22 ?_) | (refine ks_loadW KN 84 Try.underlying84 ?_) | (refine ks_loadW KN 30 Try.underlying30 ?_)) | ((with_reducible refine gate_store ?_ ?_); rfl; first | (refine ks_storeW KN 40 ?_; clear KN; intro wx KN) | (refine ks_storeA KN 40 ?_; clear KN; intro wx KN) | (refine ks_storeW KN 30 ?_; clear KN; intro wx KN) | (refine ks_storeA KN 30 ?_; clear KN; intro wx KN) | (refine ks_store1 KN 3 ?_; clear KN; intro wx KN) | (refine ks_store1 KN 22 ?_; clear KN; intro wx KN) | (refine ks_storeW KN 84 ?_; clear KN; intro wx KN) | (refine ks_storeA KN 84 ?_; clear KN; intro wx KN)) | ((with_reducible refine gate_new ?_ ?_); rfl; first | (refine ks_alloc KN 30 (q := 12) #[.int .i64 0, .slice none 0 0, .slice none 0 0] ?_; clear KN; intro g12 wx hg12 KN) | (refine ks_alloc KN 40 (q := 16) #[.int .i64 0, .int .i64 0, .slice none 0 0, .slice none 0 0, .slice none 0 0, .slice none 0 0, .slice none 0 0, .slice none 0 0, .slice none 0 0, .slice none 0 0, .bool false, .int .i64 0, .slice none 0 0, .slice none 0 0, .slice none 0 0, .slice none 0 0, .slice none 0 0, .slice none 0 0, .slice none 0 0, .slice none 0 0] ?_; clear KN; intro g16 wx hg16 KN) | (refine wpList_built rfl 30 #[] rfl #[.int .i64 0, .slice none 0 0, .slice none 0 0] (by kernel_rfl) ?_) | (refine ks_alloc KN 30 (q := 17) #[.int .i64 0, .slice none 0 0, .slice none 0 0] ?_; clear KN; intro g17 wx hg17 KN) | (refine ks_alloc KN 30 (q := 18) #[.int .i64 0, .slice none 0 0, .slice none 0 0] ?_; clear KN; intro g18 wx hg18 KN) | (refine ks_alloc KN 84 (q := 25) #[.int .i64 0, .int .i64 0] ?_; clear KN; intro g25 wx hg25 KN))))
  go_loopw [13, 14, 32] (fun vn vr i wr => NxA p rs g12 w vn vr i wr) (fun _ _ i _ => n - (intOf i).toNat)
  case atStart => exact ⟨0, [(g29, CapAt 3 1 1 (intRows [p]))], [], rfl, Nat.zero_le _, .blk (L := intRows [p]) (cap := 1) (Nat.le_refl 1) (by decide) (intRows_len _), .nil, (KN.perm (List.Perm.swap _ _ _)).weak (fun o ho => ⟨_, ho, rfl, rfl⟩) (.there .here)⟩
  case round =>
    clear KN
    obtain ⟨k, on, or, rfl, hk, ON, OR, KN⟩ := hrel
    have HON := Lib.hid ON
    have HOR := Lib.hid OR
    obtain ⟨xa, xn, xc, rfl⟩ := ON.form3
    obtain ⟨ya, yn, yc, rfl⟩ := OR.form3
    rw [← HN.out] at hk
    clear ON OR
    by_cases hlt : k < n
    · obtain ⟨r, hr⟩ : ∃ r, rs[k]? = some r := ⟨_, List.getElem?_eq_getElem (by rw [← HN.out]; exact hlt)⟩
      obtain ⟨g, off, cs, rfl, hg, hc1, hc2, hd, hrange⟩ := HF.out k r hr
      obtain ⟨m, o, s0, s2, s3, nm, no, p0, p2, p3, rfl, _⟩ := hd
      have HR := Lib.hid hr
      have hck := HCORE.out k r hr
      rw [hck] at hrange
      have RNG := Lib.hid hrange
      have hc1' : n ≤ c := by rw [HN.out]; exact hc1
      have HNS := Lib.hid (numsOf_snoc (p := p) hr)
      have HNL : Hid ((numsOf p (rs.take k)).length ≤ 2001) := Lib.hid (by have := numsOf_len p (rs.take k); rw [List.length_take] at this; omega)
      unfold maxLen at hc2
      obtain ⟨rd, hrd⟩ : ∃ q, q = r.ready := ⟨_, rfl⟩
      rw [← hrd] at RNG
      have HRD := Lib.hid hrd
      clear hr hrange hc1 hrd hck
      go_upto_region 7 with (first | ((with_reducible refine wpList_gate ?_); first | (refine wpList_kn_lit KN (by rfl) 22 3 1 _ rfl 40 rfl Try.underlying22 #[.int .i64 r.view.num] (by kernel_rfl) ?_; clear KN; intro g40 wx hg40 KN; replace KN := KN.perm (List.Perm.cons _ (List.Perm.cons _ (List.Perm.cons _ List.perm_append_comm)))) | (at_builtin; refine wpList_kn_append1 KN HON.out (by rfl) _ _ 22 rfl 8 Try.underlying22 (by kernel_rfl) (by decide) rfl 1 rfl rfl (by kernel_rfl) (by rw [List.length_map]; have := HNL.out; unfold maxLen; omega) (by rw [List.length_map]; have := HNL.out; omega) (f := fun o => (g16, _) :: (g12, _) :: (or ++ o)) (.cons _ (.cons _ (.app .id _))) rfl ?_; clear KN; intro v41 wx ol41 OW41 KN; have HO41 := Lib.hid OW41; clear OW41) | ((with_reducible refine gate_load ?_ ?_); rfl; first | (refine wpList_kn_oldN KN (by rfl) 40 _ rfl g _ rfl (repA (k : Int) r.view.num m o s0 s2 s3 rd r.next.num nm no p0 p2 p3) RNG.out hg (by simp) _ Try.underlying40 rfl (by kernel_rfl) ?_) | (refine ks_loadW KN 40 Try.underlying40 ?_) | (refine ks_load1 KN 3 Try.underlying3 ?_) | (refine ks_load1 KN 4 Try.underlying4 ?_) | (refine ks_load1 KN 22 Try.underlying22 ?_) | (refine ks_loadW KN 84 Try.underlying84 ?_) | (refine ks_loadW KN 30 Try.underlying30 ?_)) | ((with_reducible refine gate_store ?_ ?_); rfl; first | (refine ks_storeW KN 40 ?_; clear KN; intro wx KN) | (refine ks_storeA KN 40 ?_; clear KN; intro wx KN) | (refine ks_storeW KN 30 ?_; clear KN; intro wx KN) | (refine ks_storeA KN 30 ?_; clear KN; intro wx KN) | (refine ks_store1 KN 3 ?_; clear KN; intro wx KN) | (refine ks_store1 KN 22 ?_; clear KN; intro wx KN) | (refine ks_storeW KN 84 ?_; clear KN; intro wx KN) | (refine ks_storeA KN 84 ?_; clear KN; intro wx KN)) | ((with_reducible refine gate_new ?_ ?_); rfl; first | (refine ks_alloc KN 30 (q := 12) #[.int .i64 0, .slice none 0 0, .slice none 0 0] ?_; clear KN; intro g12 wx hg12 KN) | (refine ks_alloc KN 40 (q := 16) #[.int .i64 0, .int .i64 0, .slice none 0 0, .slice none 0 0, .slice none 0 0, .slice none 0 0, .slice none 0 0, .slice none 0 0, .slice none 0 0, .slice none 0 0, .bool false, .int .i64 0, .slice none 0 0, .slice none 0 0, .slice none 0 0, .slice none 0 0, .slice none 0 0, .slice none 0 0, .slice none 0 0, .slice none 0 0] ?_; clear KN; intro g16 wx hg16 KN) | (refine wpList_built rfl 30 #[] rfl #[.int .i64 0, .slice none 0 0, .slice none 0 0] (by kernel_rfl) ?_) | (refine ks_alloc KN 30 (q := 17) #[.int .i64 0, .slice none 0 0, .slice none 0 0] ?_; clear KN; intro g17 wx hg17 KN) | (refine ks_alloc KN 30 (q := 18) #[.int .i64 0, .slice none 0 0, .slice none 0 0] ?_; clear KN; intro g18 wx hg18 KN) | (refine ks_alloc KN 84 (q := 25) #[.int .i64 0, .int .i64 0] ?_; clear KN; intro g25 wx hg25 KN))))
      (try go_frame)
      clear HON
      cases hb : rd with
      | true =>
        replace KN := KN.as_ g16 (repA (k : Int) r.view.num m o s0 s2 s3 true r.next.num nm no p0 p2 p3) (by repeat (first | exact Repl.here | apply Repl.there)) (by rw [hb])
        have HNX : Hid (numsOf p (rs.take (k + 1)) = (numsOf p (rs.take k) ++ [r.view.num]) ++ [r.next.num]) := Lib.hid (by rw [HNS.out]; unfold repNums; rw [if_pos (by rw [← HRD.out]; exact hb)]; simp)
        clear hb
        go_wp2_with (first | (go_at_call 26; refine (include_end (f := fun o => (g16, _) :: (g12, _) :: (ol49 ++ o)) KN (.cons _ (.cons _ (.app .id _))) HOR.out (by rw [upto_len]; omega) (k : Int) (fun y hy => (upto_lt y hy).2)).mono ?_; rintro e wx ⟨v2, ol2, gx, rfl, O2, K2⟩; have HO2 := Lib.hid O2; clear KN; have KN := K2; clear K2 O2) | ((with_reducible refine wpList_gate ?_); first | (refine wpList_kn_lit KN (by rfl) 22 3 1 _ rfl 48 rfl Try.underlying22 #[.int .i64 r.next.num] (by kernel_rfl) ?_; clear KN; intro g48 wx hg48 KN) | (at_builtin; refine wpList_kn_append1 KN HO41.out (by rfl) _ _ 22 rfl 8 Try.underlying22 (by kernel_rfl) (by decide) rfl 1 rfl rfl (by kernel_rfl) (by rw [List.length_append, List.length_map]; have := HNL.out; unfold maxLen; simp; omega) (by rw [List.length_append, List.length_map]; have := HNL.out; simp; omega) (f := fun o => (g16, _) :: (g12, _) :: (or ++ o)) (.cons _ (.cons _ (.app .id _))) rfl ?_; clear KN; intro v49 wx ol49 OW49 KN; have HO49 := Lib.hid OW49; clear OW49; replace KN := KN.perm (List.Perm.cons _ (List.Perm.cons _ List.perm_append_comm))) | ((with_reducible refine gate_load ?_ ?_); rfl; first | (refine ks_loadW KN 40 Try.underlying40 ?_) | (refine ks_load1 KN 3 Try.underlying3 ?_) | (refine ks_load1 KN 4 Try.underlying4 ?_) | (refine ks_load1 KN 22 Try.underlying22 ?_) | (refine ks_loadW KN 84 Try.underlying84 ?_) | (refine ks_loadW KN 30 Try.underlying30 ?_)) | ((with_reducible refine gate_store ?_ ?_); rfl; first | (refine ks_storeW KN 40 ?_; clear KN; intro wx KN) | (refine ks_storeA KN 40 ?_; clear KN; intro wx KN) | (refine ks_storeW KN 30 ?_; clear KN; intro wx KN) | (refine ks_storeA KN 30 ?_; clear KN; intro wx KN) | (refine ks_store1 KN 3 ?_; clear KN; intro wx KN) | (refine ks_store1 KN 22 ?_; clear KN; intro wx KN) | (refine ks_storeW KN 84 ?_; clear KN; intro wx KN) | (refine ks_storeA KN 84 ?_; clear KN; intro wx KN)) | ((with_reducible refine gate_new ?_ ?_); rfl; first | (refine ks_alloc KN 30 (q := 12) #[.int .i64 0, .slice none 0 0, .slice none 0 0] ?_; clear KN; intro g12 wx hg12 KN) | (refine ks_alloc KN 40 (q := 16) #[.int .i64 0, .int .i64 0, .slice none 0 0, .slice none 0 0, .slice none 0 0, .slice none 0 0, .slice none 0 0, .slice none 0 0, .slice none 0 0, .slice none 0 0, .bool false, .int .i64 0, .slice none 0 0, .slice none 0 0, .slice none 0 0, .slice none 0 0, .slice none 0 0, .slice none 0 0, .slice none 0 0, .slice none 0 0] ?_; clear KN; intro g16 wx hg16 KN) | (refine wpList_built rfl 30 #[] rfl #[.int .i64 0, .slice none 0 0, .slice none 0 0] (by kernel_rfl) ?_) | (refine ks_alloc KN 30 (q := 17) #[.int .i64 0, .slice none 0 0, .slice none 0 0] ?_; clear KN; intro g17 wx hg17 KN) | (refine ks_alloc KN 30 (q := 18) #[.int .i64 0, .slice none 0 0, .slice none 0 0] ?_; clear KN; intro g18 wx hg18 KN) | (refine ks_alloc KN 84 (q := 25) #[.int .i64 0, .int .i64 0] ?_; clear KN; intro g25 wx hg25 KN))))
        go_roundw
        case rel => exact ⟨k + 1, ol49, ol2, by go_num, by rw [← HN.out]; omega, by rw [HNX.out, ← intRows_snoc, ← intRows_snoc]; exact HO49.out, by rw [upto_succ]; exact HO2.out, (KN.drop .here).drop .here⟩
        case measure => simp [intOf]; omega
      | false =>
        replace KN := KN.as_ g16 (repA (k : Int) r.view.num m o s0 s2 s3 false r.next.num nm no p0 p2 p3) (by repeat (first | exact Repl.here | apply Repl.there)) (by rw [hb])
        have HNX : Hid (numsOf p (rs.take (k + 1)) = numsOf p (rs.take k) ++ [r.view.num]) := Lib.hid (by rw [HNS.out]; unfold repNums; rw [if_neg (by rw [← HRD.out, hb]; decide)])
        clear hb
        replace KN := KN.perm (List.Perm.cons _ (List.Perm.cons _ List.perm_append_comm))
        go_wp2_with (first | (go_at_call 26; refine (include_end (f := fun o => (g16, _) :: (g12, _) :: (ol41 ++ o)) KN (.cons _ (.cons _ (.app .id _))) HOR.out (by rw [upto_len]; omega) (k : Int) (fun y hy => (upto_lt y hy).2)).mono ?_; rintro e wx ⟨v2, ol2, gx, rfl, O2, K2⟩; have HO2 := Lib.hid O2; clear KN; have KN := K2; clear K2 O2) | ((with_reducible refine wpList_gate ?_); first | ((with_reducible refine gate_load ?_ ?_); rfl; first | (refine ks_loadW KN 40 Try.underlying40 ?_) | (refine ks_load1 KN 3 Try.underlying3 ?_) | (refine ks_load1 KN 4 Try.underlying4 ?_) | (refine ks_load1 KN 22 Try.underlying22 ?_) | (refine ks_loadW KN 84 Try.underlying84 ?_) | (refine ks_loadW KN 30 Try.underlying30 ?_)) | ((with_reducible refine gate_store ?_ ?_); rfl; first | (refine ks_storeW KN 40 ?_; clear KN; intro wx KN) | (refine ks_storeA KN 40 ?_; clear KN; intro wx KN) | (refine ks_storeW KN 30 ?_; clear KN; intro wx KN) | (refine ks_storeA KN 30 ?_; clear KN; intro wx KN) | (refine ks_store1 KN 3 ?_; clear KN; intro wx KN) | (refine ks_store1 KN 22 ?_; clear KN; intro wx KN) | (refine ks_storeW KN 84 ?_; clear KN; intro wx KN) | (refine ks_storeA KN 84 ?_; clear KN; intro wx KN)) | ((with_reducible refine gate_new ?_ ?_); rfl; first | (refine ks_alloc KN 30 (q := 12) #[.int .i64 0, .slice none 0 0, .slice none 0 0] ?_; clear KN; intro g12 wx hg12 KN) | (refine ks_alloc KN 40 (q := 16) #[.int .i64 0, .int .i64 0, .slice none 0 0, .slice none 0 0, .slice none 0 0, .slice none 0 0, .slice none 0 0, .slice none 0 0, .slice none 0 0, .slice none 0 0, .bool false, .int .i64 0, .slice none 0 0, .slice none 0 0, .slice none 0 0, .slice none 0 0, .slice none 0 0, .slice none 0 0, .slice none 0 0, .slice none 0 0] ?_; clear KN; intro g16 wx hg16 KN) | (refine wpList_built rfl 30 #[] rfl #[.int .i64 0, .slice none 0 0, .slice none 0 0] (by kernel_rfl) ?_) | (refine ks_alloc KN 30 (q := 17) #[.int .i64 0, .slice none 0 0, .slice none 0 0] ?_; clear KN; intro g17 wx hg17 KN) | (refine ks_alloc KN 30 (q := 18) #[.int .i64 0, .slice none 0 0, .slice none 0 0] ?_; clear KN; intro g18 wx hg18 KN) | (refine ks_alloc KN 84 (q := 25) #[.int .i64 0, .int .i64 0] ?_; clear KN; intro g25 wx hg25 KN))))
        go_roundw
        case rel => exact ⟨k + 1, ol41, ol2, by go_num, by rw [← HN.out]; omega, by rw [HNX.out, ← intRows_snoc]; exact HO41.out, by rw [upto_succ]; exact HO2.out, (KN.drop .here).drop .here⟩
        case measure => simp [intOf]; omega
    · obtain rfl : k = n := by omega
      have HTK : Hid (rs.take k = rs) := Lib.hid (List.take_of_length_le (by rw [← HN.out]; omega))
      rw [HTK.out] at HON
      have ROWN := Lib.hid (HON.out.row (f := fun o => o) (KN.sub (List.Sublist.cons _ (List.sublist_append_left _ _))) .id)
      have HN0 : Hid (0 < (numsOf p rs).length) := Lib.hid (by unfold numsOf; simp)
      go_upto_region 11 with fail
      (try go_frame)
      by_cases hlc : 0 ≤ leader ∧ leader < 32
      rotate_left
      · have HLC := Lib.hid hlc
        clear hlc
        go_wp2_with (first | (go_at_call 27; refine (isCore_no _ HLC.out _).mono ?_; rintro e wx ⟨rfl, rfl⟩) | ((with_reducible refine wpList_gate ?_); first | ((with_reducible refine gate_load ?_ ?_); rfl; first | (refine ks_loadW KN 40 Try.underlying40 ?_) | (refine ks_load1 KN 3 Try.underlying3 ?_) | (refine ks_load1 KN 4 Try.underlying4 ?_) | (refine ks_load1 KN 22 Try.underlying22 ?_) | (refine ks_loadW KN 84 Try.underlying84 ?_) | (refine ks_loadW KN 30 Try.underlying30 ?_)) | ((with_reducible refine gate_store ?_ ?_); rfl; first | (refine ks_storeW KN 40 ?_; clear KN; intro wx KN) | (refine ks_storeA KN 40 ?_; clear KN; intro wx KN) | (refine ks_storeW KN 30 ?_; clear KN; intro wx KN) | (refine ks_storeA KN 30 ?_; clear KN; intro wx KN) | (refine ks_store1 KN 3 ?_; clear KN; intro wx KN) | (refine ks_store1 KN 22 ?_; clear KN; intro wx KN) | (refine ks_storeW KN 84 ?_; clear KN; intro wx KN) | (refine ks_storeA KN 84 ?_; clear KN; intro wx KN)) | ((with_reducible refine gate_new ?_ ?_); rfl; first | (refine ks_alloc KN 30 (q := 12) #[.int .i64 0, .slice none 0 0, .slice none 0 0] ?_; clear KN; intro g12 wx hg12 KN) | (refine ks_alloc KN 40 (q := 16) #[.int .i64 0, .int .i64 0, .slice none 0 0, .slice none 0 0, .slice none 0 0, .slice none 0 0, .slice none 0 0, .slice none 0 0, .slice none 0 0, .slice none 0 0, .bool false, .int .i64 0, .slice none 0 0, .slice none 0 0, .slice none 0 0, .slice none 0 0, .slice none 0 0, .slice none 0 0, .slice none 0 0, .slice none 0 0] ?_; clear KN; intro g16 wx hg16 KN) | (refine wpList_built rfl 30 #[] rfl #[.int .i64 0, .slice none 0 0, .slice none 0 0] (by kernel_rfl) ?_) | (refine ks_alloc KN 30 (q := 17) #[.int .i64 0, .slice none 0 0, .slice none 0 0] ?_; clear KN; intro g17 wx hg17 KN) | (refine ks_alloc KN 30 (q := 18) #[.int .i64 0, .slice none 0 0, .slice none 0 0] ?_; clear KN; intro g18 wx hg18 KN) | (refine ks_alloc KN 84 (q := 25) #[.int .i64 0, .int .i64 0] ?_; clear KN; intro g25 wx hg25 KN))))
        refine bodyPost_ret (results_cell_row (p := 12) Try.results12 _ _ g12 30 #[.int .i64 0, .slice none 0 0, .slice none 0 0] (0, 0) _ rfl (KN.at_ (by repeat (first | exact Has.here | refine Has.there ?_))) Try.underlying30 rfl (by kernel_rfl)) rfl ?_
        exact ⟨⟨none, 0, 0⟩, ⟨none, 0, 0⟩, ⟨0, [], []⟩, fun q => absurd q HLC.out, fun _ => rfl, rfl, nilRow _, nilRow _, KN.toBelow⟩
      have hl0 : 0 ≤ leader := hlc.1
      have hl1 : leader < 32 := hlc.2
      have HLC := Lib.hid hlc
      clear hlc
      go_upto_region 12 with (first | (go_at_call 27; refine (isCore_yes _ hl0 hl1 _).mono ?_; rintro e wx ⟨rfl, rfl⟩) | (go_at_call 28; refine (Min_any ROWN.out HN0.out).mono ?_; rintro e wx ⟨mn, rfl, hmn, rfl⟩; have hmn0 : ¬ mn < 0 := (by have := (HNUM.out mn hmn.1).1; omega); have hmn1 : decide (mn < 0) = false := decide_eq_false hmn0; clear hmn) | (go_at_call 25; refine (Max_any ROWN.out HN0.out).mono ?_; rintro e wx ⟨mx, rfl, hmx, rfl⟩; have HMX := Lib.hid hmx; have HB := Lib.hid (HNUM.out mx hmx.1); have hmx1 : decide (1073741824 < mx) = false := decide_eq_false (by have := HB.out.2; omega); clear hmx))
      have HMXB : Hid (0 ≤ mx ∧ mx ≤ 1073741824) := HB
      have hmxb1 := HB.out.1
      have hmxb2 := HB.out.2
      have hmod0 : 0 ≤ (mx + 1) % 32 := by omega
      have hmod1 : (mx + 1) % 32 < 32 := by omega
      have htm : (mx + 1).tmod 32 = (mx + 1) % 32 := Int.tmod_eq_emod_of_nonneg (by omega)
      have htm2 : (leader - (mx + 1) % 32 + 32).tmod 32 = (leader - (mx + 1) % 32 + 32) % 32 := Int.tmod_eq_emod_of_nonneg (by omega)
      have hr0 : 0 ≤ (leader - (mx + 1) % 32 + 32) % 32 := by omega
      have hr1 : (leader - (mx + 1) % 32 + 32) % 32 < 32 := by omega
      go_upto_region 14 with (first | (go_at_call 29; refine (baseView_any H.out KN.toBelow (by rw [← HN.out]; exact hl)).mono ?_; rintro e wx ⟨⟨ma, mn2, mc⟩, ⟨oa, on2, oc2⟩, b, ad, hbs, rfl, hbm, hbo, hbb⟩; have HBS := Lib.hid hbs; have HBM := Lib.hid hbm; have HBO := Lib.hid hbo; replace KN := KN.below hbb; clear hbs hbm hbo hbb) | ((with_reducible refine wpList_gate ?_); first | ((with_reducible refine gate_load ?_ ?_); rfl; first | (refine ks_loadW KN 40 Try.underlying40 ?_) | (refine ks_load1 KN 3 Try.underlying3 ?_) | (refine ks_load1 KN 4 Try.underlying4 ?_) | (refine ks_load1 KN 22 Try.underlying22 ?_) | (refine ks_loadW KN 84 Try.underlying84 ?_) | (refine ks_loadW KN 30 Try.underlying30 ?_)) | ((with_reducible refine gate_store ?_ ?_); rfl; first | (refine ks_storeW KN 40 ?_; clear KN; intro wx KN) | (refine ks_storeA KN 40 ?_; clear KN; intro wx KN) | (refine ks_storeW KN 30 ?_; clear KN; intro wx KN) | (refine ks_storeA KN 30 ?_; clear KN; intro wx KN) | (refine ks_store1 KN 3 ?_; clear KN; intro wx KN) | (refine ks_store1 KN 22 ?_; clear KN; intro wx KN) | (refine ks_storeW KN 84 ?_; clear KN; intro wx KN) | (refine ks_storeA KN 84 ?_; clear KN; intro wx KN)) | ((with_reducible refine gate_new ?_ ?_); rfl; first | (refine ks_alloc KN 30 (q := 12) #[.int .i64 0, .slice none 0 0, .slice none 0 0] ?_; clear KN; intro g12 wx hg12 KN) | (refine ks_alloc KN 40 (q := 16) #[.int .i64 0, .int .i64 0, .slice none 0 0, .slice none 0 0, .slice none 0 0, .slice none 0 0, .slice none 0 0, .slice none 0 0, .slice none 0 0, .slice none 0 0, .bool false, .int .i64 0, .slice none 0 0, .slice none 0 0, .slice none 0 0, .slice none 0 0, .slice none 0 0, .slice none 0 0, .slice none 0 0, .slice none 0 0] ?_; clear KN; intro g16 wx hg16 KN) | (refine wpList_built rfl 30 #[] rfl #[.int .i64 0, .slice none 0 0, .slice none 0 0] (by kernel_rfl) ?_) | (refine ks_alloc KN 30 (q := 17) #[.int .i64 0, .slice none 0 0, .slice none 0 0] ?_; clear KN; intro g17 wx hg17 KN) | (refine ks_alloc KN 30 (q := 18) #[.int .i64 0, .slice none 0 0, .slice none 0 0] ?_; clear KN; intro g18 wx hg18 KN) | (refine ks_alloc KN 84 (q := 25) #[.int .i64 0, .int .i64 0] ?_; clear KN; intro g25 wx hg25 KN))))
      (try go_frame)
      go_upto_region 15 with (first | (go_at_call 25; refine (Max_any (HON.out.row (f := fun o => o) (KN.sub (List.Sublist.cons _ (List.Sublist.cons _ (List.sublist_append_left _ _)))) .id) HN0.out).mono ?_; rintro e wx ⟨mx2, rfl, hmx2, rfl⟩; obtain rfl := HMX.out.unique hmx2; clear hmx2) | ((with_reducible refine wpList_gate ?_); first | ((with_reducible refine gate_load ?_ ?_); rfl; first | (refine ks_loadW KN 40 Try.underlying40 ?_) | (refine ks_load1 KN 3 Try.underlying3 ?_) | (refine ks_load1 KN 4 Try.underlying4 ?_) | (refine ks_load1 KN 22 Try.underlying22 ?_) | (refine ks_loadW KN 84 Try.underlying84 ?_) | (refine ks_loadW KN 30 Try.underlying30 ?_)) | ((with_reducible refine gate_store ?_ ?_); rfl; first | (refine ks_storeW KN 40 ?_; clear KN; intro wx KN) | (refine ks_storeA KN 40 ?_; clear KN; intro wx KN) | (refine ks_storeW KN 30 ?_; clear KN; intro wx KN) | (refine ks_storeA KN 30 ?_; clear KN; intro wx KN) | (refine ks_store1 KN 3 ?_; clear KN; intro wx KN) | (refine ks_store1 KN 22 ?_; clear KN; intro wx KN) | (refine ks_storeW KN 84 ?_; clear KN; intro wx KN) | (refine ks_storeA KN 84 ?_; clear KN; intro wx KN)) | ((with_reducible refine gate_new ?_ ?_); rfl; first | (refine wpList_built rfl 30 #[(0, .tmp 73)] rfl #[.int .i64 (mx + 1), .slice none 0 0, .slice none 0 0] (by kernel_rfl) ?_) | (refine ks_alloc KN 30 (q := 12) #[.int .i64 0, .slice none 0 0, .slice none 0 0] ?_; clear KN; intro g12 wx hg12 KN) | (refine ks_alloc KN 40 (q := 16) #[.int .i64 0, .int .i64 0, .slice none 0 0, .slice none 0 0, .slice none 0 0, .slice none 0 0, .slice none 0 0, .slice none 0 0, .slice none 0 0, .slice none 0 0, .bool false, .int .i64 0, .slice none 0 0, .slice none 0 0, .slice none 0 0, .slice none 0 0, .slice none 0 0, .slice none 0 0, .slice none 0 0, .slice none 0 0] ?_; clear KN; intro g16 wx hg16 KN) | (refine wpList_built rfl 30 #[] rfl #[.int .i64 0, .slice none 0 0, .slice none 0 0] (by kernel_rfl) ?_) | (refine ks_alloc KN 30 (q := 17) #[.int .i64 0, .slice none 0 0, .slice none 0 0] ?_; clear KN; intro g17 wx hg17 KN) | (refine ks_alloc KN 30 (q := 18) #[.int .i64 0, .slice none 0 0, .slice none 0 0] ?_; clear KN; intro g18 wx hg18 KN) | (refine ks_alloc KN 84 (q := 25) #[.int .i64 0, .int .i64 0] ?_; clear KN; intro g25 wx hg25 KN))))
      (try go_frame)
      replace KN := KN.sub (List.Sublist.cons_cons _ (List.Sublist.cons_cons _ (List.Sublist.cons_cons _ (List.sublist_append_right _ _))))
      go_upto_block 2 with (first | ((with_reducible refine wpList_gate ?_); first | ((with_reducible refine gate_load ?_ ?_); rfl; first | (refine ks_loadW KN 40 Try.underlying40 ?_) | (refine ks_load1 KN 3 Try.underlying3 ?_) | (refine ks_load1 KN 4 Try.underlying4 ?_) | (refine ks_load1 KN 22 Try.underlying22 ?_) | (refine ks_loadW KN 84 Try.underlying84 ?_) | (refine ks_loadW KN 30 Try.underlying30 ?_)) | ((with_reducible refine gate_store ?_ ?_); rfl; first | (refine ks_storeW KN 40 ?_; clear KN; intro wx KN) | (refine ks_storeA KN 40 ?_; clear KN; intro wx KN) | (refine ks_storeW KN 30 ?_; clear KN; intro wx KN) | (refine ks_storeA KN 30 ?_; clear KN; intro wx KN) | (refine ks_store1 KN 3 ?_; clear KN; intro wx KN) | (refine ks_store1 KN 22 ?_; clear KN; intro wx KN) | (refine ks_storeW KN 84 ?_; clear KN; intro wx KN) | (refine ks_storeA KN 84 ?_; clear KN; intro wx KN)) | ((with_reducible refine gate_new ?_ ?_); rfl; first | (refine ks_alloc KN 30 (q := 12) #[.int .i64 0, .slice none 0 0, .slice none 0 0] ?_; clear KN; intro g12 wx hg12 KN) | (refine ks_alloc KN 40 (q := 16) #[.int .i64 0, .int .i64 0, .slice none 0 0, .slice none 0 0, .slice none 0 0, .slice none 0 0, .slice none 0 0, .slice none 0 0, .slice none 0 0, .slice none 0 0, .bool false, .int .i64 0, .slice none 0 0, .slice none 0 0, .slice none 0 0, .slice none 0 0, .slice none 0 0, .slice none 0 0, .slice none 0 0, .slice none 0 0] ?_; clear KN; intro g16 wx hg16 KN) | (refine wpList_built rfl 30 #[] rfl #[.int .i64 0, .slice none 0 0, .slice none 0 0] (by kernel_rfl) ?_) | (refine ks_alloc KN 30 (q := 17) #[.int .i64 0, .slice none 0 0, .slice none 0 0] ?_; clear KN; intro g17 wx hg17 KN) | (refine ks_alloc KN 30 (q := 18) #[.int .i64 0, .slice none 0 0, .slice none 0 0] ?_; clear KN; intro g18 wx hg18 KN) | (refine ks_alloc KN 84 (q := 25) #[.int .i64 0, .int .i64 0] ?_; clear KN; intro g25 wx hg25 KN))))
      (try go_frame)
      obtain ⟨num, hnm⟩ : ∃ num, num = numFor leader mx := ⟨_, rfl⟩
      have HNM := Lib.hid hnm
      replace KN := KN.as_ g18 #[.int .i64 num, .slice none 0 0, .slice none 0 0] (by repeat (first | exact Repl.here | apply Repl.there)) (by rw [hnm]; unfold numFor; rfl)
      obtain ⟨B, hB⟩ : ∃ B, B = baseVf rs b ad := ⟨_, rfl⟩
      have HBV := Lib.hid hB
      have HBL : Hid (B.mem.length ≤ 1000 ∧ B.own.length ≤ 1000) := Lib.hid (by rw [hB]; exact baseVf_len HVB.out b ad)
      obtain ⟨b17, hb17⟩ : ∃ q, q = #[Value.int .i64 (baseVf rs b ad).num, .slice ma mn2 mc, .slice oa on2 oc2] := ⟨_, rfl⟩
      have HB17 := Lib.hid hb17
      replace KN := KN.as_ g17 b17 (by repeat (first | exact Repl.here | apply Repl.there)) hb17.symm
      rw [← hB] at HBM HBO
      have HMN : Hid (mn2 = B.mem.length) := Lib.hid (by
        obtain ⟨_, _, hv, _, _⟩ := ints_form HBM.out
        simp only [SL.v, Value.slice.injEq] at hv
        exact hv.2.1)
      clear hnm hB hb17 htm htm2 hr0 hr1 hmod0 hmod1 hmxb1 hmxb2 hmx1 hmn1 hmn0
      clear HON
      go_wp2_with fail
      go_loopw [89] (fun i wr => NxD B.mem k num or g12 g17 g18 b17 w i wr) (fun i _ => mn2 - (intOf i).toNat)
      case atStart => exact ⟨0, .slice none 0 0, [], rfl, Nat.zero_le _, .nil, by rw [List.append_nil]; exact KN⟩
      case round =>
        clear KN hlt hk
        obtain ⟨j, vm, om, rfl, hj, OM, KN⟩ := hrel
        have HOM := Lib.hid OM
        obtain ⟨za, zn, zc, rfl⟩ := OM.form3
        clear OM
        rw [← HMN.out] at hj
        by_cases hjt : j < mn2
        · obtain ⟨x, hx⟩ : ∃ x, B.mem[j]? = some x := ⟨_, List.getElem?_eq_getElem (by rw [← HMN.out]; exact hjt)⟩
          have HX := Lib.hid hx
          obtain ⟨g, off, rfl, hg, hc1, hc2, hcell⟩ := row_at (HBM.out.below KN.toBelow) hx
          unfold maxLen at hc2
          have HIL : Hid ((inL (B.mem.take j) (upto k)).length ≤ 1000) := Lib.hid (by have := inL_len (B.mem.take j) (upto k); rw [List.length_take] at this; have := HBL.out.1; omega)
          clear hx
          by_cases hin : x ∈ upto k
          · have HD : Hid (decide (x ∈ upto k) = true) := Lib.hid (decide_eq_true hin)
            have HNX := Lib.hid (inL_yes HX.out hin)
            clear hin
            go_upto_region 19 with fail
            (try go_frame)
            clear hcell
            go_upto_region 20 with (go_at_call 30; refine (Contains_any (HOR.out.row (f := fun o => o) (KN.sub (List.Sublist.cons _ (List.Sublist.cons _ (List.Sublist.cons _ (List.sublist_append_left _ _))))) .id) x).mono ?_; rw [HD.out]; rintro e wx ⟨rfl, rfl⟩)
            (try go_frame)
            go_wp2_with (first | (refine ks_load1 KN 22 Try.underlying22 ?_) | (refine ks_store1 KN 22 ?_; clear KN; intro wx KN) | (refine wpList_kn_lit KN (by rfl) 22 3 1 _ rfl 99 rfl Try.underlying22 #[.int .i64 x] (by kernel_rfl) ?_; clear KN; intro g99 wx hg99 KN) | (at_builtin; refine wpList_kn_append1 KN HOM.out (by rfl) _ _ 22 rfl 8 Try.underlying22 (by kernel_rfl) (by decide) rfl 1 rfl rfl (by kernel_rfl) (by rw [List.length_map]; have := HIL.out; unfold maxLen; omega) (by rw [List.length_map]; have := HIL.out; omega) (f := fun o => (g18, _) :: (g17, _) :: (g12, _) :: (or ++ o)) (.cons _ (.cons _ (.cons _ (.app .id _)))) rfl ?_; clear KN; intro v100 wx ol100 OW100 KN; obtain ⟨ta, tn, tc, rfl⟩ := OW100.form3; have HO100 := Lib.hid OW100; clear OW100))
            replace KN := KN.as_ g18 #[.int .i64 num, .slice ta tn tc, .slice none 0 0] (by repeat (first | exact Repl.here | apply Repl.there)) (by kernel_rfl)
            go_roundw
            case rel => exact ⟨j + 1, _, ol100, by go_num, by rw [← HMN.out]; omega, by rw [HNX.out, ← intRows_snoc]; exact HO100.out, KN⟩
            case measure => simp [intOf]; omega
          · have HD : Hid (decide (x ∈ upto k) = false) := Lib.hid (decide_eq_false hin)
            have HNX := Lib.hid (inL_no HX.out hin)
            clear hin
            go_upto_region 19 with fail
            (try go_frame)
            clear hcell
            go_wp2_with (go_at_call 30; refine (Contains_any (HOR.out.row (f := fun o => o) (KN.sub (List.Sublist.cons _ (List.Sublist.cons _ (List.Sublist.cons _ (List.sublist_append_left _ _))))) .id) x).mono ?_; rw [HD.out]; rintro e wx ⟨rfl, rfl⟩)
            go_roundw
            case rel => exact ⟨j + 1, _, om, by go_num, by rw [← HMN.out]; omega, by rw [HNX.out]; exact HOM.out, KN⟩
            case measure => simp [intOf]; omega
        · obtain rfl : j = mn2 := by omega
          have HTK2 : Hid (B.mem.take j = B.mem) := Lib.hid (List.take_of_length_le (by rw [← HMN.out]; omega))
          rw [HTK2.out] at HOM
          go_upto_region 22 with fail
          (try go_frame)
          go_upto_region 23 with (first | (go_at_call 33; refine (HSRT.out _ KN.toBelow).mono ?_; rintro e wx ⟨fv, rfl, hb1, hcall⟩; have HCALL := Lib.hid hcall; replace KN := KN.below hb1; clear hb1 hcall) | (go_at_call 32; refine HCALL.out.mono ?_; rintro e wx ⟨s, rfl, hrs, hb2⟩; have HRS := Lib.hid hrs; replace KN := KN.below hb2; clear hb2 hrs HCALL) | (go_at_call 31; refine (exclude_any HRS.out (by have := HSL.out; omega) (HDD.out.below KN.toBelow)).mono ?_; rintro e wx ⟨vj, oj, rfl, OJ, K2⟩; have HOJ := Lib.hid OJ; have K3 := KN.call0 K2; clear K2 OJ; have K4 : Kn [] w wx ((g18, At #[.int .i64 num, .slice za zn zc, .slice none 0 0] 30) :: (g17, At b17 30) :: (g12, At #[.int .i64 0, .slice none 0 0, .slice none 0 0] 30) :: ((om ++ oj) ++ or)) := K3.perm (perm3 _ _ _ _ _ _); clear K3 KN; have KN := K4; clear K4) | ((with_reducible refine wpList_gate ?_); first | ((with_reducible refine gate_load ?_ ?_); rfl; first | (refine ks_loadW KN 40 Try.underlying40 ?_) | (refine ks_load1 KN 3 Try.underlying3 ?_) | (refine ks_load1 KN 4 Try.underlying4 ?_) | (refine ks_load1 KN 22 Try.underlying22 ?_) | (refine ks_loadW KN 84 Try.underlying84 ?_) | (refine ks_loadW KN 30 Try.underlying30 ?_)) | ((with_reducible refine gate_store ?_ ?_); rfl; first | (refine ks_storeW KN 40 ?_; clear KN; intro wx KN) | (refine ks_storeA KN 40 ?_; clear KN; intro wx KN) | (refine ks_storeW KN 30 ?_; clear KN; intro wx KN) | (refine ks_storeA KN 30 ?_; clear KN; intro wx KN) | (refine ks_store1 KN 3 ?_; clear KN; intro wx KN) | (refine ks_store1 KN 22 ?_; clear KN; intro wx KN) | (refine ks_storeW KN 84 ?_; clear KN; intro wx KN) | (refine ks_storeA KN 84 ?_; clear KN; intro wx KN)) | ((with_reducible refine gate_new ?_ ?_); rfl; first | (refine ks_alloc KN 30 (q := 12) #[.int .i64 0, .slice none 0 0, .slice none 0 0] ?_; clear KN; intro g12 wx hg12 KN) | (refine ks_alloc KN 40 (q := 16) #[.int .i64 0, .int .i64 0, .slice none 0 0, .slice none 0 0, .slice none 0 0, .slice none 0 0, .slice none 0 0, .slice none 0 0, .slice none 0 0, .slice none 0 0, .bool false, .int .i64 0, .slice none 0 0, .slice none 0 0, .slice none 0 0, .slice none 0 0, .slice none 0 0, .slice none 0 0, .slice none 0 0, .slice none 0 0] ?_; clear KN; intro g16 wx hg16 KN) | (refine wpList_built rfl 30 #[] rfl #[.int .i64 0, .slice none 0 0, .slice none 0 0] (by kernel_rfl) ?_) | (refine ks_alloc KN 30 (q := 17) #[.int .i64 0, .slice none 0 0, .slice none 0 0] ?_; clear KN; intro g17 wx hg17 KN) | (refine ks_alloc KN 30 (q := 18) #[.int .i64 0, .slice none 0 0, .slice none 0 0] ?_; clear KN; intro g18 wx hg18 KN) | (refine ks_alloc KN 84 (q := 25) #[.int .i64 0, .int .i64 0] ?_; clear KN; intro g25 wx hg25 KN))))
          (try go_frame)
          obtain ⟨ja, jn, jc, rfl⟩ := HOJ.out.form3
          obtain ⟨js, hjs⟩ : ∃ js, js = keepL dead srt := ⟨_, rfl⟩
          have HJS := Lib.hid hjs
          have HJL : Hid (js.length ≤ 1000) := Lib.hid (by rw [hjs]; exact Nat.le_trans (keepL_le _ _) HSL.out)
          rw [← hjs] at HOJ ⊢
          have HJR := Lib.hid (HOJ.out.row (f := fun o => o) (KN.sub (List.Sublist.cons _ (List.Sublist.cons _ (List.Sublist.cons _ ((List.sublist_append_right _ _).trans (List.sublist_append_left _ _)))))) .id)
          clear hjs
          obtain ⟨cs, hcs⟩ : ∃ cs, cs = upto k ++ js := ⟨_, rfl⟩
          have HCS := Lib.hid hcs
          have HCL : Hid (cs.length ≤ 2000) := Lib.hid (by rw [hcs, List.length_append, upto_len]; have := HJL.out; omega)
          obtain ⟨m0, hm0⟩ : ∃ m0, m0 = inL B.mem (upto k) := ⟨_, rfl⟩
          have HM0 := Lib.hid hm0
          have HML : Hid (m0.length ≤ 1000) := Lib.hid (by rw [hm0]; have := inL_len B.mem (upto k); have := HBL.out.1; omega)
          rw [← hm0] at HOM
          clear hm0 hcs hj hjt
          go_upto_block 4 with (first | ((with_reducible refine wpList_gate ?_); first | (at_builtin; refine wpList_kn_appendR (f := fun o => (g18, _) :: (g17, _) :: (g12, _) :: ((om ++ oj) ++ o)) KN HOR.out (by rfl) _ _ 22 rfl 8 Try.underlying22 int_info (by decide) rfl (.slice ja jn jc) rfl _ HJR.out (intRows_len _) (intRows_one _) (by rw [List.length_map, List.length_map, upto_len]; have := HJL.out; unfold maxLen; omega) (by rw [List.length_map, List.length_map, upto_len]; have := HJL.out; omega) (.cons _ (.cons _ (.cons _ (.app .id _)))) rfl ?_; clear KN; intro vc wx oc OC KN; rw [← List.map_append, ← HCS.out] at OC; obtain ⟨ca, cn, cc, rfl, hcn⟩ := OC.form4; rw [List.length_map] at hcn; have HOC := Lib.hid OC; have HCN := Lib.hid hcn; clear OC hcn) | ((with_reducible refine gate_load ?_ ?_); rfl; first | (refine ks_loadW KN 40 Try.underlying40 ?_) | (refine ks_load1 KN 3 Try.underlying3 ?_) | (refine ks_load1 KN 4 Try.underlying4 ?_) | (refine ks_load1 KN 22 Try.underlying22 ?_) | (refine ks_loadW KN 84 Try.underlying84 ?_) | (refine ks_loadW KN 30 Try.underlying30 ?_)) | ((with_reducible refine gate_store ?_ ?_); rfl; first | (refine ks_storeW KN 40 ?_; clear KN; intro wx KN) | (refine ks_storeA KN 40 ?_; clear KN; intro wx KN) | (refine ks_storeW KN 30 ?_; clear KN; intro wx KN) | (refine ks_storeA KN 30 ?_; clear KN; intro wx KN) | (refine ks_store1 KN 3 ?_; clear KN; intro wx KN) | (refine ks_store1 KN 22 ?_; clear KN; intro wx KN) | (refine ks_storeW KN 84 ?_; clear KN; intro wx KN) | (refine ks_storeA KN 84 ?_; clear KN; intro wx KN)) | ((with_reducible refine gate_new ?_ ?_); rfl; first | (refine ks_alloc KN 30 (q := 12) #[.int .i64 0, .slice none 0 0, .slice none 0 0] ?_; clear KN; intro g12 wx hg12 KN) | (refine ks_alloc KN 40 (q := 16) #[.int .i64 0, .int .i64 0, .slice none 0 0, .slice none 0 0, .slice none 0 0, .slice none 0 0, .slice none 0 0, .slice none 0 0, .slice none 0 0, .slice none 0 0, .bool false, .int .i64 0, .slice none 0 0, .slice none 0 0, .slice none 0 0, .slice none 0 0, .slice none 0 0, .slice none 0 0, .slice none 0 0, .slice none 0 0] ?_; clear KN; intro g16 wx hg16 KN) | (refine wpList_built rfl 30 #[] rfl #[.int .i64 0, .slice none 0 0, .slice none 0 0] (by kernel_rfl) ?_) | (refine ks_alloc KN 30 (q := 17) #[.int .i64 0, .slice none 0 0, .slice none 0 0] ?_; clear KN; intro g17 wx hg17 KN) | (refine ks_alloc KN 30 (q := 18) #[.int .i64 0, .slice none 0 0, .slice none 0 0] ?_; clear KN; intro g18 wx hg18 KN) | (refine ks_alloc KN 84 (q := 25) #[.int .i64 0, .int .i64 0] ?_; clear KN; intro g25 wx hg25 KN))))
          (try go_frame)
          have K4 : Kn [] w _ ((g18, At #[.int .i64 num, .slice za zn zc, .slice none 0 0] 30) :: (g17, At b17 30) :: (g12, At #[.int .i64 0, .slice none 0 0, .slice none 0 0] 30) :: (oc ++ om)) := (KN.sub (List.Sublist.cons_cons _ (List.Sublist.cons_cons _ (List.Sublist.cons_cons _ ((List.sublist_append_left om oj).append_right oc))))).perm (List.Perm.cons _ (List.Perm.cons _ (List.Perm.cons _ List.perm_append_comm)))
          clear KN
          have KN := K4
          clear K4
          go_wp2_with fail
          go_loopw [112] (fun i wr => NxF m0 cs num oc g12 g17 g18 b17 w i wr) (fun i _ => cn - (intOf i).toNat)
          case atStart => exact ⟨0, _, om, rfl, Nat.zero_le _, HOM.out, KN⟩
          case round =>
            clear KN HOM
            obtain ⟨q, vm, om, rfl, hq, OM, KN⟩ := hrel
            have HOM := Lib.hid OM
            obtain ⟨za, zn, zc, rfl, hzn⟩ := OM.form4
            rw [List.length_map] at hzn
            have HZN := Lib.hid hzn
            clear OM hzn
            rw [← HCN.out] at hq
            by_cases hqt : q < cn
            · obtain ⟨x, hx⟩ : ∃ x, cs[q]? = some x := ⟨_, List.getElem?_eq_getElem (by rw [← HCN.out]; exact hqt)⟩
              have HX := Lib.hid hx
              obtain ⟨g, off, rfl, hg, hc1, hc2, hcell⟩ := row_at (HOC.out.row (f := fun o => o) (KN.sub (List.Sublist.cons _ (List.Sublist.cons _ (List.Sublist.cons _ (List.sublist_append_left _ _))))) .id) hx
              unfold maxLen at hc2
              have HIL : Hid ((joinU m0 (cs.take q)).length ≤ 3000) := Lib.hid (by have := joinU_len m0 (cs.take q); rw [List.length_take] at this; have := HML.out; have := HCL.out; omega)
              clear hx
              by_cases hin : x ∈ joinU m0 (cs.take q)
              · have HD : Hid (decide (x ∈ joinU m0 (cs.take q)) = true) := Lib.hid (decide_eq_true hin)
                have HNX : Hid (joinU m0 (cs.take (q + 1)) = joinU m0 (cs.take q)) := Lib.hid (by rw [take_snocI HX.out, joinU_snoc, if_pos hin])
                clear hin
                go_upto_region 26 with fail
                (try go_frame)
                clear hcell
                go_wp2_with (first | (refine ks_load1 KN 22 Try.underlying22 ?_) | (go_at_call 30; refine (Contains_any (HOM.out.row (f := fun o => o) (KN.sub (List.Sublist.cons _ (List.Sublist.cons _ (List.Sublist.cons _ (List.sublist_append_right _ _))))) .id) x).mono ?_; rw [HD.out]; rintro e wx ⟨rfl, rfl⟩))
                go_roundw
                case rel => exact ⟨q + 1, _, om, by go_num, by rw [← HCN.out]; omega, by rw [HNX.out]; exact HOM.out, KN⟩
                case measure => simp [intOf]; omega
              · have HD : Hid (decide (x ∈ joinU m0 (cs.take q)) = false) := Lib.hid (decide_eq_false hin)
                have HNX : Hid (joinU m0 (cs.take (q + 1)) = joinU m0 (cs.take q) ++ [x]) := Lib.hid (by rw [take_snocI HX.out, joinU_snoc, if_neg hin])
                clear hin
                go_upto_region 26 with fail
                (try go_frame)
                clear hcell
                go_upto_region 27 with (first | (refine ks_load1 KN 22 Try.underlying22 ?_) | (go_at_call 30; refine (Contains_any (HOM.out.row (f := fun o => o) (KN.sub (List.Sublist.cons _ (List.Sublist.cons _ (List.Sublist.cons _ (List.sublist_append_right _ _))))) .id) x).mono ?_; rw [HD.out]; rintro e wx ⟨rfl, rfl⟩))
                (try go_frame)
                go_wp2_with (first | (refine ks_load1 KN 22 Try.underlying22 ?_) | (refine ks_store1 KN 22 ?_; clear KN; intro wx KN) | (refine wpList_kn_lit KN (by rfl) 22 3 1 _ rfl 124 rfl Try.underlying22 #[.int .i64 x] (by kernel_rfl) ?_; clear KN; intro g124 wx hg124 KN) | (at_builtin; refine wpList_kn_append1 KN HOM.out (by rfl) _ _ 22 rfl 8 Try.underlying22 (by kernel_rfl) (by decide) rfl 1 rfl rfl (by kernel_rfl) (by rw [List.length_map]; have := HIL.out; unfold maxLen; omega) (by rw [List.length_map]; have := HIL.out; omega) (f := fun o => (g18, _) :: (g17, _) :: (g12, _) :: (oc ++ o)) (.cons _ (.cons _ (.cons _ (.app .id _)))) rfl ?_; clear KN; intro v100 wx ol100 OW100 KN; obtain ⟨ta, tn, tc, rfl⟩ := OW100.form3; have HO100 := Lib.hid OW100; clear OW100))
                replace KN := KN.as_ g18 #[.int .i64 num, .slice ta tn tc, .slice none 0 0] (by repeat (first | exact Repl.here | apply Repl.there)) (by kernel_rfl)
                go_roundw
                case rel => exact ⟨q + 1, _, ol100, by go_num, by rw [← HCN.out]; omega, by rw [HNX.out, ← intRows_snoc]; exact HO100.out, KN⟩
                case measure => simp [intOf]; omega
            · obtain rfl : q = cn := by omega
              have HTK3 : Hid (cs.take q = cs) := Lib.hid (List.take_of_length_le (by rw [← HCN.out]; omega))
              rw [HTK3.out] at HOM HZN
              obtain ⟨mem, hmem⟩ : ∃ mem, mem = joinU m0 cs := ⟨_, rfl⟩
              have HMEM := Lib.hid hmem
              rw [← hmem] at HOM HZN
              clear hmem
              replace KN := KN.as_ g17 #[.int .i64 B.num, .slice ma j mc, .slice oa on2 oc2] (by repeat (first | exact Repl.here | apply Repl.there)) (by rw [HB17.out, HBV.out])
              replace KN := KN.sub (List.Sublist.cons_cons _ (List.Sublist.cons_cons _ (List.Sublist.cons_cons _ (List.sublist_append_right _ _))))
              go_upto_block 6 with (first | (refine ks_load1 KN 22 Try.underlying22 ?_) | (refine ks_store1 KN 22 ?_; clear KN; intro wx KN) | (go_at_call 34; refine (Clone_any (HBO.out.below KN.toBelow) (by have := HBL.out.2; omega)).mono ?_; rintro e wx ⟨vo, oo, rfl, OO, K2, _⟩; have HOO := Lib.hid OO; replace KN := (KN.call0 K2).perm List.perm_append_comm; simp only [List.cons_append, List.nil_append] at KN; clear K2; obtain ⟨pa, pn, pc, rfl, hpn⟩ := OO.form4; rw [List.length_map] at hpn; have HPN := Lib.hid hpn; clear OO hpn))
              (try go_frame)
              replace KN := KN.as_ g18 #[.int .i64 num, .slice za zn zc, .slice pa pn pc] (by repeat (first | exact Repl.here | apply Repl.there)) (by kernel_rfl)
              go_wp2_with fail
              have K4 := KN.perm (perm4 _ _ _ _ _)
              clear KN
              have KN := K4
              clear K4
              obtain ⟨bo, hbo⟩ : ∃ bo, bo = B.own := ⟨_, rfl⟩
              have HBOW := Lib.hid hbo
              rw [← hbo] at HOO HPN
              clear hbo
              go_loopw [134] (fun i wr => NxM mem bo mvs (.slice pa pn pc) ((g18, At #[.int .i64 num, .slice za zn zc, .slice pa pn pc] 30) :: (g17, At #[.int .i64 B.num, .slice ma j mc, .slice oa on2 oc2] 30) :: (g12, At #[.int .i64 0, .slice none 0 0, .slice none 0 0] 30) :: om) w i wr) (fun i _ => mvn - (intOf i).toNat)
              case atStart => exact ⟨0, oo, rfl, Nat.zero_le _, HOO.out, KN⟩
              case round =>
                clear KN hqt hq HOO
                obtain ⟨u, oo, rfl, hu, OO, KN⟩ := hrel
                have HOO := Lib.hid OO
                clear OO
                rw [← HMVN.out] at hu
                by_cases hut : u < mvn
                · obtain ⟨⟨mr, mt⟩, hm⟩ : ∃ m, mvs[u]? = some m := ⟨_, List.getElem?_eq_getElem (by rw [← HMVN.out]; exact hut)⟩
                  obtain ⟨gm, offm, rfl, hgm, hm1, hm2, hmc⟩ := HMV.out u _ hm
                  rw [← HMVN.out] at hm1
                  unfold maxLen at hm2
                  have HSN := Lib.hid (mvF_snoc mem bo hm)
                  have HRNG := Lib.hid hmc
                  have HOLEN : Hid ((mvF mem bo (mvs.take u)).length = pn) := Lib.hid (by rw [mvF_len]; exact HPN.out.symm)
                  clear hm hmc
                  obtain ⟨ou, hou⟩ : ∃ q, q = mvF mem bo (mvs.take u) := ⟨_, rfl⟩
                  rw [← hou] at HSN HOLEN HOO
                  clear hou
                  have HMROW := Lib.hid (HOM.out.row (f := fun o => o) (KN.sub ((List.Sublist.cons _ (List.Sublist.cons _ (List.Sublist.cons _ (List.Sublist.refl _)))).trans (List.sublist_append_right _ _))) .id)
                  replace KN := KN.perm (perm4 _ _ _ _ _).symm
                  go_upto_region 33 with (first | ((with_reducible refine wpList_gate ?_); first | ((with_reducible refine gate_load ?_ ?_); rfl; first | (refine wpList_kn_oldN KN (by rfl) 84 _ rfl gm _ rfl #[.int .i64 mr, .int .i64 mt] HRNG.out hgm (by simp) _ Try.underlying84 rfl (by kernel_rfl) ?_) | (refine ks_loadW KN 40 Try.underlying40 ?_) | (refine ks_load1 KN 3 Try.underlying3 ?_) | (refine ks_load1 KN 4 Try.underlying4 ?_) | (refine ks_load1 KN 22 Try.underlying22 ?_) | (refine ks_loadW KN 84 Try.underlying84 ?_) | (refine ks_loadW KN 30 Try.underlying30 ?_)) | ((with_reducible refine gate_store ?_ ?_); rfl; first | (refine ks_storeW KN 40 ?_; clear KN; intro wx KN) | (refine ks_storeA KN 40 ?_; clear KN; intro wx KN) | (refine ks_storeW KN 30 ?_; clear KN; intro wx KN) | (refine ks_storeA KN 30 ?_; clear KN; intro wx KN) | (refine ks_store1 KN 3 ?_; clear KN; intro wx KN) | (refine ks_store1 KN 22 ?_; clear KN; intro wx KN) | (refine ks_storeW KN 84 ?_; clear KN; intro wx KN) | (refine ks_storeA KN 84 ?_; clear KN; intro wx KN)) | ((with_reducible refine gate_new ?_ ?_); rfl; first | (refine ks_alloc KN 30 (q := 12) #[.int .i64 0, .slice none 0 0, .slice none 0 0] ?_; clear KN; intro g12 wx hg12 KN) | (refine ks_alloc KN 40 (q := 16) #[.int .i64 0, .int .i64 0, .slice none 0 0, .slice none 0 0, .slice none 0 0, .slice none 0 0, .slice none 0 0, .slice none 0 0, .slice none 0 0, .slice none 0 0, .bool false, .int .i64 0, .slice none 0 0, .slice none 0 0, .slice none 0 0, .slice none 0 0, .slice none 0 0, .slice none 0 0, .slice none 0 0, .slice none 0 0] ?_; clear KN; intro g16 wx hg16 KN) | (refine wpList_built rfl 30 #[] rfl #[.int .i64 0, .slice none 0 0, .slice none 0 0] (by kernel_rfl) ?_) | (refine ks_alloc KN 30 (q := 17) #[.int .i64 0, .slice none 0 0, .slice none 0 0] ?_; clear KN; intro g17 wx hg17 KN) | (refine ks_alloc KN 30 (q := 18) #[.int .i64 0, .slice none 0 0, .slice none 0 0] ?_; clear KN; intro g18 wx hg18 KN) | (refine ks_alloc KN 84 (q := 25) #[.int .i64 0, .int .i64 0] ?_; clear KN; intro g25 wx hg25 KN))))
                  (try go_frame)
                  by_cases hr0 : 0 ≤ mr
                  · obtain ⟨r, rfl⟩ := Int.eq_ofNat_of_zero_le hr0
                    have e1 : decide ((0 : Int) ≤ (r : Int)) = true := decide_eq_true hr0
                    by_cases hrp : r < pn
                    · have e2 : decide ((r : Int) < (pn : Int)) = true := decide_eq_true (by omega)
                      have HMR3 := Lib.hid (HOM.out.row (f := fun o => o) (KN.sub (List.Sublist.cons _ (List.Sublist.cons _ (List.Sublist.cons _ (List.Sublist.cons _ (List.sublist_append_left _ _)))))) .id)
                      by_cases hmt : mt ∈ mem
                      · have HD : Hid (decide (mt ∈ mem) = true) := Lib.hid (decide_eq_true hmt)
                        have HNX : Hid (mvF mem bo (mvs.take (u + 1)) = ou.set r mt) := Lib.hid (by rw [HSN.out]; unfold mv1; rw [if_pos ⟨hr0, by rw [HOLEN.out]; omega, hmt⟩]; rfl)
                        clear hmt
                        go_upto_region 34 with (first | ((with_reducible refine wpList_gate ?_); (with_reducible refine gate_load ?_ ?_); rfl; first | (refine ks_load1 KN 22 Try.underlying22 ?_) | (refine ks_load1 KN 3 Try.underlying3 ?_)) | (go_at_call 30; refine (Contains_any HMR3.out mt).mono ?_; rw [HD.out]; rintro e wx ⟨rfl, rfl⟩))
                        (try go_frame)
                        obtain ⟨g, cap, hv, hnc, hcm, rfl⟩ := HOO.out.pos (by rw [List.length_map, HOLEN.out]; omega)
                        rw [List.length_map, HOLEN.out] at hv hnc
                        simp only [Value.slice.injEq] at hv
                        obtain ⟨rfl, _, rfl⟩ := hv
                        have HNC := Lib.hid hnc
                        have HCM := Lib.hid hcm
                        unfold maxLen at hcm
                        have K5 := KN.perm (List.Perm.cons _ (List.Perm.cons _ (List.Perm.cons _ (List.Perm.cons _ List.perm_append_comm))))
                        clear KN
                        have KN := K5
                        clear K5
                        simp only [List.cons_append, List.nil_append] at KN
                        go_wp2_with (first | ((with_reducible refine wpList_gate ?_); (with_reducible refine gate_load ?_ ?_); rfl; first | (refine ks_load1 KN 22 Try.underlying22 ?_) | (refine ks_load1 KN 3 Try.underlying3 ?_)) | (refine wpList_kn_elemS KN (by rfl) 3 _ _ rfl g _ rfl (.int .i64 mt) rfl r ?qq (by repeat (first | exact Repl.here | apply Repl.there)) (intRows_len _) (by rw [List.length_map, HOLEN.out]; exact HNC.out) (by rw [List.length_map, HOLEN.out]; exact hrp) rfl (by kernel_rfl) (by kernel_rfl) ?_; (case qq => omega); clear KN; intro wx KN))
                        go_roundw
                        case rel =>
                          refine ⟨u + 1, [(g, CapAt 3 1 pc ((intRows ou).set r [Value.int .i64 mt]))], by go_num, by rw [← HMVN.out]; omega, ?_, (KN.drop .here).perm (perm5 _ _ _ _ _)⟩
                          rw [HNX.out, intRows_set]
                          have := OwnT.blk (e := 3) (sz := 1) (g := g) (cap := pc) (L := (intRows ou).set r [Value.int .i64 mt]) (by rw [List.length_set, List.length_map, HOLEN.out]; exact HNC.out) HCM.out (by rw [← intRows_set]; exact intRows_len _)
                          rw [List.length_set, List.length_map, HOLEN.out] at this
                          exact this
                        case measure => simp [intOf]; omega
                      · have HD : Hid (decide (mt ∈ mem) = false) := Lib.hid (decide_eq_false hmt)
                        have HNX : Hid (mvF mem bo (mvs.take (u + 1)) = ou) := Lib.hid (by rw [HSN.out]; unfold mv1; rw [if_neg (fun q => hmt q.2.2)])
                        go_wp2_with (first | ((with_reducible refine wpList_gate ?_); (with_reducible refine gate_load ?_ ?_); rfl; first | (refine ks_load1 KN 22 Try.underlying22 ?_) | (refine ks_load1 KN 3 Try.underlying3 ?_)) | (go_at_call 30; refine (Contains_any HMR3.out mt).mono ?_; rw [HD.out]; rintro e wx ⟨rfl, rfl⟩))
                        go_roundw
                        case rel => exact ⟨u + 1, oo, by go_num, by rw [← HMVN.out]; omega, by rw [HNX.out]; exact HOO.out, (KN.drop .here).perm (perm4 _ _ _ _ _)⟩
                        case measure => simp [intOf]; omega
                    · have e2 : decide ((r : Int) < (pn : Int)) = false := decide_eq_false (by omega)
                      have HNX : Hid (mvF mem bo (mvs.take (u + 1)) = ou) := Lib.hid (by rw [HSN.out]; unfold mv1; rw [if_neg (fun q => hrp (by have := q.2.1; rw [HOLEN.out] at this; exact Int.ofNat_lt.1 this))])
                      go_wp2_with (first | ((with_reducible refine wpList_gate ?_); (with_reducible refine gate_load ?_ ?_); rfl; first | (refine ks_load1 KN 22 Try.underlying22 ?_) | (refine ks_load1 KN 3 Try.underlying3 ?_)))
                      go_roundw
                      case rel => exact ⟨u + 1, oo, by go_num, by rw [← HMVN.out]; omega, by rw [HNX.out]; exact HOO.out, (KN.drop .here).perm (perm4 _ _ _ _ _)⟩
                      case measure => simp [intOf]; omega
                  · have e1 : decide ((0 : Int) ≤ mr) = false := decide_eq_false hr0
                    have HNX : Hid (mvF mem bo (mvs.take (u + 1)) = ou) := Lib.hid (by rw [HSN.out]; unfold mv1; rw [if_neg (fun q => hr0 q.1)])
                    go_wp2_with (first | ((with_reducible refine wpList_gate ?_); (with_reducible refine gate_load ?_ ?_); rfl; first | (refine ks_load1 KN 22 Try.underlying22 ?_) | (refine ks_load1 KN 3 Try.underlying3 ?_)))
                    go_roundw
                    case rel => exact ⟨u + 1, oo, by go_num, by rw [← HMVN.out]; omega, by rw [HNX.out]; exact HOO.out, (KN.drop .here).perm (perm4 _ _ _ _ _)⟩
                    case measure => simp [intOf]; omega
                · obtain rfl : u = mvn := by omega
                  have HTK4 : Hid (mvs.take u = mvs) := Lib.hid (List.take_of_length_le (by rw [← HMVN.out]; omega))
                  rw [HTK4.out] at HOO
                  replace KN := KN.perm (perm4 _ _ _ _ _).symm
                  go_upto_block 8 with (first | (refine ks_load1 KN 22 Try.underlying22 ?_))
                  (try go_frame)
                  replace KN := KN.perm (perm4 _ _ _ _ _)
                  obtain ⟨ow, how⟩ : ∃ ow, ow = mvF mem bo mvs := ⟨_, rfl⟩
                  have HOW := Lib.hid how
                  have HPN2 : Hid (pn = ow.length) := Lib.hid (by rw [how, mvF_len]; exact HPN.out)
                  rw [← how] at HOO
                  clear how HPN
                  have HPN := HPN2
                  clear HPN2
                  have HOM2 := Lib.hid HOM.out
                  go_wp2_with fail
                  go_loopw [167] (fun i wr => NxI mem ow (.slice pa pn pc) ((g18, At #[.int .i64 num, .slice za zn zc, .slice pa pn pc] 30) :: (g17, At #[.int .i64 B.num, .slice ma j mc, .slice oa on2 oc2] 30) :: (g12, At #[.int .i64 0, .slice none 0 0, .slice none 0 0] 30) :: om) w i wr) (fun i _ => pn - (intOf i).toNat)
                  case atStart => exact ⟨0, oo, rfl, Nat.zero_le _, by have := HOO.out; unfold fixK; simpa using this, KN⟩
                  case round =>
                    clear KN HOO
                    obtain ⟨y, oo, rfl, hy, OO, KN⟩ := hrel
                    have HOO := Lib.hid OO
                    clear OO
                    rw [← HPN.out] at hy
                    have HMROW := Lib.hid (HOM.out.row (f := fun o => o) (KN.sub ((List.Sublist.cons _ (List.Sublist.cons _ (List.Sublist.cons _ (List.Sublist.refl _)))).trans (List.sublist_append_right _ _))) .id)
                    by_cases hyt : y < pn
                    · obtain ⟨x, hx⟩ : ∃ x, ow[y]? = some x := ⟨_, List.getElem?_eq_getElem (by rw [← HPN.out]; exact hyt)⟩
                      have HX := Lib.hid hx
                      obtain ⟨g', off', he, hg, hc1, hc2, hcell⟩ := row_at (HOO.out.row (f := fun o => o) (KN.sub (List.sublist_append_left _ _)) .id) (fixK_at (mem := mem) hx)
                      obtain ⟨g, cap, hv, hnc, hcm, rfl⟩ := HOO.out.pos (by rw [List.length_map, fixK_len, ← HPN.out]; omega)
                      rw [List.length_map, fixK_len, ← HPN.out] at hv hnc
                      simp only [Value.slice.injEq] at hv
                      obtain ⟨rfl, _, rfl⟩ := hv
                      simp only [Option.some.injEq, Addr.mk.injEq] at he
                      obtain ⟨rfl, rfl, _⟩ := he
                      rw [Nat.zero_add] at hcell
                      have HNC := Lib.hid hnc
                      have HCM := Lib.hid hcm
                      unfold maxLen at hc2 hcm
                      clear hx hc1
                      go_upto_region 39 with fail
                      (try go_frame)
                      clear hcell
                      by_cases hin : x ∈ mem
                      · have HD : Hid (decide (x ∈ mem) = true) := Lib.hid (decide_eq_true hin)
                        have HNX : Hid (fixK mem ow (y + 1) = fixK mem ow y) := Lib.hid (fixK_same HX.out (by unfold fix1; rw [if_pos hin]))
                        clear hin
                        go_wp2_with (first | (refine ks_load1 KN 22 Try.underlying22 ?_) | (go_at_call 30; refine (Contains_any HMROW.out x).mono ?_; rw [HD.out]; rintro e wx ⟨rfl, rfl⟩))
                        go_roundw
                        case rel => exact ⟨y + 1, _, by go_num, by rw [← HPN.out]; omega, by rw [HNX.out]; exact HOO.out, KN⟩
                        case measure => simp [intOf]; omega
                      · have HD : Hid (decide (x ∈ mem) = false) := Lib.hid (decide_eq_false hin)
                        have HIN := Lib.hid hin
                        clear hin
                        rcases Nat.eq_zero_or_pos zn with hz | hz
                        · have HNX : Hid (fixK mem ow (y + 1) = fixK mem ow y) := Lib.hid (fixK_same HX.out (by
                            have hm : mem = [] := List.eq_nil_of_length_eq_zero (by rw [← HZN.out]; exact hz)
                            unfold fix1; rw [hm]; rfl))
                          subst hz
                          go_wp2_with (first | (refine wpList_kn_load1 KN (by rfl) 22 _ rfl g18 _ rfl _ _ (by repeat (first | exact Has.here | refine Has.there ?_)) _ rfl _ Try.underlying22 rfl ?_) | (go_at_call 30; refine (Contains_any HMROW.out x).mono ?_; rw [HD.out]; rintro e wx ⟨rfl, rfl⟩))
                          go_roundw
                          case rel => exact ⟨y + 1, _, by go_num, by rw [← HPN.out]; omega, by rw [HNX.out]; exact HOO.out, KN⟩
                          case measure => simp [intOf]; omega
                        · have hzd : decide ((0 : Int) < (zn : Int)) = true := decide_eq_true (by omega)
                          obtain ⟨u, hu⟩ : ∃ u, mem[0]? = some u := ⟨_, List.getElem?_eq_getElem (by rw [← HZN.out]; exact hz)⟩
                          have HU := Lib.hid hu
                          have HNX : Hid (fixK mem ow (y + 1) = (fixK mem ow y).set y u) := Lib.hid (by
                            rw [fixK_set HX.out]
                            congr 1
                            unfold fix1
                            rw [if_neg HIN.out]
                            cases mem with
                            | nil => cases hu
                            | cons m ms => have : m = u := (by simpa using hu)
                                           exact this)
                          go_upto_region 40 with (first | (refine wpList_kn_load1 KN (by rfl) 22 _ rfl g18 _ rfl _ _ (by repeat (first | exact Has.here | refine Has.there ?_)) _ rfl _ Try.underlying22 rfl ?_) | (go_at_call 30; refine (Contains_any HMROW.out x).mono ?_; rw [HD.out]; rintro e wx ⟨rfl, rfl⟩))
                          (try go_frame)
                          clear hzd
                          obtain ⟨gm, offm, rfl, hgm, hm1, hm2, hmc⟩ := row_at HMROW.out hu
                          rw [Nat.add_zero] at hmc
                          unfold maxLen at hm2
                          clear hu
                          have c1 := KN.cell (g := g18) (o := 1) (by repeat (first | exact Has.here | refine Has.there ?_)) rfl
                          have c2 := KN.cell (g := g18) (o := 2) (by repeat (first | exact Has.here | refine Has.there ?_)) rfl
                          go_still_tail 8, (by kernel_rfl)
                          replace KN := KN.drew
                          clear c1 c2 hmc
                          go_wp2_with (refine wpList_kn_elemS KN (by rfl) 3 _ _ rfl g _ rfl (.int .i64 u) rfl y ?qq (by repeat (first | exact Repl.here | apply Repl.there)) (intRows_len _) (by rw [List.length_map, fixK_len, ← HPN.out]; exact HNC.out) (by rw [List.length_map, fixK_len, ← HPN.out]; exact hyt) rfl (by kernel_rfl) (by kernel_rfl) ?_; (case qq => omega); clear KN; intro wx KN)
                          go_roundw
                          case rel =>
                            refine ⟨y + 1, [(g, CapAt 3 1 pc ((intRows (fixK mem ow y)).set y [Value.int .i64 u]))], by go_num, by rw [← HPN.out]; omega, ?_, KN⟩
                            rw [HNX.out, intRows_set]
                            have := OwnT.blk (e := 3) (sz := 1) (g := g) (cap := pc) (L := (intRows (fixK mem ow y)).set y [Value.int .i64 u]) (by rw [List.length_set, List.length_map, fixK_len, ← HPN.out]; exact HNC.out) HCM.out (by rw [← intRows_set]; exact intRows_len _)
                            rw [List.length_set, List.length_map, fixK_len, ← HPN.out] at this
                            exact this
                          case measure => simp [intOf]; omega
                    · obtain rfl : y = pn := by omega
                      have HFX : Hid (fixK mem ow y = ow.map (fix1 mem)) := Lib.hid (by unfold fixK; rw [List.take_of_length_le (by rw [← HPN.out]; omega), List.drop_eq_nil_of_le (by rw [← HPN.out]; omega), List.append_nil])
                      have HOROW := Lib.hid (HOO.out.row (f := fun o => o) (KN.sub (List.sublist_append_left _ _)) .id)
                      have K5 : Kn [] w _ ((g18, At #[.int .i64 num, .slice za zn zc, .slice pa y pc] 30) :: (g17, At #[.int .i64 B.num, .slice ma j mc, .slice oa on2 oc2] 30) :: (g12, At #[.int .i64 0, .slice none 0 0, .slice none 0 0] 30) :: (om ++ oo)) := KN.perm (perm4 _ _ _ _ _).symm
                      clear KN
                      have KN := K5
                      clear K5
                      go_wp2_with (first | (refine ks_loadW KN 30 Try.underlying30 ?_) | (refine ks_storeW KN 30 ?_; clear KN; intro wx KN) | (refine ks_storeA KN 30 ?_; clear KN; intro wx KN))
                      refine bodyPost_ret (results_cell_row (p := 12) Try.results12 _ _ g12 30 #[.int .i64 num, .slice za zn zc, .slice pa y pc] (0, 0) _ rfl (KN.at_ (by repeat (first | exact Has.here | refine Has.there ?_))) Try.underlying30 rfl (by kernel_rfl)) rfl ?_
                      refine ⟨⟨za, zn, zc⟩, ⟨pa, y, pc⟩, ⟨num, mem, ow.map (fix1 mem)⟩, fun _ => ⟨mx, b, ad, HMX.out, HBS.out, HNM.out, ?_, ?_⟩, fun q => absurd HLC.out q, rfl, HOM.out.row (f := fun o => o) (KN.sub (List.Sublist.cons _ (List.Sublist.cons _ (List.Sublist.cons _ (List.sublist_append_left _ _))))) .id, ?_, KN.toBelow⟩
                      · show mem = _
                        rw [HMEM.out, HCS.out, HM0.out, HBV.out, ← HN.out, HJS.out]
                      · show ow.map _ = _
                        rw [HOW.out, HBOW.out, HBV.out]
                      · have := HOO.out.row (f := fun o => o) (KN.sub (List.Sublist.cons _ (List.Sublist.cons _ (List.Sublist.cons _ (List.sublist_append_right _ _))))) .id
                        rw [HFX.out] at this
                        exact this
end Go.Proofs.Ytpjejaoobbancaa
