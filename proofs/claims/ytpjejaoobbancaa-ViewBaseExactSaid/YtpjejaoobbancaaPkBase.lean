/- A list of reports as it is read; Base. -/
import Derived.Test.YtpjejaoobbancaaPkMkReps
import Derived.Test.YtpjejaoobbancaaPkSlc
set_option linter.unusedVariables false
set_option linter.unusedSimpArgs false
set_option linter.unusedSectionVars false
namespace Go.Proofs.Ytpjejaoobbancaa
open Go.RowKit Go.BigFrame

/-- A report's cells, its slices read in this world. -/
def RepD (w : World) (r : Rep) (cs : Array Value) : Prop :=
  ∃ (m o s0 s2 s3 nm no p0 p2 p3 : SL), cs = repA r.core r.view.num m o s0 s2 s3 r.ready r.next.num nm no p0 p2 p3 ∧ Row w m.v 1 (intRows r.view.mem) ∧ Row w o.v 1 (intRows r.view.own) ∧ Row w nm.v 1 (intRows r.next.mem) ∧ Row w no.v 1 (intRows r.next.own)
theorem RepD.below {w w' : World} {r : Rep} {cs : Array Value} (h : RepD w r cs) (hb : Below w.heap.size w w') : RepD w' r cs := by
  obtain ⟨m, o, s0, s2, s3, nm, no, p0, p2, p3, e, h1, h2, h3, h4⟩ := h
  exact ⟨m, o, s0, s2, s3, nm, no, p0, p2, p3, e, h1.below hb, h2.below hb, h3.below hb, h4.below hb⟩
/-- A slice of reports. -/
def RepRd (w : World) (v : Value) (rs : List Rep) : Prop :=
  ∃ rows : List (List Value), Row w v 20 rows ∧ rows.length = rs.length ∧ ∀ (k : Nat) (r : Rep), rs[k]? = some r → ∃ cs : Array Value, rows[k]? = some cs.toList ∧ RepD w r cs
theorem RepRd.below {w w' : World} {v : Value} {rs : List Rep} (h : RepRd w v rs) (hb : Below w.heap.size w w') : RepRd w' v rs := by
  obtain ⟨rows, h1, h2, h3⟩ := h
  exact ⟨rows, h1.below hb, h2, fun k r hr => by obtain ⟨cs, a, b⟩ := h3 k r hr; exact ⟨cs, a, b.below hb⟩⟩
theorem RepC.rd {W w : World} {r : Rep} {cs : Array Value} {inner l : Ents} (h : RepC r cs inner) (KN : Kn [] W w l) (hs : inner.Sublist l) : RepD w r cs := by
  obtain ⟨m, o, s0, s2, s3, nm, no, p0, p2, p3, om, oo, pm, po, e, h1, h2, h3, h4, hin⟩ := h
  subst hin
  have k1 := KN.sub hs
  have s1 : om.Sublist ((om ++ oo) ++ (pm ++ po)) := (List.sublist_append_left _ _).trans (List.sublist_append_left _ _)
  have s2' : oo.Sublist ((om ++ oo) ++ (pm ++ po)) := (List.sublist_append_right _ _).trans (List.sublist_append_left _ _)
  have s3' : pm.Sublist ((om ++ oo) ++ (pm ++ po)) := (List.sublist_append_left _ _).trans (List.sublist_append_right _ _)
  have s4' : po.Sublist ((om ++ oo) ++ (pm ++ po)) := (List.sublist_append_right _ _).trans (List.sublist_append_right _ _)
  exact ⟨m, o, s0, s2, s3, nm, no, p0, p2, p3, e, h1.row (f := fun o => o) (k1.sub s1) .id, h2.row (f := fun o => o) (k1.sub s2') .id, h3.row (f := fun o => o) (k1.sub s3') .id, h4.row (f := fun o => o) (k1.sub s4') .id⟩
theorem RepsC.rd {W w : World} {l : Ents} (KN : Kn [] W w l) : ∀ {rs : List Rep} {rows : List (List Value)} {inner : Ents}, RepsC rs rows inner → inner.Sublist l → ∀ (k : Nat) (r : Rep), rs[k]? = some r → ∃ cs : Array Value, rows[k]? = some cs.toList ∧ RepD w r cs := by
  intro rs rows inner h
  induction h with
  | nil => intro _ k r hr; simp at hr
  | @snoc rs rows inner o r cs h1 h2 ih =>
    intro hs k r' hr
    have hl := h1.len
    rcases Nat.lt_or_ge k rs.length with hk | hk
    · rw [List.getElem?_append_left hk] at hr
      obtain ⟨cs', a, b⟩ := ih ((List.sublist_append_left _ _).trans hs) k r' hr
      exact ⟨cs', by rw [List.getElem?_append_left (by omega)]; exact a, b⟩
    · rw [List.getElem?_append_right hk] at hr
      have hk0 : k - rs.length = 0 := by
        have := (List.getElem?_eq_some_iff.1 hr).1
        simp only [List.length_cons, List.length_nil] at this
        omega
      rw [hk0] at hr
      have hr' : r = r' := by simpa using hr
      subst hr'
      refine ⟨cs, ?_, h2.rd KN ((List.sublist_append_right _ _).trans hs)⟩
      rw [List.getElem?_append_right (by omega), hl, hk0]; rfl
theorem reports_rd {v : Value} {zs : List Int} {w : World} (h : Ints w v zs) (n : Nat) (hn : n ≤ 100) :
    Calls Try.prog 8 #[v, .int .i64 (n : Int)] w fun e w' => ∃ s, e = .returned s ∧ RepRd w' s (mkReports zs n) ∧ Below w.heap.size w w' := by
  refine (reports_any h n hn).mono ?_
  rintro e w' ⟨s, ol, inner, rows, rfl, hr, HO, KN⟩
  exact ⟨s, rfl, ⟨rows, HO.row KN (.app .id inner), hr.len, hr.rd KN (List.sublist_append_left _ _)⟩, KN.toBelow⟩
/-- What the walk wants of a list of reports. -/
theorem RepRd.form {w : World} {v : Value} {rs : List Rep} (h : RepRd w v rs) : ∃ a c, v = .slice a rs.length c ∧ rs.length ≤ maxLen ∧ ∀ (k : Nat) (r : Rep), rs[k]? = some r → ∃ (g off : Nat) (cs : Array Value), a = some ⟨g, off, none⟩ ∧ g < w.heap.size ∧ rs.length ≤ c ∧ c ≤ maxLen ∧ RepD w r cs ∧ w.rangeAt g (off + k * 20) cs.toList := by
  obtain ⟨rows, h1, h2, h3⟩ := h
  have hm := h1.1
  rcases h1.2 with ⟨h0, a, c, rfl⟩ | ⟨b, off, cap, hv, h0, hl, hmm, hb, hc⟩
  · have : rs = [] := List.eq_nil_of_length_eq_zero (by rw [← h2, h0]; rfl)
    subst this
    exact ⟨a, c, rfl, by simp, fun k x hx => by simp at hx⟩
  · rw [h2] at hv hl hm
    refine ⟨_, _, hv, hm, fun k r hr => ?_⟩
    obtain ⟨cs, a, d⟩ := h3 k r hr
    exact ⟨b, off, cs, rfl, hb, hl, hmm, d, fun j v hj => hc k _ j v a hj⟩
/-- Do all reporters know the proposal n? -/
def knows (n : Int) (r : Rep) : Bool := !(decide (r.view.num < n) && !(r.ready && r.next.num == n))
def viewsL (rs : List Rep) : List Int := rs.map fun r => r.view.num
def accL (rs : List Rep) : List Int := (rs.filter fun r => r.ready).map fun r => r.next.num
/-- The base view's number, and whether it is an accepted proposal. -/
def IsBase (rs : List Rep) (b : Int) (ad : Bool) : Prop :=
  (rs = [] ∧ b = 0 ∧ ad = false) ∨ ∃ g, IsMax g (viewsL rs) ∧ ((accL rs = [] ∧ b = g ∧ ad = false) ∨ ∃ n, IsMax n (accL rs) ∧ ((rs.all (knows n) = true ∧ b = n ∧ ad = true) ∨ (rs.all (knows n) = false ∧ b = g ∧ ad = false)))
def BsR1 (rs : List Rep) (w : World) (s4 s5 i : Value) (wr : World) : Prop :=
  ∃ (k : Nat) (oa ob : Ents), i = .int .i64 (k : Int) ∧ k ≤ rs.length ∧ OwnT 3 1 s4 (intRows (viewsL (rs.take k))) oa ∧ OwnT 3 1 s5 (intRows (accL (rs.take k))) ob ∧ Kn [] w wr (oa ++ ob)
theorem accL_len (l : List Rep) : (accL l).length ≤ l.length := by unfold accL; rw [List.length_map]; exact List.length_filter_le _ _
theorem viewsL_snoc {rs : List Rep} {k : Nat} {r : Rep} (h : rs[k]? = some r) : viewsL (rs.take (k + 1)) = viewsL (rs.take k) ++ [r.view.num] := by
  unfold viewsL; rw [List.take_add_one, h, List.map_append]; rfl
theorem accL_yes {rs : List Rep} {k : Nat} {r : Rep} (h : rs[k]? = some r) (hr : r.ready = true) : accL (rs.take (k + 1)) = accL (rs.take k) ++ [r.next.num] := by
  unfold accL; rw [List.take_add_one, h, List.filter_append, List.map_append]; simp [hr]
theorem accL_no {rs : List Rep} {k : Nat} {r : Rep} (h : rs[k]? = some r) (hr : r.ready = false) : accL (rs.take (k + 1)) = accL (rs.take k) := by
  unfold accL; rw [List.take_add_one, h, List.filter_append, List.map_append]; simp [hr]
def BsR2 (rs : List Rep) (m : Int) (w : World) (i : Value) (wr : World) : Prop :=
  ∃ k : Nat, i = .int .i64 (k : Int) ∧ k ≤ rs.length ∧ (rs.take k).all (knows m) = true ∧ Kn [] w wr []
set_option maxRecDepth 100000 in
set_option maxHeartbeats 8000000 in
theorem Base_any {v : Value} {rs : List Rep} {w : World} (h : RepRd w v rs) (hl : rs.length ≤ 1000) :
    Calls Try.prog 10 #[v] w fun e w' => ∃ b ad, e = .returned (.tuple #[.int .i64 b, .bool ad]) ∧ IsBase rs b ad ∧ Below w.heap.size w w' := by
  have KN := Kn.start w
  obtain ⟨a, c, rfl, _, hf⟩ := h.form
  obtain ⟨n, hn⟩ : ∃ n, n = rs.length := ⟨_, rfl⟩
  have HN := Lib.hid hn
  have HF := Lib.hid hf
  rw [← hn] at hl ⊢
  clear h hf hn
  go_enter Try.func10, Try.ntmps10
  go_wp2_with fail
  go_loopw [4, 5, 14] (fun s4 s5 i wr => BsR1 rs w s4 s5 i wr) (fun _ _ i _ => n - (intOf i).toNat)
  case atStart => exact ⟨0, [], [], rfl, Nat.zero_le _, .nil, .nil, KN⟩
  case round =>
    clear KN
    obtain ⟨k, oa, ob, rfl, hk, OA, OB, KN⟩ := hrel
    have HA := Lib.hid OA
    have HB := Lib.hid OB
    obtain ⟨xa, xn, xc, rfl⟩ := OA.form3
    obtain ⟨ya, yn, yc, rfl, hyn⟩ := OB.form4
    have HYN := Lib.hid hyn
    clear hyn
    rw [← HN.out] at hk
    clear OA OB
    by_cases hlt : k < n
    · obtain ⟨r, hr⟩ : ∃ r, rs[k]? = some r := ⟨_, List.getElem?_eq_getElem (by rw [← HN.out]; exact hlt)⟩
      obtain ⟨g, off, cs, rfl, hg, hc1, hc2, hd, hrange⟩ := HF.out k r hr
      obtain ⟨m, o, s0, s2, s3, nm, no, p0, p2, p3, rfl, _⟩ := hd
      have HR := Lib.hid hr
      have RNG := Lib.hid hrange
      have hc1' : n ≤ c := by rw [HN.out]; exact hc1
      have HL1 : Hid ((viewsL (rs.take k)).length ≤ 1000) := Lib.hid (by unfold viewsL; rw [List.length_map, List.length_take]; omega)
      have HL2 : Hid ((accL (rs.take k)).length ≤ 1000) := Lib.hid (by have := accL_len (rs.take k); rw [List.length_take] at this; omega)
      unfold maxLen at hc2
      clear hr hrange hc1
      obtain ⟨rd, hrd⟩ : ∃ b, b = r.ready := ⟨_, rfl⟩
      have HRD := Lib.hid hrd
      rw [← hrd] at RNG
      clear hrd
      go_upto_region 6 with (first | ((with_reducible refine wpList_gate ?_); first | (refine wpList_kn_lit KN (by rfl) 22 3 1 _ rfl 22 rfl Try.underlying22 #[.int .i64 r.view.num] (by kernel_rfl) ?_; clear KN; intro g22 wx hg22 KN; replace KN := KN.perm (List.Perm.cons _ (List.Perm.cons _ List.perm_append_comm))) | (at_builtin; refine wpList_kn_append1 KN HA.out (by rfl) _ _ 22 rfl 8 Try.underlying22 (by kernel_rfl) (by decide) rfl 1 rfl rfl (by kernel_rfl) (by rw [List.length_map]; have := HL1.out; unfold maxLen; omega) (by rw [List.length_map]; have := HL1.out; omega) (f := fun o => (g7, _) :: (ob ++ o)) (.cons _ (.app .id _)) rfl ?_; clear KN; intro v23 wx ol23 OW23 KN; have HO23 := Lib.hid OW23; clear OW23) | ((with_reducible refine gate_load ?_ ?_); rfl; first | (refine wpList_kn_oldN KN (by rfl) 40 _ rfl g _ rfl (repA r.core r.view.num m o s0 s2 s3 rd r.next.num nm no p0 p2 p3) RNG.out hg (by simp) _ Try.underlying40 rfl (by kernel_rfl) ?_) | (refine ks_loadW KN 40 Try.underlying40 ?_) | (refine ks_load1 KN 3 Try.underlying3 ?_) | (refine ks_load1 KN 4 Try.underlying4 ?_)) | ((with_reducible refine gate_store ?_ ?_); rfl; first | (refine ks_storeW KN 40 ?_; clear KN; intro wx KN) | (refine ks_storeA KN 40 ?_; clear KN; intro wx KN)) | ((with_reducible refine gate_new ?_ ?_); rfl; first | (refine ks_alloc KN 40 (q := 7) #[.int .i64 0, .int .i64 0, .slice none 0 0, .slice none 0 0, .slice none 0 0, .slice none 0 0, .slice none 0 0, .slice none 0 0, .slice none 0 0, .slice none 0 0, .bool false, .int .i64 0, .slice none 0 0, .slice none 0 0, .slice none 0 0, .slice none 0 0, .slice none 0 0, .slice none 0 0, .slice none 0 0, .slice none 0 0] ?_; clear KN; intro g7 wx hg7 KN) | (refine ks_alloc KN 40 (q := 11) #[.int .i64 0, .int .i64 0, .slice none 0 0, .slice none 0 0, .slice none 0 0, .slice none 0 0, .slice none 0 0, .slice none 0 0, .slice none 0 0, .slice none 0 0, .bool false, .int .i64 0, .slice none 0 0, .slice none 0 0, .slice none 0 0, .slice none 0 0, .slice none 0 0, .slice none 0 0, .slice none 0 0, .slice none 0 0] ?_; clear KN; intro g11 wx hg11 KN))))
      (try go_frame)
      have HV : Hid (OwnT 3 1 v23 (intRows (viewsL (rs.take (k + 1)))) ol23) := Lib.hid (by rw [viewsL_snoc HR.out, ← intRows_snoc]; exact HO23.out)
      clear HO23 HA
      cases hb : rd with
      | true =>
        have HAC := Lib.hid (accL_yes HR.out (by rw [← HRD.out]; exact hb))
        replace KN := KN.as_ g7 (repA r.core r.view.num m o s0 s2 s3 true r.next.num nm no p0 p2 p3) (by repeat (first | exact Repl.here | apply Repl.there)) (by rw [hb])
        clear hb
        go_wp2_with (first | ((with_reducible refine wpList_gate ?_); first | (refine wpList_kn_lit KN (by rfl) 22 3 1 _ rfl 30 rfl Try.underlying22 #[.int .i64 r.next.num] (by kernel_rfl) ?_; clear KN; intro g30 wx hg30 KN; replace KN := KN.perm (List.Perm.cons _ (List.Perm.cons _ List.perm_append_comm))) | (at_builtin; refine wpList_kn_append1 KN HB.out (by rfl) _ _ 22 rfl 8 Try.underlying22 (by kernel_rfl) (by decide) rfl 1 rfl rfl (by kernel_rfl) (by rw [List.length_map]; have := HL2.out; unfold maxLen; omega) (by rw [List.length_map]; have := HL2.out; omega) (f := fun o => (g7, _) :: (ol23 ++ o)) (.cons _ (.app .id _)) rfl ?_; clear KN; intro v31 wx ol31 OW31 KN; have HO31 := Lib.hid OW31; clear OW31) | ((with_reducible refine gate_load ?_ ?_); rfl; first | (refine ks_loadW KN 40 Try.underlying40 ?_) | (refine ks_load1 KN 3 Try.underlying3 ?_) | (refine ks_load1 KN 4 Try.underlying4 ?_)) | ((with_reducible refine gate_store ?_ ?_); rfl; first | (refine ks_storeW KN 40 ?_; clear KN; intro wx KN) | (refine ks_storeA KN 40 ?_; clear KN; intro wx KN)) | ((with_reducible refine gate_new ?_ ?_); rfl; first | (refine ks_alloc KN 40 (q := 7) #[.int .i64 0, .int .i64 0, .slice none 0 0, .slice none 0 0, .slice none 0 0, .slice none 0 0, .slice none 0 0, .slice none 0 0, .slice none 0 0, .slice none 0 0, .bool false, .int .i64 0, .slice none 0 0, .slice none 0 0, .slice none 0 0, .slice none 0 0, .slice none 0 0, .slice none 0 0, .slice none 0 0, .slice none 0 0] ?_; clear KN; intro g7 wx hg7 KN) | (refine ks_alloc KN 40 (q := 11) #[.int .i64 0, .int .i64 0, .slice none 0 0, .slice none 0 0, .slice none 0 0, .slice none 0 0, .slice none 0 0, .slice none 0 0, .slice none 0 0, .slice none 0 0, .bool false, .int .i64 0, .slice none 0 0, .slice none 0 0, .slice none 0 0, .slice none 0 0, .slice none 0 0, .slice none 0 0, .slice none 0 0, .slice none 0 0] ?_; clear KN; intro g11 wx hg11 KN))))
        go_roundw
        case rel => exact ⟨k + 1, ol23, ol31, by go_num, by rw [← HN.out]; omega, HV.out, by rw [HAC.out, ← intRows_snoc]; exact HO31.out, KN.drop .here⟩
        case measure => simp [intOf]; omega
      | false =>
        have HAC := Lib.hid (accL_no HR.out (by rw [← HRD.out]; exact hb))
        replace KN := KN.as_ g7 (repA r.core r.view.num m o s0 s2 s3 false r.next.num nm no p0 p2 p3) (by repeat (first | exact Repl.here | apply Repl.there)) (by rw [hb])
        clear hb
        go_wp2_with (first | ((with_reducible refine wpList_gate ?_); first | ((with_reducible refine gate_load ?_ ?_); rfl; first | (refine ks_loadW KN 40 Try.underlying40 ?_) | (refine ks_load1 KN 3 Try.underlying3 ?_) | (refine ks_load1 KN 4 Try.underlying4 ?_)) | ((with_reducible refine gate_store ?_ ?_); rfl; first | (refine ks_storeW KN 40 ?_; clear KN; intro wx KN) | (refine ks_storeA KN 40 ?_; clear KN; intro wx KN)) | ((with_reducible refine gate_new ?_ ?_); rfl; first | (refine ks_alloc KN 40 (q := 7) #[.int .i64 0, .int .i64 0, .slice none 0 0, .slice none 0 0, .slice none 0 0, .slice none 0 0, .slice none 0 0, .slice none 0 0, .slice none 0 0, .slice none 0 0, .bool false, .int .i64 0, .slice none 0 0, .slice none 0 0, .slice none 0 0, .slice none 0 0, .slice none 0 0, .slice none 0 0, .slice none 0 0, .slice none 0 0] ?_; clear KN; intro g7 wx hg7 KN) | (refine ks_alloc KN 40 (q := 11) #[.int .i64 0, .int .i64 0, .slice none 0 0, .slice none 0 0, .slice none 0 0, .slice none 0 0, .slice none 0 0, .slice none 0 0, .slice none 0 0, .slice none 0 0, .bool false, .int .i64 0, .slice none 0 0, .slice none 0 0, .slice none 0 0, .slice none 0 0, .slice none 0 0, .slice none 0 0, .slice none 0 0, .slice none 0 0] ?_; clear KN; intro g11 wx hg11 KN))))
        go_roundw
        case rel => exact ⟨k + 1, ol23, ob, by go_num, by rw [← HN.out]; omega, HV.out, by rw [HAC.out]; exact HB.out, (KN.drop .here).perm List.perm_append_comm⟩
        case measure => simp [intOf]; omega
    · obtain rfl : k = n := by omega
      have HTK : Hid (rs.take k = rs) := Lib.hid (List.take_of_length_le (by rw [← HN.out]; omega))
      rw [HTK.out] at HA HB
      by_cases h0 : k = 0
      · have HNIL : Hid (rs = []) := Lib.hid (List.eq_nil_of_length_eq_zero (by rw [← HN.out]; exact h0))
        subst h0
        go_wp2_with (first | ((with_reducible refine wpList_gate ?_); first | ((with_reducible refine gate_load ?_ ?_); rfl; first | (refine ks_loadW KN 40 Try.underlying40 ?_) | (refine ks_load1 KN 3 Try.underlying3 ?_) | (refine ks_load1 KN 4 Try.underlying4 ?_)) | ((with_reducible refine gate_store ?_ ?_); rfl; first | (refine ks_storeW KN 40 ?_; clear KN; intro wx KN) | (refine ks_storeA KN 40 ?_; clear KN; intro wx KN)) | ((with_reducible refine gate_new ?_ ?_); rfl; first | (refine ks_alloc KN 40 (q := 7) #[.int .i64 0, .int .i64 0, .slice none 0 0, .slice none 0 0, .slice none 0 0, .slice none 0 0, .slice none 0 0, .slice none 0 0, .slice none 0 0, .slice none 0 0, .bool false, .int .i64 0, .slice none 0 0, .slice none 0 0, .slice none 0 0, .slice none 0 0, .slice none 0 0, .slice none 0 0, .slice none 0 0, .slice none 0 0] ?_; clear KN; intro g7 wx hg7 KN) | (refine ks_alloc KN 40 (q := 11) #[.int .i64 0, .int .i64 0, .slice none 0 0, .slice none 0 0, .slice none 0 0, .slice none 0 0, .slice none 0 0, .slice none 0 0, .slice none 0 0, .slice none 0 0, .bool false, .int .i64 0, .slice none 0 0, .slice none 0 0, .slice none 0 0, .slice none 0 0, .slice none 0 0, .slice none 0 0, .slice none 0 0, .slice none 0 0] ?_; clear KN; intro g11 wx hg11 KN))))
        refine bodyPost_ret (results_tmp2 rfl _ _ _) rfl ?_
        exact ⟨0, false, rfl, .inl ⟨HNIL.out, rfl, rfl⟩, KN.toBelow⟩
      · have ROWV := Lib.hid (HA.out.row (f := fun o => o) (KN.sub (List.sublist_append_left _ _)) .id)
        have ROWA := Lib.hid (HB.out.row (f := fun o => o) (KN.sub (List.sublist_append_right _ _)) .id)
        have HV0 : Hid (0 < (viewsL rs).length) := Lib.hid (by unfold viewsL; rw [List.length_map, ← HN.out]; omega)
        have hn0 : ((k : Int) == 0) = false := beq_eq_false_iff_ne.2 (by omega)
        go_upto_region 12 with (first | (go_at_call 25; refine (Max_any ROWV.out HV0.out).mono ?_; rintro e wx ⟨gm, rfl, hgm, rfl⟩; have HGM := Lib.hid hgm; clear hgm) | ((with_reducible refine wpList_gate ?_); first | ((with_reducible refine gate_load ?_ ?_); rfl; first | (refine ks_loadW KN 40 Try.underlying40 ?_) | (refine ks_load1 KN 3 Try.underlying3 ?_) | (refine ks_load1 KN 4 Try.underlying4 ?_)) | ((with_reducible refine gate_store ?_ ?_); rfl; first | (refine ks_storeW KN 40 ?_; clear KN; intro wx KN) | (refine ks_storeA KN 40 ?_; clear KN; intro wx KN)) | ((with_reducible refine gate_new ?_ ?_); rfl; first | (refine ks_alloc KN 40 (q := 7) #[.int .i64 0, .int .i64 0, .slice none 0 0, .slice none 0 0, .slice none 0 0, .slice none 0 0, .slice none 0 0, .slice none 0 0, .slice none 0 0, .slice none 0 0, .bool false, .int .i64 0, .slice none 0 0, .slice none 0 0, .slice none 0 0, .slice none 0 0, .slice none 0 0, .slice none 0 0, .slice none 0 0, .slice none 0 0] ?_; clear KN; intro g7 wx hg7 KN) | (refine ks_alloc KN 40 (q := 11) #[.int .i64 0, .int .i64 0, .slice none 0 0, .slice none 0 0, .slice none 0 0, .slice none 0 0, .slice none 0 0, .slice none 0 0, .slice none 0 0, .slice none 0 0, .bool false, .int .i64 0, .slice none 0 0, .slice none 0 0, .slice none 0 0, .slice none 0 0, .slice none 0 0, .slice none 0 0, .slice none 0 0, .slice none 0 0] ?_; clear KN; intro g11 wx hg11 KN))))
        (try go_frame)
        by_cases ha : yn = 0
        · have HAN : Hid (accL rs = []) := Lib.hid (List.eq_nil_of_length_eq_zero (by have := HYN.out; rw [List.length_map, HTK.out] at this; omega))
          subst ha
          go_wp2_with (first | ((with_reducible refine wpList_gate ?_); first | ((with_reducible refine gate_load ?_ ?_); rfl; first | (refine ks_loadW KN 40 Try.underlying40 ?_) | (refine ks_load1 KN 3 Try.underlying3 ?_) | (refine ks_load1 KN 4 Try.underlying4 ?_)) | ((with_reducible refine gate_store ?_ ?_); rfl; first | (refine ks_storeW KN 40 ?_; clear KN; intro wx KN) | (refine ks_storeA KN 40 ?_; clear KN; intro wx KN)) | ((with_reducible refine gate_new ?_ ?_); rfl; first | (refine ks_alloc KN 40 (q := 7) #[.int .i64 0, .int .i64 0, .slice none 0 0, .slice none 0 0, .slice none 0 0, .slice none 0 0, .slice none 0 0, .slice none 0 0, .slice none 0 0, .slice none 0 0, .bool false, .int .i64 0, .slice none 0 0, .slice none 0 0, .slice none 0 0, .slice none 0 0, .slice none 0 0, .slice none 0 0, .slice none 0 0, .slice none 0 0] ?_; clear KN; intro g7 wx hg7 KN) | (refine ks_alloc KN 40 (q := 11) #[.int .i64 0, .int .i64 0, .slice none 0 0, .slice none 0 0, .slice none 0 0, .slice none 0 0, .slice none 0 0, .slice none 0 0, .slice none 0 0, .slice none 0 0, .bool false, .int .i64 0, .slice none 0 0, .slice none 0 0, .slice none 0 0, .slice none 0 0, .slice none 0 0, .slice none 0 0, .slice none 0 0, .slice none 0 0] ?_; clear KN; intro g11 wx hg11 KN))))
          refine bodyPost_ret (results_tmp2 rfl _ _ _) rfl ?_

          exact ⟨gm, false, rfl, .inr ⟨gm, HGM.out, .inl ⟨HAN.out, rfl, rfl⟩⟩, KN.toBelow⟩
        · have HA0 : Hid (0 < (accL rs).length) := Lib.hid (by have := HYN.out; rw [List.length_map, HTK.out] at this; omega)
          have ha0 : ((yn : Int) == 0) = false := beq_eq_false_iff_ne.2 (by omega)
          go_upto_block 2 with (first | (go_at_call 25; refine (Max_any ROWA.out HA0.out).mono ?_; rintro e wx ⟨mx, rfl, hmx, rfl⟩; have HMX := Lib.hid hmx; clear hmx) | ((with_reducible refine wpList_gate ?_); first | ((with_reducible refine gate_load ?_ ?_); rfl; first | (refine ks_loadW KN 40 Try.underlying40 ?_) | (refine ks_load1 KN 3 Try.underlying3 ?_) | (refine ks_load1 KN 4 Try.underlying4 ?_)) | ((with_reducible refine gate_store ?_ ?_); rfl; first | (refine ks_storeW KN 40 ?_; clear KN; intro wx KN) | (refine ks_storeA KN 40 ?_; clear KN; intro wx KN)) | ((with_reducible refine gate_new ?_ ?_); rfl; first | (refine ks_alloc KN 40 (q := 7) #[.int .i64 0, .int .i64 0, .slice none 0 0, .slice none 0 0, .slice none 0 0, .slice none 0 0, .slice none 0 0, .slice none 0 0, .slice none 0 0, .slice none 0 0, .bool false, .int .i64 0, .slice none 0 0, .slice none 0 0, .slice none 0 0, .slice none 0 0, .slice none 0 0, .slice none 0 0, .slice none 0 0, .slice none 0 0] ?_; clear KN; intro g7 wx hg7 KN) | (refine ks_alloc KN 40 (q := 11) #[.int .i64 0, .int .i64 0, .slice none 0 0, .slice none 0 0, .slice none 0 0, .slice none 0 0, .slice none 0 0, .slice none 0 0, .slice none 0 0, .slice none 0 0, .bool false, .int .i64 0, .slice none 0 0, .slice none 0 0, .slice none 0 0, .slice none 0 0, .slice none 0 0, .slice none 0 0, .slice none 0 0, .slice none 0 0] ?_; clear KN; intro g11 wx hg11 KN))))
          (try go_frame)
          go_wp2_with fail
          clear HA HB hk hlt
          go_loopw [46] (fun i wr => BsR2 rs mx w i wr) (fun i _ => k - (intOf i).toNat)
          case atStart => exact ⟨0, rfl, Nat.zero_le _, rfl, KN.frame0⟩
          case round =>
            clear KN
            obtain ⟨j, rfl, hj, hall, KN⟩ := hrel
            have HALL := Lib.hid hall
            rw [← HN.out] at hj
            clear hall
            by_cases hlt : j < k
            · obtain ⟨r, hr⟩ : ∃ r, rs[j]? = some r := ⟨_, List.getElem?_eq_getElem (by rw [← HN.out]; exact hlt)⟩
              obtain ⟨g, off, cs, rfl, hg, hc1, hc2, hd, hrange⟩ := HF.out j r hr
              obtain ⟨m, o, s0, s2, s3, nm, no, p0, p2, p3, rfl, _⟩ := hd
              have HR := Lib.hid hr
              have RNG := Lib.hid hrange
              have hc1' : k ≤ c := by rw [HN.out]; exact hc1
              have HNX : Hid (knows mx r = true → (rs.take (j + 1)).all (knows mx) = true) := Lib.hid (fun h => by rw [List.take_add_one, hr, List.all_append, HALL.out]; simp [h])
              have HBADX : Hid (knows mx r = false → IsBase rs gm false) := Lib.hid (fun h => .inr ⟨gm, HGM.out, .inr ⟨mx, HMX.out, .inr ⟨(by
                rw [← Bool.not_eq_true]
                intro hq
                have := List.all_eq_true.1 hq r (List.mem_of_getElem? HR.out)
                rw [h] at this; cases this), rfl, rfl⟩⟩⟩)
              unfold maxLen at hc2
              obtain ⟨rd, hrd⟩ : ∃ b, b = r.ready := ⟨_, rfl⟩
              have HRD := Lib.hid hrd
              rw [← hrd] at RNG
              clear hr hrange hc1 hrd
              have d1 : decide (r.view.num < mx) = true ∨ decide (r.view.num < mx) = false := by cases decide (r.view.num < mx) <;> simp
              have d3 : (r.next.num == mx) = true ∨ (r.next.num == mx) = false := by cases (r.next.num == mx) <;> simp
              have HK : Hid (∀ b1 b3, decide (r.view.num < mx) = b1 → (r.next.num == mx) = b3 → knows mx r = !(b1 && !(rd && b3))) := Lib.hid (fun b1 b3 h1 h3 => by unfold knows; rw [h1, h3, ← HRD.out])
              rcases d1 with d1 | d1
              · cases hb : rd with
                | false =>
                  have HQ := Lib.hid (HBADX.out (by rcases d3 with d3 | d3 <;> (rw [HK.out _ _ d1 d3, hb]; rfl)))
                  rw [hb] at RNG
                  clear hb d3
                  go_wp2_with (first | ((with_reducible refine wpList_gate ?_); first | ((with_reducible refine gate_load ?_ ?_); rfl; first | (refine wpList_kn_oldN KN (by rfl) 40 _ rfl g _ rfl (repA r.core r.view.num m o s0 s2 s3 false r.next.num nm no p0 p2 p3) RNG.out hg (by simp) _ Try.underlying40 rfl (by kernel_rfl) ?_) | (refine ks_loadW KN 40 Try.underlying40 ?_) | (refine ks_load1 KN 3 Try.underlying3 ?_) | (refine ks_load1 KN 4 Try.underlying4 ?_)) | ((with_reducible refine gate_store ?_ ?_); rfl; first | (refine ks_storeW KN 40 ?_; clear KN; intro wx KN) | (refine ks_storeA KN 40 ?_; clear KN; intro wx KN)) | ((with_reducible refine gate_new ?_ ?_); rfl; first | (refine ks_alloc KN 40 (q := 7) #[.int .i64 0, .int .i64 0, .slice none 0 0, .slice none 0 0, .slice none 0 0, .slice none 0 0, .slice none 0 0, .slice none 0 0, .slice none 0 0, .slice none 0 0, .bool false, .int .i64 0, .slice none 0 0, .slice none 0 0, .slice none 0 0, .slice none 0 0, .slice none 0 0, .slice none 0 0, .slice none 0 0, .slice none 0 0] ?_; clear KN; intro g7 wx hg7 KN) | (refine ks_alloc KN 40 (q := 11) #[.int .i64 0, .int .i64 0, .slice none 0 0, .slice none 0 0, .slice none 0 0, .slice none 0 0, .slice none 0 0, .slice none 0 0, .slice none 0 0, .slice none 0 0, .bool false, .int .i64 0, .slice none 0 0, .slice none 0 0, .slice none 0 0, .slice none 0 0, .slice none 0 0, .slice none 0 0, .slice none 0 0, .slice none 0 0] ?_; clear KN; intro g11 wx hg11 KN))))
                  refine bodyPost_ret (results_tmp2 rfl _ _ _) rfl ?_
                  exact ⟨gm, false, rfl, HQ.out, KN.toBelow⟩
                | true =>
                  rw [hb] at RNG
                  rcases d3 with d3 | d3
                  · have HQ := Lib.hid (HNX.out (by rw [HK.out _ _ d1 d3, hb]; rfl))
                    clear hb
                    go_wp2_with (first | ((with_reducible refine wpList_gate ?_); first | ((with_reducible refine gate_load ?_ ?_); rfl; first | (refine wpList_kn_oldN KN (by rfl) 40 _ rfl g _ rfl (repA r.core r.view.num m o s0 s2 s3 true r.next.num nm no p0 p2 p3) RNG.out hg (by simp) _ Try.underlying40 rfl (by kernel_rfl) ?_) | (refine ks_loadW KN 40 Try.underlying40 ?_) | (refine ks_load1 KN 3 Try.underlying3 ?_) | (refine ks_load1 KN 4 Try.underlying4 ?_)) | ((with_reducible refine gate_store ?_ ?_); rfl; first | (refine ks_storeW KN 40 ?_; clear KN; intro wx KN) | (refine ks_storeA KN 40 ?_; clear KN; intro wx KN)) | ((with_reducible refine gate_new ?_ ?_); rfl; first | (refine ks_alloc KN 40 (q := 7) #[.int .i64 0, .int .i64 0, .slice none 0 0, .slice none 0 0, .slice none 0 0, .slice none 0 0, .slice none 0 0, .slice none 0 0, .slice none 0 0, .slice none 0 0, .bool false, .int .i64 0, .slice none 0 0, .slice none 0 0, .slice none 0 0, .slice none 0 0, .slice none 0 0, .slice none 0 0, .slice none 0 0, .slice none 0 0] ?_; clear KN; intro g7 wx hg7 KN) | (refine ks_alloc KN 40 (q := 11) #[.int .i64 0, .int .i64 0, .slice none 0 0, .slice none 0 0, .slice none 0 0, .slice none 0 0, .slice none 0 0, .slice none 0 0, .slice none 0 0, .slice none 0 0, .bool false, .int .i64 0, .slice none 0 0, .slice none 0 0, .slice none 0 0, .slice none 0 0, .slice none 0 0, .slice none 0 0, .slice none 0 0, .slice none 0 0] ?_; clear KN; intro g11 wx hg11 KN))))
                    go_roundw
                    case rel => exact ⟨j + 1, by go_num, by rw [← HN.out]; omega, HQ.out, KN.frame0⟩
                    case measure => simp [intOf]; omega
                  · have HQ := Lib.hid (HBADX.out (by rw [HK.out _ _ d1 d3, hb]; rfl))
                    clear hb
                    go_wp2_with (first | ((with_reducible refine wpList_gate ?_); first | ((with_reducible refine gate_load ?_ ?_); rfl; first | (refine wpList_kn_oldN KN (by rfl) 40 _ rfl g _ rfl (repA r.core r.view.num m o s0 s2 s3 true r.next.num nm no p0 p2 p3) RNG.out hg (by simp) _ Try.underlying40 rfl (by kernel_rfl) ?_) | (refine ks_loadW KN 40 Try.underlying40 ?_) | (refine ks_load1 KN 3 Try.underlying3 ?_) | (refine ks_load1 KN 4 Try.underlying4 ?_)) | ((with_reducible refine gate_store ?_ ?_); rfl; first | (refine ks_storeW KN 40 ?_; clear KN; intro wx KN) | (refine ks_storeA KN 40 ?_; clear KN; intro wx KN)) | ((with_reducible refine gate_new ?_ ?_); rfl; first | (refine ks_alloc KN 40 (q := 7) #[.int .i64 0, .int .i64 0, .slice none 0 0, .slice none 0 0, .slice none 0 0, .slice none 0 0, .slice none 0 0, .slice none 0 0, .slice none 0 0, .slice none 0 0, .bool false, .int .i64 0, .slice none 0 0, .slice none 0 0, .slice none 0 0, .slice none 0 0, .slice none 0 0, .slice none 0 0, .slice none 0 0, .slice none 0 0] ?_; clear KN; intro g7 wx hg7 KN) | (refine ks_alloc KN 40 (q := 11) #[.int .i64 0, .int .i64 0, .slice none 0 0, .slice none 0 0, .slice none 0 0, .slice none 0 0, .slice none 0 0, .slice none 0 0, .slice none 0 0, .slice none 0 0, .bool false, .int .i64 0, .slice none 0 0, .slice none 0 0, .slice none 0 0, .slice none 0 0, .slice none 0 0, .slice none 0 0, .slice none 0 0, .slice none 0 0] ?_; clear KN; intro g11 wx hg11 KN))))
                    refine bodyPost_ret (results_tmp2 rfl _ _ _) rfl ?_
                    exact ⟨gm, false, rfl, HQ.out, KN.toBelow⟩
              · have HQ := Lib.hid (HNX.out (by rcases d3 with d3 | d3 <;> (rw [HK.out _ _ d1 d3]; rfl)))
                clear d3
                go_wp2_with (first | ((with_reducible refine wpList_gate ?_); first | ((with_reducible refine gate_load ?_ ?_); rfl; first | (refine wpList_kn_oldN KN (by rfl) 40 _ rfl g _ rfl (repA r.core r.view.num m o s0 s2 s3 rd r.next.num nm no p0 p2 p3) RNG.out hg (by simp) _ Try.underlying40 rfl (by kernel_rfl) ?_) | (refine ks_loadW KN 40 Try.underlying40 ?_) | (refine ks_load1 KN 3 Try.underlying3 ?_) | (refine ks_load1 KN 4 Try.underlying4 ?_)) | ((with_reducible refine gate_store ?_ ?_); rfl; first | (refine ks_storeW KN 40 ?_; clear KN; intro wx KN) | (refine ks_storeA KN 40 ?_; clear KN; intro wx KN)) | ((with_reducible refine gate_new ?_ ?_); rfl; first | (refine ks_alloc KN 40 (q := 7) #[.int .i64 0, .int .i64 0, .slice none 0 0, .slice none 0 0, .slice none 0 0, .slice none 0 0, .slice none 0 0, .slice none 0 0, .slice none 0 0, .slice none 0 0, .bool false, .int .i64 0, .slice none 0 0, .slice none 0 0, .slice none 0 0, .slice none 0 0, .slice none 0 0, .slice none 0 0, .slice none 0 0, .slice none 0 0] ?_; clear KN; intro g7 wx hg7 KN) | (refine ks_alloc KN 40 (q := 11) #[.int .i64 0, .int .i64 0, .slice none 0 0, .slice none 0 0, .slice none 0 0, .slice none 0 0, .slice none 0 0, .slice none 0 0, .slice none 0 0, .slice none 0 0, .bool false, .int .i64 0, .slice none 0 0, .slice none 0 0, .slice none 0 0, .slice none 0 0, .slice none 0 0, .slice none 0 0, .slice none 0 0, .slice none 0 0] ?_; clear KN; intro g11 wx hg11 KN))))
                go_roundw
                case rel => exact ⟨j + 1, by go_num, by rw [← HN.out]; omega, HQ.out, KN.frame0⟩
                case measure => simp [intOf]; omega
            · have HQ : Hid (IsBase rs mx true) := Lib.hid (.inr ⟨gm, HGM.out, .inr ⟨mx, HMX.out, .inl ⟨(by
                have := HALL.out
                rwa [List.take_of_length_le (by rw [← HN.out]; omega)] at this), rfl, rfl⟩⟩⟩)
              go_wp2_with fail
              refine bodyPost_ret (results_tmp2 rfl _ _ _) rfl ?_
              exact ⟨mx, true, rfl, HQ.out, KN.toBelow⟩
end Go.Proofs.Ytpjejaoobbancaa
