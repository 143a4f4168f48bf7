/- Merged: CVal, CNew1, CView. -/
import Derived.Test.YtlhmeeidlhpodaaGreatPkClA
import Derived.Test.YtlhmeeidlhpodaaGreatPkGenJ
import Derived.Test.YtlhmeeidlhpodaaGreatPkViewG
set_option linter.unusedVariables false
set_option linter.unusedSimpArgs false
set_option linter.unusedSectionVars false
namespace Go.Proofs.YtlhmeeidlhpodaaGreat
section
open Go.RowKit Go.BigFrame
/-- The value is this configuration. -/
structure CfgRd (w : World) (sw sr so : Value) (c : Cfg) : Prop where
  rw_ : Row w sw 1 (intRows c.ws)
  rr : Row w sr 3 (regRows c.rs)
  ro : Row w so 1 (intRows c.os)
  ist : I64 c.st
  isl : I64 c.sl
  irs : ∀ r ∈ c.rs, I64 r.1 ∧ I64 r.2.1
  ios : ∀ x ∈ c.os, I64 x
theorem CfgRd.below {w w' : World} {sw sr so : Value} {c : Cfg} (h : CfgRd w sw sr so c) (hb : Below w.heap.size w w') : CfgRd w' sw sr so c := ⟨h.rw_.below hb, h.rr.below hb, h.ro.below hb, h.ist, h.isl, h.irs, h.ios⟩
theorem reg_at {w : World} {v : Value} {l : List Reg} (h : Row w v 3 (regRows l)) : ∃ a c, v = .slice a l.length c ∧ l.length ≤ maxLen ∧ ∀ (k : Nat) (r : Reg), l[k]? = some r → ∃ (g off : Nat), a = some ⟨g, off, none⟩ ∧ g < w.heap.size ∧ l.length ≤ c ∧ c ≤ maxLen ∧ w.rangeAt g (off + k * 3) [Value.int .i64 r.1, .int .i64 r.2.1, .bool r.2.2] := by
  have hm := h.1
  unfold regRows at h hm
  rw [List.length_map] at hm
  rcases h.2 with ⟨h0, a, c, rfl⟩ | ⟨b, off, cap, hv, h0, hl, hmm, hb, hc⟩
  · have : l = [] := by simpa using h0
    subst this
    exact ⟨a, c, rfl, by simp, fun k x hx => by simp at hx⟩
  · rw [List.length_map] at hv hl
    refine ⟨_, _, hv, hm, fun k m hk => ?_⟩
    refine ⟨b, off, rfl, hb, hl, hmm, fun j u hj => ?_⟩
    have := hc k [Value.int .i64 m.1, .int .i64 m.2.1, .bool m.2.2] j u (by rw [List.getElem?_map, hk]; rfl) hj
    rw [← this]
set_option maxRecDepth 100000 in
theorem Prange_any (b k : Int) (d : Bool) (w : World) : Calls Tryz.prog 55 #[.agg #[.int .i64 b, .int .i64 k, .bool d]] w fun e w' => e = .returned (.agg #[.int .i64 b, .int .i64 k]) ∧ Below w.heap.size w w' := by
  have KN := Kn.start w
  go_enter Tryz.func55, Tryz.ntmps55
  go_wp2_with (first | ((with_reducible refine wpList_gate ?_); first | ((with_reducible refine gate_load ?_ ?_); rfl; first | (refine ks_load1 KN 3 Tryz.underlying3 ?_)) | ((with_reducible refine gate_store ?_ ?_); rfl; first | (refine ks_storeW KN 69 ?_; clear KN; intro wx KN) | (refine ks_storeA KN 69 ?_; clear KN; intro wx KN)) | ((with_reducible refine gate_new ?_ ?_); rfl; first | (refine wpList_built rfl 69 #[(0, .tmp 4), (1, .tmp 6)] rfl #[.int .i64 b, .int .i64 k] (by kernel_rfl) ?_) | (refine ks_boxA KN 57 (q := 1) ?_; clear KN; intro g1 wx hg1 KN) | (refine ks_alloc KN 69 (q := 2) #[.int .i64 0, .int .i64 0] ?_; clear KN; intro g2 wx hg2 KN))))
  replace KN := KN.as_ g2 #[.int .i64 b, .int .i64 k] (by repeat (first | exact Repl.here | apply Repl.there)) (by kernel_rfl)
  refine bodyPost_ret (results_cell_row (p := 2) Tryz.results55 _ _ g2 69 #[.int .i64 b, .int .i64 k] (0, 0) _ rfl (KN.at_ (by repeat (first | exact Has.here | refine Has.there ?_))) Tryz.underlying69 rfl (by kernel_rfl)) rfl ?_
  exact ⟨rfl, KN.toBelow⟩
set_option maxRecDepth 100000 in
theorem Rrange_any (b k : Int) (d : Bool) (w : World) : Calls Tryz.prog 21 #[.agg #[.int .i64 b, .int .i64 k, .bool d]] w fun e w' => e = .returned (.agg #[.int .i64 b, .int .i64 k]) ∧ Below w.heap.size w w' := by
  have KN := Kn.start w
  go_enter Tryz.func21, Tryz.ntmps21
  go_wp2_with (first | ((with_reducible refine wpList_gate ?_); first | ((with_reducible refine gate_load ?_ ?_); rfl; first | (refine ks_load1 KN 3 Tryz.underlying3 ?_)) | ((with_reducible refine gate_store ?_ ?_); rfl; first | (refine ks_storeW KN 69 ?_; clear KN; intro wx KN) | (refine ks_storeA KN 69 ?_; clear KN; intro wx KN)) | ((with_reducible refine gate_new ?_ ?_); rfl; first | (refine wpList_built rfl 69 #[(0, .tmp 4), (1, .tmp 6)] rfl #[.int .i64 b, .int .i64 k] (by kernel_rfl) ?_) | (refine ks_boxA KN 57 (q := 1) ?_; clear KN; intro g1 wx hg1 KN) | (refine ks_alloc KN 69 (q := 2) #[.int .i64 0, .int .i64 0] ?_; clear KN; intro g2 wx hg2 KN))))
  replace KN := KN.as_ g2 #[.int .i64 b, .int .i64 k] (by repeat (first | exact Repl.here | apply Repl.there)) (by kernel_rfl)
  refine bodyPost_ret (results_cell_row (p := 2) Tryz.results21 _ _ g2 69 #[.int .i64 b, .int .i64 k] (0, 0) _ rfl (KN.at_ (by repeat (first | exact Has.here | refine Has.there ?_))) Tryz.underlying69 rfl (by kernel_rfl)) rfl ?_
  exact ⟨rfl, KN.toBelow⟩
end
section
open Go.RowKit Go.BigFrame
set_option maxRecDepth 100000 in
theorem CloneR_any {w : World} {v : Value} {rs : List Reg} (h : Row w v 3 (regRows rs)) (hn : rs.length ≤ 1000000) :
    Calls Tryz.prog 18 #[v] w fun e w' => ∃ v' ol, e = .returned v' ∧ OwnT 57 3 v' (regRows rs) ol ∧ Kn [] w w' ol := by
  have KN := Kn.start w
  have HR := Lib.hid h
  obtain ⟨a, c, hv, hm, hc⟩ := reg_at h
  obtain ⟨n, hn'⟩ : ∃ n, n = rs.length := ⟨_, rfl⟩
  have HN := Lib.hid hn'
  rw [← hn'] at hv hn
  subst hv
  cases a with
  | none =>
    have HZ : Hid (rs = []) := Lib.hid (by
      cases rs with
      | nil => rfl
      | cons z zs => obtain ⟨g, off, h, _⟩ := hc 0 z rfl; cases h)
    clear h hc hm hn'
    have hq : ∀ w, Sem.run Tryz.prog (binOp .eql 23 (.slice none n c) (.slice none 0 0)) w = .ok (.bool true) w := fun w => Lib.run_eql_slice_nil w _ _ none n c 0 0 Tryz.underlying23
    go_enter Tryz.func18, Tryz.ntmps18
    go_wp2
    go_ret
    exact ⟨.slice none 0 0, [], rfl, by rw [HZ.out]; exact .nil, KN⟩
  | some a =>
    clear h hc hm hn'
    have hq : ∀ w, Sem.run Tryz.prog (binOp .eql 23 (.slice (some a) n c) (.slice none 0 0)) w = .ok (.bool false) w := fun w => Lib.run_eql_slice_nil w _ _ (some a) n c 0 0 Tryz.underlying23
    go_enter Tryz.func18, Tryz.ntmps18
    go_wp2_with (first | ((with_reducible refine wpList_gate ?_); first | (at_builtin; refine wpList_kn_appendR (f := fun o => o) KN (.blk (L := []) (cap := 0) (by decide) (by decide) (by simp)) (by rfl) _ _ 23 rfl 24 Tryz.underlying23 region_info (by decide) rfl (.slice (some a) n c) rfl _ (HR.out.below KN.toBelow) (regRows_len _) (regRows_one _) (by unfold regRows; rw [List.length_map, ← HN.out]; unfold maxLen; simp; omega) (by unfold regRows; rw [List.length_map, ← HN.out]; simp; omega) .id rfl ?_; clear KN; intro v7 wx ol7 OW7 KN; have HO7 := Lib.hid OW7; clear OW7) | ((with_reducible refine gate_new ?_ ?_); rfl; first | (refine wpList_kn_buildSlice KN (by rfl) 23 0 _ rfl 5 rfl 57 #[] (by kernel_rfl) ?_; clear KN; intro g5 wx hg5 KN; replace KN : Kn [] w wx [(g5, CapAt 57 3 0 [])] := KN.weak (fun o ho => ⟨#[], ho, rfl, rfl⟩) Repl.here))))
    go_ret
    exact ⟨v7, ol7, rfl, HO7.out, KN⟩
/-- A Sync at the start. -/
def syncN (core : Int) (rg : Value) (sl vn : Int) (m o : Value) : Array Value :=
  #[.int .i64 core, rg, .int .i64 sl, .int .i64 vn, m, o, .int .i64 0, .slice none 0 0, .slice none 0 0, .slice none 0 0, .slice none 0 0, .slice none 0 0, .slice none 0 0, .slice none 0 0, .slice none 0 0, .bool false, .bool false, .bool false, .int .i64 0, .int .i64 0,
    .slice none 0 0, .slice none 0 0, .slice none 0 0, .int .i64 0, .int .i64 0, .int .i64 0, .slice none 0 0, .slice none 0 0, .slice none 0 0]
def VNewOut (core sl num : Int) (mem own : List Int) (w : World) (e : Ending) (w' : World) : Prop := ∃ (g : Nat) (rg m o : Value) (om oo : Ents), e = .returned (.pointer (some ⟨g, 0, none⟩)) ∧ OwnT 3 1 m (intRows mem) om ∧ OwnT 3 1 o (intRows own) oo ∧
      Kn [] w w' ((g, At (syncN core rg sl num m o) 146) :: (om ++ oo))
set_option maxRecDepth 100000 in
set_option maxHeartbeats 4000000 in
theorem VNew_any {w : World} {core sl num : Int} {vm vo sr : Value} {mem own : List Int} {rs : List Reg} (hm : Row w vm 1 (intRows mem)) (ho : Row w vo 1 (intRows own)) (h1 : mem.length ≤ 1000000) (h2 : own.length ≤ 1000000) (hr : Row w sr 3 (regRows rs)) (h3 : rs.length ≤ 1000000) :
    Calls Tryz.prog 39 #[.int .i64 core, .agg #[.int .i64 num, vm, vo], sr, .int .i64 sl] w (VNewOut core sl num mem own w) := by
  have KN := Kn.start w
  have HM := Lib.hid hm
  have HO := Lib.hid ho
  have H1 := Lib.hid h1
  have H2 := Lib.hid h2
  have H3 := Lib.hid h3
  have HR := Lib.hid hr
  obtain ⟨xa, xc, rfl, _⟩ := ints_form hm
  obtain ⟨ya, yc, rfl, _⟩ := ints_form ho
  obtain ⟨za, zc, rfl, _⟩ := reg_at hr
  clear hm ho h1 h2 h3 hr
  go_enter Tryz.func39, Tryz.ntmps39
  go_wp2_with (first | (go_at_call 60; refine (copyView_any (HM.out.below KN.toBelow) (HO.out.below KN.toBelow) H1.out H2.out).mono ?_; rintro e wx ⟨ma, mn, mc, oa, on, oc, om, oo, rfl, O1, O2, K2⟩; have HO1 := Lib.hid O1; have HO2 := Lib.hid O2; replace KN := (KN.call0 K2).perm List.perm_append_comm; simp only [List.cons_append, List.nil_append] at KN; clear K2 O1 O2) | (go_at_call 18; refine (CloneR_any (HR.out.below KN.toBelow) H3.out).mono ?_; rintro e wx ⟨v1, ol1, rfl, O1, K2⟩; obtain ⟨ra, rn, rc, rfl⟩ := O1.form3; replace KN := KN.below K2.toBelow; clear K2 O1) | ((with_reducible refine wpList_gate ?_); first | ((with_reducible refine gate_load ?_ ?_); rfl; first | (refine ks_loadW KN 63 Tryz.underlying63 ?_)) | ((with_reducible refine gate_new ?_ ?_); rfl; first | (refine wpList_built rfl 146 #[(0, .tmp 9), (3, .tmp 11), (1, .tmp 13), (2, .tmp 14)] rfl (syncN core (.slice ra rn rc) sl num (.slice ma mn mc) (.slice oa on oc)) (by kernel_rfl) ?_) | (refine ks_boxA KN 63 (q := 5) ?_; clear KN; intro g5 wx hg5 KN) | (refine ks_boxA KN 146 (q := 16) ?_; clear KN; intro g16 wx hg16 KN))))
  go_ret
  exact ⟨g16, _, _, _, om, oo, rfl, HO1.out, HO2.out, KN.drop (.there .here)⟩
/-- A loop that has no round. -/
def ZLoop (Q : World → Prop) (i : Value) (wr : World) : Prop := i = .int .i64 0 ∧ Q wr
set_option maxRecDepth 100000 in
theorem ONew_any (i b k : Int) (d : Bool) (w : World) : Calls Tryz.prog 59 #[.int .i64 i, .agg #[.int .i64 b, .int .i64 k, .bool d], .slice none 0 0] w fun e w' => ∃ a, e = .returned (.pointer (some a)) ∧ Below w.heap.size w w' := by
  have KN := Kn.start w
  go_enter Tryz.func59, Tryz.ntmps59
  go_wp2_with (first | ((with_reducible refine wpList_gate ?_); first | ((with_reducible refine gate_load ?_ ?_); rfl; first | (refine ks_loadW KN 57 Tryz.underlying57 ?_) | (refine ks_loadW KN 135 Tryz.underlying135 ?_) | (refine ks_load1 KN 121 Tryz.underlying121 ?_)) | ((with_reducible refine gate_store ?_ ?_); rfl; first | (refine ks_storeW KN 135 ?_; clear KN; intro wx KN) | (refine ks_storeA KN 135 ?_; clear KN; intro wx KN) | (refine ks_store1 KN 121 ?_; clear KN; intro wx KN)) | ((with_reducible refine gate_new ?_ ?_); rfl; first | (refine wpList_built rfl 185 #[(0, .tmp 12), (1, .tmp 13)] rfl (#[.int .i64 i, .int .i64 b, .int .i64 k, .bool d, .slice none 0 0, .slice none 0 0, .int .i64 0, .int .i64 0, .int .i64 0, .int .i64 0, .int .i64 0, .int .i64 0, .int .i64 0, .int .i64 0, .int .i64 0, .int .i64 0, .int .i64 0, .int .i64 0, .int .i64 0, .int .i64 0, .int .i64 0, .int .i64 0, .int .i64 0, .int .i64 0, .int .i64 0, .int .i64 0, .slice none 0 0, .int .i64 0, .int .i64 0, .int .i64 0, .int .i64 0, .int .i64 0, .int .i64 0, .bool false, .int .i64 0, .slice none 0 0, .slice none 0 0, .slice none 0 0]) (by kernel_rfl) ?_) | (refine ks_boxA KN 57 (q := 4) ?_; clear KN; intro g4 wx hg4 KN) | (refine ks_boxA KN 185 (q := 15) ?_; clear KN; intro g15 wx hg15 KN) | (refine ks_alloc KN 135 (q := 9) #[.int .i64 0, .int .i64 0, .int .i64 0, .int .i64 0, .int .i64 0, .slice none 0 0, .int .i64 0, .int .i64 0, .int .i64 0, .int .i64 0, .int .i64 0, .int .i64 0, .bool false] ?_; clear KN; intro g9 wx hg9 KN))))
  replace KN := KN.toBelow
  go_loopw [18] (fun i wr => ZLoop (fun wr => Below w.heap.size w wr) i wr) (fun _ _ => 0)
  case atStart => exact ⟨rfl, KN⟩
  case round =>
    clear KN
    obtain ⟨rfl, KN⟩ := hrel
    go_wp2_with fail
    go_ret
    exact ⟨_, rfl, KN⟩
end
section
open Go.RowKit Go.BigFrame
/-- What a call gives that copies a view. -/
def ViewOut (num : Int) (mem own : List Int) (w : World) (e : Ending) (w' : World) : Prop := ∃ (m o : Value) (om oo : Ents), e = .returned (.agg #[.int .i64 num, m, o]) ∧ OwnT 3 1 m (intRows mem) om ∧ OwnT 3 1 o (intRows own) oo ∧ Kn [] w w' (om ++ oo)
set_option maxRecDepth 100000 in
set_option maxHeartbeats 4000000 in
theorem SView_any {w : World} {g : Nat} {core sl num : Int} {rg m o : Value} {mem own : List Int} (hb : BlkT w g (syncN core rg sl num m o) 146) (hm : Row w m 1 (intRows mem)) (ho : Row w o 1 (intRows own)) (lm : mem.length ≤ 1000000) (lo : own.length ≤ 1000000) :
    Calls Tryz.prog 40 #[.pointer (some ⟨g, 0, none⟩)] w (ViewOut num mem own w) := by
  have KN := Kn.start w
  have HM := Lib.hid hm
  have HO := Lib.hid ho
  have LM := Lib.hid lm
  have LO := Lib.hid lo
  have RNG : Hid (w.rangeAt g 3 [.int .i64 num, m, o]) := Lib.hid (by
    intro j v hj
    have hl : j < 3 := (List.getElem?_eq_some_iff.1 hj).1
    have : j = 0 ∨ j = 1 ∨ j = 2 := by omega
    rcases this with rfl | rfl | rfl
    · exact ((blk_cell hb 3).trans (show (syncN core rg sl num m o)[3]? = some (.int .i64 num) from rfl)).trans hj
    · exact ((blk_cell hb 4).trans (show (syncN core rg sl num m o)[4]? = some m from rfl)).trans hj
    · exact ((blk_cell hb 5).trans (show (syncN core rg sl num m o)[5]? = some o from rfl)).trans hj)
  have hgl : g < w.heap.size := (Array.getElem?_eq_some_iff.1 hb).1
  obtain ⟨xa, xc, rfl, _⟩ := ints_form hm
  obtain ⟨ya, yc, rfl, _⟩ := ints_form ho
  clear hb hm ho lm lo
  go_enter Tryz.func40, Tryz.ntmps40
  go_wp2_with (first | (go_at_call 60; refine (copyView_any (HM.out.below KN.toBelow) (HO.out.below KN.toBelow) LM.out LO.out).mono ?_; rintro e wx ⟨ma, mn, mc, oa, on, oc, om, oo, rfl, O1, O2, K2⟩; have HO1 := Lib.hid O1; have HO2 := Lib.hid O2; replace KN := (KN.call0 K2).perm List.perm_append_comm; simp only [List.cons_append, List.nil_append] at KN; clear K2 O1 O2) | ((with_reducible refine wpList_gate ?_); first | ((with_reducible refine gate_load ?_ ?_); rfl; first | (refine wpList_kn_oldN KN (by rfl) 63 _ rfl g 3 rfl #[.int .i64 num, .slice xa mem.length xc, .slice ya own.length yc] RNG.out hgl (by simp) _ Tryz.underlying63 rfl (by kernel_rfl) ?_) | (refine ks_loadW KN 63 Tryz.underlying63 ?_)) | ((with_reducible refine gate_store ?_ ?_); rfl; first | (refine ks_storeW KN 63 ?_; clear KN; intro wx KN) | (refine ks_storeA KN 63 ?_; clear KN; intro wx KN)) | ((with_reducible refine gate_new ?_ ?_); rfl; first | (refine ks_alloc KN 63 (q := 2) #[.int .i64 0, .slice none 0 0, .slice none 0 0] ?_; clear KN; intro g2 wx hg2 KN))))
  refine bodyPost_ret (results_cell_row (p := 2) Tryz.results40 _ _ g2 63 #[.int .i64 num, .slice ma mn mc, .slice oa on oc] (0, 0) _ rfl (KN.at_ (by repeat (first | exact Has.here | refine Has.there ?_))) Tryz.underlying63 rfl (by kernel_rfl)) rfl ?_
  exact ⟨_, _, om, oo, rfl, HO1.out, HO2.out, KN.drop .here⟩
set_option maxRecDepth 100000 in
set_option maxHeartbeats 4000000 in
theorem KView_any {w : World} {gk g : Nat} {core sl num : Int} {rg m o : Value} {mem own : List Int} (hk : w.cell? ⟨gk, 13, none⟩ = some (.pointer (some ⟨g, 0, none⟩))) (hb : BlkT w g (syncN core rg sl num m o) 146) (hm : Row w m 1 (intRows mem)) (ho : Row w o 1 (intRows own)) (lm : mem.length ≤ 1000000) (lo : own.length ≤ 1000000) :
    Calls Tryz.prog 19 #[.pointer (some ⟨gk, 0, none⟩)] w (ViewOut num mem own w) := by
  have KN := Kn.start w
  have HK := Lib.hid hk
  have HV : Hid (∀ wx, Below w.heap.size w wx → Calls Tryz.prog 40 #[.pointer (some ⟨g, 0, none⟩)] wx (ViewOut num mem own wx)) := Lib.hid fun wx hbx => SView_any ((hbx.block g (Array.getElem?_eq_some_iff.1 hb).1).trans hb) (hm.below hbx) (ho.below hbx) lm lo
  clear hk hb hm ho lm lo
  go_enter Tryz.func19, Tryz.ntmps19
  go_wp2_with (first | (go_at_call 40; refine (HV.out _ KN.toBelow).mono ?_; rintro e wx ⟨m1, o1, om, oo, rfl, O1, O2, K2⟩; obtain ⟨ma, mn, mc, rfl⟩ := O1.form3; obtain ⟨oa, on, oc, rfl⟩ := O2.form3; have HO1 := Lib.hid O1; have HO2 := Lib.hid O2; replace KN := (KN.call0 K2).perm List.perm_append_comm; simp only [List.cons_append, List.nil_append] at KN; clear K2 O1 O2) | ((with_reducible refine wpList_gate ?_); first | ((with_reducible refine gate_load ?_ ?_); rfl; first | (refine wpList_kn_old1 KN (by rfl) 93 _ rfl gk 13 rfl _ HK.out (by simp) _ Tryz.underlying93 rfl ?_) | (refine ks_load1 KN 93 Tryz.underlying93 ?_)) | ((with_reducible refine gate_store ?_ ?_); rfl; first | (refine ks_storeW KN 63 ?_; clear KN; intro wx KN) | (refine ks_storeA KN 63 ?_; clear KN; intro wx KN)) | ((with_reducible refine gate_new ?_ ?_); rfl; first | (refine ks_alloc KN 63 (q := 2) #[.int .i64 0, .slice none 0 0, .slice none 0 0] ?_; clear KN; intro g2 wx hg2 KN))))
  refine bodyPost_ret (results_cell_row (p := 2) Tryz.results19 _ _ g2 63 #[.int .i64 num, .slice ma mn mc, .slice oa on oc] (0, 0) _ rfl (KN.at_ (by repeat (first | exact Has.here | refine Has.there ?_))) Tryz.underlying63 rfl (by kernel_rfl)) rfl ?_
  exact ⟨_, _, om, oo, rfl, HO1.out, HO2.out, KN.drop .here⟩
end
end Go.Proofs.YtlhmeeidlhpodaaGreat
