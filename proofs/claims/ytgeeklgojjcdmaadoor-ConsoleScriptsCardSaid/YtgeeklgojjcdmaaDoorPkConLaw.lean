/- ConsoleScripts: true for every text and every script. -/
import Derived.Test.YtgeeklgojjcdmaaDoorPkConSame
import Derived.Test.YtgeeklgojjcdmaaDoorPkConRParse
set_option linter.unusedVariables false
set_option linter.unusedSimpArgs false
set_option linter.unusedSectionVars false
namespace Go.Proofs.YtgeeklgojjcdmaaDoor
open Go.RowKit Go.BigFrame

theorem evI_info : (Tryd.prog.info? 35).map (fun i => (i.size, i.bytes, i.zero.map (·.cells.size))) = some (3, 24, some 3) := by kernel_rfl
set_option maxRecDepth 100000 in
set_option maxHeartbeats 40000000 in
theorem consoleScripts_any (s : ByteArray) (vl : Value) (l : List RawEv) (w : World) (hs : s.size ≤ maxLen) (hl : Row w vl 3 (rawRows l)) (hp : Pow w) : Calls Tryd.prog 3 #[.string s, vl] w fun e w' => e = .returned (.bool true) ∧ Below w.heap.size w w' := by
  have KN := Kn.start w
  have HPW := Lib.hid hp
  have HROW := Lib.hid hl
  have hll := hl.1
  rw [List.length_map] at hll
  obtain ⟨va, vc, rfl, _⟩ := raws_form hl
  obtain ⟨n, hn⟩ : ∃ n, n = l.length := ⟨_, rfl⟩
  have HN := Lib.hid hn
  rw [← hn] at hll HROW ⊢
  have hll2 := hll
  unfold maxLen at hll2
  clear hp hl hn
  by_cases hlen : 2000 < s.size
  · unfold maxLen at hs
    go_enter Tryd.func3, Tryd.ntmps3
    go_wp2_with (go_at_call 5; refine (awake40_any _ HPW.out).mono ?_; rintro e wx ⟨rfl, hb⟩)
    go_ret
    exact ⟨rfl, hb⟩
  by_cases hlen2 : 300 < n
  · unfold maxLen at hs
    go_enter Tryd.func3, Tryd.ntmps3
    go_wp2_with (go_at_call 5; refine (awake40_any _ HPW.out).mono ?_; rintro e wx ⟨rfl, hb⟩)
    go_ret
    exact ⟨rfl, hb⟩
  have HA := Lib.hid (fun w0 => ParseScript_any s w0 hs)
  have HB := Lib.hid (fun w0 => RParseScript_any s w0 hs)
  unfold ScriptOut at HA HB
  obtain ⟨p, hp⟩ : ∃ p, p = (script s.data.toList).1 := ⟨_, rfl⟩
  obtain ⟨x, hx⟩ : ∃ x, x = (script s.data.toList).2.1.1 := ⟨_, rfl⟩
  obtain ⟨y, hy⟩ : ∃ y, y = (script s.data.toList).2.1.2 := ⟨_, rfl⟩
  obtain ⟨de, hde⟩ : ∃ de, de = (script s.data.toList).2.2 := ⟨_, rfl⟩
  rw [← hp, ← hx, ← hy, ← hde] at HA HB
  obtain ⟨u, hu⟩ : ∃ u, u = str (fmtR l) := ⟨_, rfl⟩
  have HU := Lib.hid hu
  clear hp hx hy hde hu
  unfold maxLen at hs
  have e2 : (de == de) = true := beq_self_eq_true _
  have e3 : (u.toList == u.toList) = true := beq_self_eq_true _
  go_enter Tryd.func3, Tryd.ntmps3
  go_upto_region 4 with (first | (go_at_call 6; refine (HA.out _).mono ?_; rintro e wx ⟨va, ol1, rfl, OW, K2⟩; have HP := Lib.hid OW; replace KN := KN.call0 K2; clear OW K2; simp only [List.append_nil] at KN) | ((with_reducible refine wpList_gate ?_); first | ((with_reducible refine gate_load ?_ ?_); rfl; first | (refine ks_loadW KN 25 Tryd.underlying25 ?_)) | ((with_reducible refine gate_store ?_ ?_); rfl; first | (refine ks_storeW KN 25 ?_; clear KN; intro wx KN) | (refine ks_storeA KN 25 ?_; clear KN; intro wx KN)) | ((with_reducible refine gate_new ?_ ?_); rfl; first | (refine ks_alloc KN 25 (q := 6) #[.int .i64 0, .int .i64 0] ?_; clear KN; intro g6 wx hg6 KN) | (refine ks_alloc KN 25 (q := 9) #[.int .i64 0, .int .i64 0] ?_; clear KN; intro g9 wx hg9 KN))))
  go_upto_region 5 with (first | (go_at_call 7; refine (HB.out _).mono ?_; rintro e wy ⟨vb, ol2, rfl, OW, K2⟩; have HQ := Lib.hid OW; replace KN := (KN.call0 K2).perm List.perm_middle; clear OW K2) | ((with_reducible refine wpList_gate ?_); first | ((with_reducible refine gate_load ?_ ?_); rfl; first | (refine ks_loadW KN 25 Tryd.underlying25 ?_)) | ((with_reducible refine gate_store ?_ ?_); rfl; first | (refine ks_storeW KN 25 ?_; clear KN; intro wx KN) | (refine ks_storeA KN 25 ?_; clear KN; intro wx KN)) | ((with_reducible refine gate_new ?_ ?_); rfl; first | (refine ks_alloc KN 25 (q := 6) #[.int .i64 0, .int .i64 0] ?_; clear KN; intro g6 wx hg6 KN) | (refine ks_alloc KN 25 (q := 9) #[.int .i64 0, .int .i64 0] ?_; clear KN; intro g9 wx hg9 KN))))
  have HI1 := Lib.hid (HP.out.row (f := fun o => _ :: _ :: (ol2 ++ o)) KN (TailF.cons _ (TailF.cons _ (TailF.app TailF.id ol2))))
  have HI2 := Lib.hid (HQ.out.row (f := fun o => _ :: _ :: (ol1 ++ o)) (KN.perm ((List.perm_append_comm.cons _).cons _)) (TailF.cons _ (TailF.cons _ (TailF.app TailF.id ol1))))
  go_wp2_with (first | (go_at_call 8; refine (same40_eq _ _ (p.map Ev.raw) _ (by rw [← raw_of_ev]; exact HI1.out) (by rw [← raw_of_ev]; exact HI2.out)).mono ?_; rintro e wz ⟨rfl, hb⟩; replace KN := KN.below hb; clear hb) | (go_at_call 9; refine (FormatScript_any _ l _ HRQ.out (by have := HN.out; omega) (HPW.out.below KN.toBelow)).mono ?_; rintro e wz ⟨rfl, hb⟩; rw [← HU.out]; replace KN := KN.below hb; clear hb) | (go_at_call 10; refine (RFormatScript_any _ l _ (HROW.out.below KN.toBelow) (by have := HN.out; omega)).mono ?_; rintro e wz ⟨rfl, hb⟩; rw [← HU.out]; replace KN := KN.below hb; clear hb) | (go_at_call 5; refine (awake40_any _ (HPW.out.below KN.toBelow)).mono ?_; rintro e wz ⟨rfl, hb⟩; replace KN := KN.below hb; clear hb) | ((with_reducible refine wpList_gate ?_); first | (refine wpList_kn_copy KN (by rfl) _ _ 22 rfl 35 3 24 Tryd.underlying22 evI_info (by decide) rfl _ rfl _ (HROW.out.below KN.toBelow) (raw_len l) (raw_one l) (by have := HN.out; rw [List.length_map]; omega) ?_; clear KN; intro vq wx KN hrow; have HRQ := Lib.hid hrow; clear hrow) | ((with_reducible refine gate_load ?_ ?_); rfl; first | (refine ks_loadW KN 25 Tryd.underlying25 ?_)) | ((with_reducible refine gate_store ?_ ?_); rfl; first | (refine ks_storeW KN 25 ?_; clear KN; intro wx KN) | (refine ks_storeA KN 25 ?_; clear KN; intro wx KN)) | ((with_reducible refine gate_new ?_ ?_); rfl; first | (refine ks_alloc KN 25 (q := 6) #[.int .i64 0, .int .i64 0] ?_; clear KN; intro g6 wx hg6 KN) | (refine ks_alloc KN 25 (q := 9) #[.int .i64 0, .int .i64 0] ?_; clear KN; intro g9 wx hg9 KN)) | ((with_reducible refine gate_cmp ?_ ?_); rfl; first | (refine wpList_kn_eql (by rfl) 25 _ _ _ rfl #[.int .i64 x, .int .i64 y] (by kernel_rfl) (by kernel_rfl) (by kernel_rfl) (by kernel_rfl) ?_))))
  go_ret
  exact ⟨rfl, KN.toBelow⟩
end Go.Proofs.YtgeeklgojjcdmaaDoor
