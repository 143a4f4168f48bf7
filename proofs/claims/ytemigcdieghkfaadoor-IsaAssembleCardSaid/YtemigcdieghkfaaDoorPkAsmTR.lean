/- Merged: AsmTok, AsmReg. -/
import Derived.Test.YtemigcdieghkfaaDoorPkAsmP
import Derived.Test.YtemigcdieghkfaaDoorPkKnAll
import Derived.Test.YtemigcdieghkfaaDoorPkFormatW
import Derived.BigQuiet
import Derived.StillTailTactics
set_option linter.unusedVariables false
set_option linter.unusedSimpArgs false
set_option linter.unusedSectionVars false
namespace Go.Proofs.YtemigcdieghkfaaDoor
section
open Go.RowKit

/-- The assembler's cells. -/
abbrev asmC (tv : Value) (i : Nat) (el ec : Int) (tb pv mv ov : Value) : Array Value := #[tv, .int .i64 (i : Int), .int .i64 el, .int .i64 ec, tb, pv, mv, ov]
def posE (el ec : Int) (d : List Tok) (i : Nat) : Int × Int := match d[i]? with
  | some t => (t.line, t.col)
  | none => (el, ec)
abbrev tokC (el ec : Int) (d : List Tok) (i : Nat) : Array Value := #[.int .i64 (tk d i).kind, .string (str (tk d i).text), .int .u64 (tk d i).value, .int .i64 (posE el ec d i).1, .int .i64 (posE el ec d i).2]
set_option maxRecDepth 100000 in
set_option maxHeartbeats 4000000 in
theorem asm_token {W w : World} {l : Ents} {g : Nat} {tv tb pv mv ov : Value} {i : Nat} {el ec : Int} {d : List Tok} (KN : Kn [] W w ((g, At (asmC tv i el ec tb pv mv ov) 64) :: l)) (hT : TokRd W tv d) (hd : d.length ≤ 65536) (hi : i ≤ 70000) (k : Nat) (hk : k ≤ 2) :
    Calls Tryd.prog 61 #[.pointer (some ⟨g, 0, none⟩), .int .i64 k] w fun e w' => e = .returned (.agg (tokC el ec d (i + k))) ∧ Kn [] W w' ((g, At (asmC tv i el ec tb pv mv ov) 64) :: l) := by
  obtain ⟨a, c, rfl, hc⟩ := hT
  obtain ⟨n, hn⟩ : ∃ n, n = d.length := ⟨_, rfl⟩
  have HN := Lib.hid hn
  have HC := Lib.hid hc
  rw [← hn] at hd KN ⊢
  obtain ⟨j, hj⟩ : ∃ j, j = i + k := ⟨_, rfl⟩
  rw [← hj]
  have hw : IntKind.i64.wrap ((i : Int) + (k : Int)) = (j : Int) := by rw [IntKind.wrap_i64]; omega
  have hj2 : j ≤ 70002 := by omega
  have hsz := KN.size
  clear hn hc
  clear hj
  by_cases hlt : j < n
  · obtain ⟨t, ht⟩ : ∃ t, d[j]? = some t := ⟨_, List.getElem?_eq_getElem (by rw [← HN.out]; exact hlt)⟩
    obtain ⟨b, off, rfl, hb, x0, x1, x2, x3, x4⟩ := HC.out j t ht
    have hres : tokC el ec d j = t.cells := by
      have e1 : tk d j = t.raw := by unfold tk; rw [ht]
      have e2 : posE el ec d j = (t.line, t.col) := by unfold posE; rw [ht]
      unfold tokC
      rw [e1, e2]; rfl
    rw [hres]
    clear hres ht
    go_enter Tryd.func61, Tryd.ntmps61
    go_wp2_with (first | ((with_reducible refine wpList_gate ?_); first | ((refine gate_load (by rfl) ?_); first | (refine ks_load1 KN 3 Tryd.underlying3 ?_) | (refine ks_load1 KN 46 Tryd.underlying46 ?_) | (refine ks_loadW KN 45 Tryd.underlying45 ?_) | (refine ks_loadW KN 25 Tryd.underlying25 ?_)) | ((refine gate_store (by rfl) ?_); first | (refine ks_storeW KN 45 ?_; clear KN; intro wx KN) | (refine ks_storeA KN 45 ?_; clear KN; intro wx KN)) | ((refine gate_new (by rfl) ?_); first | (refine ks_alloc KN 45 (q := 4) #[.int .i64 0, .string ByteArray.empty, .int .u64 0, .int .i64 0, .int .i64 0] ?_; clear KN; intro g4 wx hg4 KN))))
    have c0 := KN.cell (g := g) (o := 0) (by repeat (first | exact Has.here | refine Has.there ?_)) rfl
    have c1 := KN.cell (g := g) (o := 1) (by repeat (first | exact Has.here | refine Has.there ?_)) rfl
    have hd1 : decide ((j : Int) < (n : Int)) = true := by rw [decide_eq_true_eq]; omega
    go_quiet (fail)
    rename_i nq
    replace KN := KN.drewN nq
    clear c0 c1
    generalize wx.drewN nq = wy at KN ⊢
    go_wp2_with fail
    have c0 := KN.cell (g := g) (o := 0) (by repeat (first | exact Has.here | refine Has.there ?_)) rfl
    have c1 := KN.cell (g := g) (o := 1) (by repeat (first | exact Has.here | refine Has.there ?_)) rfl
    rw [← KN.old hb (by simp)] at x0 x1 x2 x3 x4
    go_still_tail 12, (by kernel_rfl)
    replace KN := KN.drew
    clear c0 c1 x0 x1 x2 x3 x4
    go_wp2_with (refine wpList_kn_storeW KN (by rfl) 45 _ _ rfl _ rfl t.cells rfl _ _ (by repeat (first | exact Repl.here | apply Repl.there)) (by kernel_rfl) (by kernel_rfl) (by kernel_rfl) ?_; clear KN; intro wx KN)
    refine bodyPost_ret (v := .agg t.cells) (results_cell_row (p := 4) Tryd.results61 _ _ g4 45 t.cells (0, 0) _ rfl (KN.at_ (by repeat (first | exact Has.here | refine Has.there ?_))) Tryd.underlying45 rfl (by kernel_rfl)) rfl ?_
    exact ⟨rfl, KN.drop .here⟩
  · have hres : tokC el ec d j = #[.int .i64 0, .string ⟨#[]⟩, .int .u64 0, .int .i64 el, .int .i64 ec] := by
      have hno : d[j]? = none := List.getElem?_eq_none (by rw [← HN.out]; omega)
      have e1 : tk d j = ⟨0, [], 0⟩ := by unfold tk; rw [hno]
      have e2 : posE el ec d j = (el, ec) := by unfold posE; rw [hno]
      unfold tokC
      rw [e1, e2]; rfl
    rw [hres]
    clear hres
    go_enter Tryd.func61, Tryd.ntmps61
    go_wp2_with (first | ((with_reducible refine wpList_gate ?_); first | ((refine gate_load (by rfl) ?_); first | (refine ks_load1 KN 3 Tryd.underlying3 ?_) | (refine ks_load1 KN 46 Tryd.underlying46 ?_) | (refine ks_loadW KN 45 Tryd.underlying45 ?_) | (refine ks_loadW KN 25 Tryd.underlying25 ?_)) | ((refine gate_store (by rfl) ?_); first | (refine ks_storeW KN 45 ?_; clear KN; intro wx KN) | (refine ks_storeA KN 45 ?_; clear KN; intro wx KN)) | ((refine gate_new (by rfl) ?_); first | (refine ks_alloc KN 45 (q := 4) #[.int .i64 0, .string ByteArray.empty, .int .u64 0, .int .i64 0, .int .i64 0] ?_; clear KN; intro g4 wx hg4 KN))))
    have c0 := KN.cell (g := g) (o := 0) (by repeat (first | exact Has.here | refine Has.there ?_)) rfl
    have c1 := KN.cell (g := g) (o := 1) (by repeat (first | exact Has.here | refine Has.there ?_)) rfl
    have hd1 : decide ((j : Int) < (n : Int)) = false := by rw [decide_eq_false_iff_not]; omega
    go_quiet (fail)
    rename_i nq
    replace KN := KN.drewN nq
    clear c0 c1
    generalize wx.drewN nq = wy at KN ⊢
    go_wp2_with (first | ((with_reducible refine wpList_gate ?_); first | ((refine gate_load (by rfl) ?_); first | (refine wpList_kn_loadN KN (by rfl) 25 _ rfl g 2 rfl _ _ (by repeat (first | exact Has.here | refine Has.there ?_)) #[.int .i64 el, .int .i64 ec] (by rfl) _ Tryd.underlying25 rfl (by kernel_rfl) ?_) | (refine ks_load1 KN 3 Tryd.underlying3 ?_) | (refine ks_load1 KN 46 Tryd.underlying46 ?_) | (refine ks_loadW KN 45 Tryd.underlying45 ?_) | (refine ks_loadW KN 25 Tryd.underlying25 ?_)) | ((refine gate_store (by rfl) ?_); first | (refine ks_storeW KN 45 ?_; clear KN; intro wx KN) | (refine ks_storeA KN 45 ?_; clear KN; intro wx KN)) | ((refine gate_new (by rfl) ?_); first | (refine ks_alloc KN 45 (q := 4) #[.int .i64 0, .string ByteArray.empty, .int .u64 0, .int .i64 0, .int .i64 0] ?_; clear KN; intro g4 wx hg4 KN))))
    refine bodyPost_ret (v := .agg #[.int .i64 0, .string ⟨#[]⟩, .int .u64 0, .int .i64 el, .int .i64 ec]) (results_cell_row (p := 4) Tryd.results61 _ _ g4 45 #[.int .i64 0, .string ⟨#[]⟩, .int .u64 0, .int .i64 el, .int .i64 ec] (0, 0) _ rfl (KN.at_ (by repeat (first | exact Has.here | refine Has.there ?_))) Tryd.underlying45 rfl (by kernel_rfl)) rfl ?_
    exact ⟨rfl, KN.drop .here⟩

theorem field_pos (a b c d e : Value) (w : World) : Sem.run Tryd.prog (Instr.field 45 (.agg #[a, b, c, d, e]) 3) w = .ok (.agg #[d, e]) w := by kernel_rfl
set_option maxRecDepth 100000 in
set_option maxHeartbeats 4000000 in
theorem asm_fail {W w : World} {l : Ents} {g : Nat} {tv tb pv mv ov : Value} {i : Nat} {el ec : Int} {d : List Tok} (KN : Kn [] W w ((g, At (asmC tv i el ec tb pv mv ov) 64) :: l)) (hT : TokRd W tv d) (hd : d.length ≤ 65536) (hi : i ≤ 70000) (x : Int) :
    Calls Tryd.prog 65 #[.pointer (some ⟨g, 0, none⟩), .int .i64 x] w fun e w' => e = .panicked [{ v := .iface 55 (.agg #[.int .i64 (posE el ec d i).1, .int .i64 (posE el ec d i).2, .int .i64 x]), recovered := false }] ∧ Kn [] W w' ((g, At (asmC tv i el ec tb pv mv ov) 64) :: l) := by
  have HT := Lib.hid hT
  have hfld := field_pos
  clear hT
  go_enter Tryd.func65, Tryd.ntmps65
  go_wp2_with (go_at_call 61; refine (asm_token KN HT.out hd hi 0 (by omega)).mono ?_; rintro e wx ⟨rfl, K2⟩; replace KN := K2; clear K2; unfold tokC)
  exact ⟨rfl, rfl, KN⟩
/-- The panic with which the assembler leaves. -/
abbrev failE (p : Int × Int) (x : Int) : Ending := .panicked [{ v := .iface 55 (.agg #[.int .i64 p.1, .int .i64 p.2, .int .i64 x]), recovered := false }]
set_option maxRecDepth 100000 in
set_option maxHeartbeats 4000000 in
theorem asm_is {W w : World} {l : Ents} {g : Nat} {tv tb pv mv ov : Value} {i : Nat} {el ec : Int} {d : List Tok} (KN : Kn [] W w ((g, At (asmC tv i el ec tb pv mv ov) 64) :: l)) (hT : TokRd W tv d) (hd : d.length ≤ 65536) (hi : i ≤ 70000) (k : Nat) (hk : k ≤ 2) (m : List UInt8) :
    Calls Tryd.prog 62 #[.pointer (some ⟨g, 0, none⟩), .int .i64 k, .string (str m)] w fun e w' => e = .returned (.bool (isP d (i + k) m)) ∧ Kn [] W w' ((g, At (asmC tv i el ec tb pv mv ov) 64) :: l) := by
  have HT := Lib.hid hT
  clear hT
  obtain ⟨s, hs⟩ : ∃ s, s = str m := ⟨_, rfl⟩
  obtain ⟨u, hu⟩ : ∃ u, u = str (tk d (i + k)).text := ⟨_, rfl⟩
  have he : (u.toList == s.toList) = decide ((tk d (i + k)).text = m) := by rw [hu, hs, Lib.toList_data, Lib.toList_data, data_str, data_str, Bool.eq_iff_iff]; simp
  obtain ⟨b, hb⟩ : ∃ b, b = decide ((tk d (i + k)).text = m) := ⟨_, rfl⟩
  rw [← hb] at he
  have HE := Lib.hid he
  have HU := Lib.hid hu
  rw [← hs]
  by_cases h4 : (tk d (i + k)).kind = 4
  · have hr : isP d (i + k) m = b := by unfold isP; rw [h4, hb]; simp
    rw [hr]
    have h4' : ((tk d (i + k)).kind == 4) = true := by rw [h4]; rfl
    clear hs hu he hb h4 hr
    go_enter Tryd.func62, Tryd.ntmps62
    go_wp2_with (first | (go_at_call 61; refine (asm_token KN HT.out hd hi k hk).mono ?_; rintro e wx ⟨rfl, K2⟩; replace KN := K2; clear K2; unfold tokC; rw [← HU.out]) | ((with_reducible refine wpList_gate ?_); first | ((refine gate_load (by rfl) ?_); first | (refine ks_load1 KN 3 Tryd.underlying3 ?_) | (refine ks_load1 KN 9 Tryd.underlying9 ?_)) | ((refine gate_store (by rfl) ?_); first | (refine ks_storeW KN 45 ?_; clear KN; intro wx KN) | (refine ks_storeA KN 45 ?_; clear KN; intro wx KN)) | ((refine gate_new (by rfl) ?_); first | (refine ks_alloc KN 45 (q := 7) #[.int .i64 0, .string ByteArray.empty, .int .u64 0, .int .i64 0, .int .i64 0] ?_; clear KN; intro g7 wx hg7 KN))))
    go_ret
    exact ⟨ret_bool HE.out, KN.drop .here⟩
  · have hr : isP d (i + k) m = false := by unfold isP; rw [decide_eq_false h4]; rfl
    rw [hr]
    have h4' : ((tk d (i + k)).kind == 4) = false := by rw [beq_eq_false_iff_ne]; exact h4
    clear hs hu he hb h4 hr
    go_enter Tryd.func62, Tryd.ntmps62
    go_wp2_with (first | (go_at_call 61; refine (asm_token KN HT.out hd hi k hk).mono ?_; rintro e wx ⟨rfl, K2⟩; replace KN := K2; clear K2; unfold tokC; rw [← HU.out]) | ((with_reducible refine wpList_gate ?_); first | ((refine gate_load (by rfl) ?_); first | (refine ks_load1 KN 3 Tryd.underlying3 ?_) | (refine ks_load1 KN 9 Tryd.underlying9 ?_)) | ((refine gate_store (by rfl) ?_); first | (refine ks_storeW KN 45 ?_; clear KN; intro wx KN) | (refine ks_storeA KN 45 ?_; clear KN; intro wx KN)) | ((refine gate_new (by rfl) ?_); first | (refine ks_alloc KN 45 (q := 7) #[.int .i64 0, .string ByteArray.empty, .int .u64 0, .int .i64 0, .int .i64 0] ?_; clear KN; intro g7 wx hg7 KN))))
    go_ret
    exact ⟨rfl, KN.drop .here⟩
set_option maxRecDepth 100000 in
set_option maxHeartbeats 4000000 in
theorem asm_expect {W w : World} {l : Ents} {g : Nat} {tv tb pv mv ov : Value} {i : Nat} {el ec : Int} {d : List Tok} (KN : Kn [] W w ((g, At (asmC tv i el ec tb pv mv ov) 64) :: l)) (hT : TokRd W tv d) (hd : d.length ≤ 65536) (hi : i ≤ 70000) (m : List UInt8) (h : isP d i m = true) :
    Calls Tryd.prog 66 #[.pointer (some ⟨g, 0, none⟩), .string (str m)] w fun e w' => e = .returned (.tuple #[]) ∧ Kn [] W w' ((g, At (asmC tv (i + 1) el ec tb pv mv ov) 64) :: l) := by
  have HT := Lib.hid hT
  have H := Lib.hid h
  have hw : IntKind.i64.wrap ((i : Int) + 1) = ((i + 1 : Nat) : Int) := by rw [IntKind.wrap_i64]; omega
  have HW := Lib.hid hw
  clear hT h hw
  go_enter Tryd.func66, Tryd.ntmps66
  go_wp2_with (first | (go_at_call 62; refine (asm_is KN HT.out hd hi 0 (by omega) m).mono ?_; rintro e wx ⟨rfl, K2⟩; replace KN := K2; clear K2; rw [show i + 0 = i from rfl, H.out]) | ((with_reducible refine wpList_gate ?_); first | ((refine gate_load (by rfl) ?_); first | (refine ks_load1 KN 3 Tryd.underlying3 ?_)) | ((refine gate_store (by rfl) ?_); first | (refine ks_store1 KN 3 ?_; clear KN; intro wx KN))))
  first | go_end0 | refine bodyPost_ret (results_none rfl _ _ _) rfl ?_
  exact ⟨rfl, KN⟩
set_option maxRecDepth 100000 in
set_option maxHeartbeats 4000000 in
theorem asm_expect_bad {W w : World} {l : Ents} {g : Nat} {tv tb pv mv ov : Value} {i : Nat} {el ec : Int} {d : List Tok} (KN : Kn [] W w ((g, At (asmC tv i el ec tb pv mv ov) 64) :: l)) (hT : TokRd W tv d) (hd : d.length ≤ 65536) (hi : i ≤ 70000) (m : List UInt8) (h : isP d i m = false) :
    Calls Tryd.prog 66 #[.pointer (some ⟨g, 0, none⟩), .string (str m)] w fun e w' => e = failE (posE el ec d i) 50 ∧ Below W.heap.size W w' := by
  have HT := Lib.hid hT
  have H := Lib.hid h
  clear hT h
  go_enter Tryd.func66, Tryd.ntmps66
  go_wp2_with (first | (go_at_call 62; refine (asm_is KN HT.out hd hi 0 (by omega) m).mono ?_; rintro e wx ⟨rfl, K2⟩; replace KN := K2; clear K2; rw [show i + 0 = i from rfl, H.out]) | (go_at_call 65; refine (asm_fail KN HT.out hd hi 50).mono ?_; rintro e wx ⟨rfl, K2⟩; replace KN := K2; clear K2) | ((with_reducible refine wpList_gate ?_); first | ((refine gate_load (by rfl) ?_); first | (refine ks_load1 KN 3 Tryd.underlying3 ?_)) | ((refine gate_store (by rfl) ?_); first | (refine ks_store1 KN 3 ?_; clear KN; intro wx KN))))
  exact ⟨rfl, rfl, KN.toBelow⟩
end
section
open Go.RowKit

section
variable {W w : World} {l : Ents} {g : Nat} {tv tb pv mv ov : Value} {i : Nat} {el ec : Int} {d : List Tok}
theorem asm_token_has (KN : Kn [] W w l) (m : Has l g (At (asmC tv i el ec tb pv mv ov) 64)) (hT : TokRd W tv d) (hd : d.length ≤ 65536) (hi : i ≤ 70000) (k : Nat) (hk : k ≤ 2) :
    Calls Tryd.prog 61 #[.pointer (some ⟨g, 0, none⟩), .int .i64 k] w fun e w' => e = .returned (.agg (tokC el ec d (i + k))) ∧ Kn [] W w' l := by
  obtain ⟨l', hp⟩ := m.front
  exact (asm_token (KN.perm hp) hT hd hi k hk).mono fun e w' h => ⟨h.1, h.2.perm hp.symm⟩
theorem asm_is_has (KN : Kn [] W w l) (m : Has l g (At (asmC tv i el ec tb pv mv ov) 64)) (hT : TokRd W tv d) (hd : d.length ≤ 65536) (hi : i ≤ 70000) (k : Nat) (hk : k ≤ 2) (s : List UInt8) :
    Calls Tryd.prog 62 #[.pointer (some ⟨g, 0, none⟩), .int .i64 k, .string (str s)] w fun e w' => e = .returned (.bool (isP d (i + k) s)) ∧ Kn [] W w' l := by
  obtain ⟨l', hp⟩ := m.front
  exact (asm_is (KN.perm hp) hT hd hi k hk s).mono fun e w' h => ⟨h.1, h.2.perm hp.symm⟩
theorem asm_fail_has (KN : Kn [] W w l) (m : Has l g (At (asmC tv i el ec tb pv mv ov) 64)) (hT : TokRd W tv d) (hd : d.length ≤ 65536) (hi : i ≤ 70000) (x : Int) :
    Calls Tryd.prog 65 #[.pointer (some ⟨g, 0, none⟩), .int .i64 x] w fun e w' => e = failE (posE el ec d i) x ∧ Below W.heap.size W w' := by
  obtain ⟨l', hp⟩ := m.front
  exact (asm_fail (KN.perm hp) hT hd hi x).mono fun e w' h => ⟨h.1, h.2.toBelow⟩
end
theorem regFrom_step (s : List UInt8) (n : Nat) (h : n < 16) : regFrom s (16 - n) n = if s = regName n then (n : Int) else regFrom s (16 - (n + 1)) (n + 1) := by
  rw [show 16 - n = (16 - (n + 1)) + 1 from by omega]; rfl
theorem regOf_bd (s : List UInt8) : -1 ≤ regOf s ∧ regOf s ≤ 15 := by
  have key : ∀ (f n : Nat), n + f = 16 → -1 ≤ regFrom s f n ∧ regFrom s f n ≤ 15 := by
    intro f
    induction f with
    | zero => intro n _; exact ⟨by show (-1 : Int) ≤ -1; decide, by show (-1 : Int) ≤ 15; decide⟩
    | succ f ih =>
      intro n h
      rw [regFrom]
      split
      · exact ⟨by omega, by omega⟩
      · exact ih (n + 1) (by omega)
  exact key 16 0 rfl
set_option maxRecDepth 100000 in
set_option maxHeartbeats 4000000 in
theorem reg_any (m : List UInt8) (w : World) :
    Calls Tryd.prog 64 #[.string (str m)] w fun e w' => e = .returned (.int .i64 (regOf m)) ∧ w = w' := by
  obtain ⟨s, hsm⟩ : ∃ s, s = str m := ⟨_, rfl⟩
  have hm : m = s.data.toList := by rw [hsm, data_str]
  have HM := Lib.hid hm
  rw [← hsm]
  clear hm hsm
  go_enter Tryd.func64, Tryd.ntmps64
  go_wp2_with fail
  go_loop [4] (fun i => ∃ n : Nat, n ≤ 16 ∧ i = .int .i64 n ∧ regOf m = regFrom m (16 - n) n) (fun i => 16 - (intOf i).toNat)
  case atStart => exact ⟨0, by omega, rfl, rfl⟩
  case round =>
    obtain ⟨n, hn, rfl, hr⟩ := hrel
    by_cases hlt : n < 16
    · rw [regFrom_step m n hlt] at hr
      obtain ⟨u, hu⟩ : ∃ u : ByteArray, u = ⟨(Lib.decDigits n).toArray⟩ := ⟨_, rfl⟩
      have hul : u.size ≤ 100 := by
        rw [hu]
        show (Lib.decDigits n).toArray.size ≤ 100
        rw [List.size_toArray, Lib.decDigits_length]
        have := Lib.nDigits_unique
        by_cases h10 : n < 10
        · rw [Lib.nDigits_small h10]; omega
        · rw [Lib.nDigits_big h10, Lib.nDigits_small (by omega)]; omega
      have he : (s.toList == ((⟨#[114]⟩ : ByteArray) ++ u).toList) = decide (m = regName n) := by
        rw [regName_num n hlt, HM.out, hu, decDigits_numL, Lib.toList_data, Lib.toList_data, Bool.eq_iff_iff]
        simp
      have HU := Lib.hid hu
      by_cases hc : m = regName n
      · rw [if_pos hc] at hr
        rw [decide_eq_true hc] at he
        have HR := Lib.hid hr
        clear hr hu hc
        go_wp2_with (go_at_call 43; refine (Tryd.strconv_Itoa_small n (by omega) _).mono ?_; rintro e w' ⟨rfl, rfl⟩; rw [← HU.out])
        go_ret
        exact ⟨ret_int HR.out.symm, rfl⟩
      · rw [if_neg hc] at hr
        rw [decide_eq_false hc] at he
        have HR := Lib.hid hr
        clear hr hu hc
        go_wp2_with (go_at_call 43; refine (Tryd.strconv_Itoa_small n (by omega) _).mono ?_; rintro e w' ⟨rfl, rfl⟩; rw [← HU.out])
        go_round
        case rel => exact ⟨n + 1, by omega, by go_num, HR.out⟩
        case measure => simp [intOf]; omega
    · have : n = 16 := by omega
      subst this
      have HR := Lib.hid hr
      clear hr
      go_wp2
      go_ret
      exact ⟨ret_int HR.out.symm, rfl⟩
set_option maxRecDepth 100000 in
set_option maxHeartbeats 4000000 in
theorem asm_word {W w : World} {l : Ents} {g : Nat} {tv tb pv mv ov : Value} {i : Nat} {el ec : Int} {d : List Tok} (KN : Kn [] W w ((g, At (asmC tv i el ec tb pv mv ov) 64) :: l)) (hT : TokRd W tv d) (hd : d.length ≤ 65536) (hi : i ≤ 70000) (h : (tk d i).kind = 1) :
    Calls Tryd.prog 63 #[.pointer (some ⟨g, 0, none⟩)] w fun e w' => e = .returned (.string (str (tk d i).text)) ∧ Kn [] W w' ((g, At (asmC tv i el ec tb pv mv ov) 64) :: l) := by
  have HT := Lib.hid hT
  have h' : ((tk d i).kind != 1) = false := by rw [h]; rfl
  clear hT h
  go_enter Tryd.func63, Tryd.ntmps63
  go_wp2_with (first | (go_at_call 61; refine (asm_token KN HT.out hd hi 0 (by omega)).mono ?_; rintro e wx ⟨rfl, K2⟩; replace KN := K2; clear K2; rw [show i + 0 = i from rfl]; unfold tokC) | ((with_reducible refine wpList_gate ?_); first | ((refine gate_load (by rfl) ?_); first | (refine ks_load1 KN 3 Tryd.underlying3 ?_) | (refine ks_load1 KN 9 Tryd.underlying9 ?_)) | ((refine gate_store (by rfl) ?_); first | (refine ks_storeW KN 45 ?_; clear KN; intro wx KN) | (refine ks_storeA KN 45 ?_; clear KN; intro wx KN)) | ((refine gate_new (by rfl) ?_); first | (refine ks_alloc KN 45 (q := 3) #[.int .i64 0, .string ByteArray.empty, .int .u64 0, .int .i64 0, .int .i64 0] ?_; clear KN; intro g3 wx hg3 KN))))
  go_ret
  exact ⟨rfl, KN.drop .here⟩
set_option maxRecDepth 100000 in
set_option maxHeartbeats 4000000 in
theorem asm_word_bad {W w : World} {l : Ents} {g : Nat} {tv tb pv mv ov : Value} {i : Nat} {el ec : Int} {d : List Tok} (KN : Kn [] W w ((g, At (asmC tv i el ec tb pv mv ov) 64) :: l)) (hT : TokRd W tv d) (hd : d.length ≤ 65536) (hi : i ≤ 70000) (h : ¬ (tk d i).kind = 1) :
    Calls Tryd.prog 63 #[.pointer (some ⟨g, 0, none⟩)] w fun e w' => e = failE (posE el ec d i) 50 ∧ Below W.heap.size W w' := by
  have HT := Lib.hid hT
  have h' : ((tk d i).kind != 1) = true := by rw [bne_iff_ne]; exact h
  clear hT h
  go_enter Tryd.func63, Tryd.ntmps63
  go_wp2_with (first | (go_at_call 61; refine (asm_token KN HT.out hd hi 0 (by omega)).mono ?_; rintro e wx ⟨rfl, K2⟩; replace KN := K2; clear K2; rw [show i + 0 = i from rfl]; unfold tokC) | ((with_reducible refine wpList_gate ?_); first | ((refine gate_load (by rfl) ?_); first | (refine ks_load1 KN 3 Tryd.underlying3 ?_) | (refine ks_load1 KN 9 Tryd.underlying9 ?_)) | ((refine gate_store (by rfl) ?_); first | (refine ks_storeW KN 45 ?_; clear KN; intro wx KN) | (refine ks_storeA KN 45 ?_; clear KN; intro wx KN)) | ((refine gate_new (by rfl) ?_); first | (refine ks_alloc KN 45 (q := 3) #[.int .i64 0, .string ByteArray.empty, .int .u64 0, .int .i64 0, .int .i64 0] ?_; clear KN; intro g3 wx hg3 KN))))
  replace KN := KN.drop .here
  refine (asm_fail KN HT.out hd hi 50).mono ?_
  rintro e wx ⟨rfl, K2⟩
  exact ⟨rfl, rfl, K2.toBelow⟩
theorem asm_word_has {W w : World} {l : Ents} {g : Nat} {tv tb pv mv ov : Value} {i : Nat} {el ec : Int} {d : List Tok} (KN : Kn [] W w l) (m : Has l g (At (asmC tv i el ec tb pv mv ov) 64)) (hT : TokRd W tv d) (hd : d.length ≤ 65536) (hi : i ≤ 70000) (h : (tk d i).kind = 1) :
    Calls Tryd.prog 63 #[.pointer (some ⟨g, 0, none⟩)] w fun e w' => e = .returned (.string (str (tk d i).text)) ∧ Kn [] W w' l := by
  obtain ⟨l', hp⟩ := m.front
  exact (asm_word (KN.perm hp) hT hd hi h).mono fun e w' h => ⟨h.1, h.2.perm hp.symm⟩
set_option maxRecDepth 100000 in
set_option maxHeartbeats 4000000 in
theorem asm_reg {W w : World} {l : Ents} {g : Nat} {tv tb pv mv ov : Value} {i : Nat} {el ec : Int} {d : List Tok} (KN : Kn [] W w ((g, At (asmC tv i el ec tb pv mv ov) 64) :: l)) (hT : TokRd W tv d) (hd : d.length ≤ 65536) (hi : i ≤ 70000) {r : Int} (h : aReg d i = .ok r) :
    Calls Tryd.prog 67 #[.pointer (some ⟨g, 0, none⟩)] w fun e w' => e = .returned (.int .i64 r) ∧ Kn [] W w' ((g, At (asmC tv (i + 1) el ec tb pv mv ov) 64) :: l) := by
  have HT := Lib.hid hT
  unfold aReg at h
  split at h
  · rename_i h1
    obtain ⟨hk, hr⟩ := h1
    cases h
    obtain ⟨r, hre⟩ : ∃ r, r = regOf (tk d i).text := ⟨_, rfl⟩
    have hrb := regOf_bd (tk d i).text
    rw [← hre] at hr hrb ⊢
    have HK := Lib.hid hk
    have HR := Lib.hid hre
    have hw : IntKind.i64.wrap ((i : Int) + 1) = ((i + 1 : Nat) : Int) := by rw [IntKind.wrap_i64]; omega
    have HW := Lib.hid hw
    clear hT hk hre hw
    go_enter Tryd.func67, Tryd.ntmps67
    go_wp2_with (first | (go_at_call 63; refine (asm_word KN HT.out hd hi HK.out).mono ?_; rintro e wx ⟨rfl, K2⟩; replace KN := K2; clear K2) | (go_at_call 64; refine (reg_any _ _).mono ?_; rintro e w' ⟨rfl, rfl⟩; rw [← HR.out]) | ((with_reducible refine wpList_gate ?_); first | ((refine gate_load (by rfl) ?_); first | (refine ks_load1 KN 3 Tryd.underlying3 ?_)) | ((refine gate_store (by rfl) ?_); first | (refine ks_store1 KN 3 ?_; clear KN; intro wx KN))))
    go_ret
    exact ⟨rfl, KN⟩
  · cases h
set_option maxRecDepth 100000 in
set_option maxHeartbeats 4000000 in
theorem asm_reg_bad {W w : World} {l : Ents} {g : Nat} {tv tb pv mv ov : Value} {i : Nat} {el ec : Int} {d : List Tok} (KN : Kn [] W w ((g, At (asmC tv i el ec tb pv mv ov) 64) :: l)) (hT : TokRd W tv d) (hd : d.length ≤ 65536) (hi : i ≤ 70000) {x : AErr} (h : aReg d i = .error x) :
    Calls Tryd.prog 67 #[.pointer (some ⟨g, 0, none⟩)] w fun e w' => e = failE (posE el ec d x.1) x.2 ∧ Below W.heap.size W w' := by
  have HT := Lib.hid hT
  unfold aReg at h
  split at h
  · cases h
  · rename_i h1
    cases h
    clear hT
    by_cases hk : (tk d i).kind = 1
    · obtain ⟨r, hre⟩ : ∃ r, r = regOf (tk d i).text := ⟨_, rfl⟩
      have hr : r < 0 := by
        rw [hre]
        rcases Int.lt_or_le (regOf (tk d i).text) 0 with h | h
        · exact h
        · exact absurd ⟨hk, h⟩ h1
      have HK := Lib.hid hk
      have HR := Lib.hid hre
      clear h1 hk hre
      go_enter Tryd.func67, Tryd.ntmps67
      go_wp2_with (first | (go_at_call 63; refine (asm_word KN HT.out hd hi HK.out).mono ?_; rintro e wx ⟨rfl, K2⟩; replace KN := K2; clear K2) | (go_at_call 64; refine (reg_any _ _).mono ?_; rintro e w' ⟨rfl, rfl⟩; rw [← HR.out]) | ((with_reducible refine wpList_gate ?_); first | ((refine gate_load (by rfl) ?_); first | (refine ks_load1 KN 3 Tryd.underlying3 ?_)) | ((refine gate_store (by rfl) ?_); first | (refine ks_store1 KN 3 ?_; clear KN; intro wx KN))))
      refine (asm_fail KN HT.out hd hi 50).mono ?_
      rintro e wx ⟨rfl, K2⟩
      exact ⟨rfl, rfl, K2.toBelow⟩
    · clear h1
      go_enter Tryd.func67, Tryd.ntmps67
      go_wp2_with fail
      refine (asm_word_bad KN HT.out hd hi hk).mono ?_
      rintro e wx ⟨rfl, hb⟩
      exact ⟨rfl, rfl, hb⟩
end
end Go.Proofs.YtemigcdieghkfaaDoor
