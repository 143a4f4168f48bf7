/- The reference's parser: Take, Need, Any. -/
import Derived.Test.YtemigcdieghkfaaDoorPkParR
set_option linter.unusedVariables false
set_option linter.unusedSimpArgs false
set_option linter.unusedSectionVars false
namespace Go.Proofs.YtemigcdieghkfaaDoor
open Go.RowKit Go.BigFrame

def takeP (d : List Tok) (s : PSt) (k : Int) (m : List UInt8) : PSt := if peekB d s k m = true then stepP s else s
def needP (el ec : Int) (d : List Tok) (s : PSt) (k : Int) (m : List UInt8) : PSt := if peekB d s k m = true then stepP s else failP el ec d s s.i 50
def anyP (el ec : Int) (d : List Tok) (s : PSt) (k : Int) : PSt := if kindB d s k = true then stepP s else failP el ec d s s.i 50
set_option maxRecDepth 100000 in
set_option maxHeartbeats 4000000 in
theorem par_take {W w : World} {l : Ents} {g : Nat} {sv tv : Value} {s : PSt} {d : List Tok} (KN : Kn [] W w ((g, At (parC sv tv s) 74) :: l)) (hT : TokRd W tv d) (hd : d.length ≤ 65536) (hi : s.i ≤ 70000) (k : Int) (hk : 1 ≤ k) (m : List UInt8) :
    Calls Tryd.prog 96 #[.pointer (some ⟨g, 0, none⟩), .int .i64 k, .string (str m)] w fun e w' => e = .returned (.bool (peekB d s k m)) ∧ Kn [] W w' ((g, At (parC sv tv (takeP d s k m)) 74) :: l) := by
  have HT := Lib.hid hT
  clear hT
  unfold takeP
  cases hb : peekB d s k m with
  | true =>
    have HB := Lib.hid hb
    rw [if_pos rfl]
    clear hb
    go_enter Tryd.func96, Tryd.ntmps96
    go_wp2_with (first | (go_at_call 110; refine (par_peek KN HT.out hd hi k hk m).mono ?_; rw [HB.out]; rintro y wx ⟨rfl, K2⟩; replace KN := K2; clear K2) | ((with_reducible refine wpList_gate ?_); first | ((refine gate_load (by rfl) ?_); first | (refine ks_load1 KN 3 Tryd.underlying3 ?_)) | ((refine gate_store (by rfl) ?_); first | (refine ks_store1 KN 3 ?_; clear KN; intro wx KN))))
    go_ret
    exact ⟨rfl, KN.as_ g _ (by repeat (first | exact Repl.here | apply Repl.there)) (by kernel_rfl)⟩
  | false =>
    have HB := Lib.hid hb
    rw [if_neg (by decide)]
    clear hb
    go_enter Tryd.func96, Tryd.ntmps96
    go_wp2_with (first | (go_at_call 110; refine (par_peek KN HT.out hd hi k hk m).mono ?_; rw [HB.out]; rintro y wx ⟨rfl, K2⟩; replace KN := K2; clear K2) | ((with_reducible refine wpList_gate ?_); first | ((refine gate_load (by rfl) ?_); first | (refine ks_load1 KN 3 Tryd.underlying3 ?_)) | ((refine gate_store (by rfl) ?_); first | (refine ks_store1 KN 3 ?_; clear KN; intro wx KN))))
    go_ret
    exact ⟨rfl, KN⟩
set_option maxRecDepth 100000 in
set_option maxHeartbeats 4000000 in
theorem par_need {W w : World} {l : Ents} {g : Nat} {tv : Value} {sv : ByteArray} {s : PSt} {d : List Tok} {el ec : Int} (KN : Kn [] W w ((g, At (parC (.string sv) tv s) 74) :: l)) (hT : TokRd W tv d) (hd : d.length ≤ 65536) (hi : s.i ≤ 70000) (hs : sv.size ≤ 65536) (hp : Hid (adv sv.data.toList (1, 1) = (el, ec))) (k : Int) (hk : 1 ≤ k) (m : List UInt8) :
    Calls Tryd.prog 73 #[.pointer (some ⟨g, 0, none⟩), .int .i64 k, .string (str m)] w fun e w' => e = .returned (.tuple #[]) ∧ Kn [] W w' ((g, At (parC (.string sv) tv (needP el ec d s k m)) 74) :: l) := by
  have HT := Lib.hid hT
  clear hT
  unfold needP
  cases hb : peekB d s k m with
  | true =>
    have HTK : Hid (takeP d s k m = stepP s) := Lib.hid (by unfold takeP; rw [if_pos hb])
    have HB := Lib.hid hb
    rw [if_pos rfl]
    clear hb
    go_enter Tryd.func73, Tryd.ntmps73
    go_wp2_with (first | (go_at_call 96; refine (par_take KN HT.out hd hi k hk m).mono ?_; rw [HB.out, HTK.out]; rintro y wx ⟨rfl, K2⟩; replace KN := K2; clear K2) | ((with_reducible refine wpList_gate ?_); first | ((refine gate_load (by rfl) ?_); first | (refine ks_load1 KN 3 Tryd.underlying3 ?_))))
    first | go_end0 | refine bodyPost_ret (results_none rfl _ _ _) rfl ?_
    exact ⟨rfl, KN⟩
  | false =>
    have HTK : Hid (takeP d s k m = s) := Lib.hid (by unfold takeP; rw [hb]; rfl)
    have HB := Lib.hid hb
    rw [if_neg (by decide)]
    clear hb
    go_enter Tryd.func73, Tryd.ntmps73
    go_wp2_with (first | (go_at_call 96; refine (par_take KN HT.out hd hi k hk m).mono ?_; rw [HB.out, HTK.out]; rintro y wx ⟨rfl, K2⟩; replace KN := K2; clear K2) | (go_at_call 35; refine (par_fail KN HT.out hd hs hp s.i hi 50).mono ?_; rintro y wx ⟨rfl, K2⟩; replace KN := K2; clear K2) | ((with_reducible refine wpList_gate ?_); first | ((refine gate_load (by rfl) ?_); first | (refine ks_load1 KN 3 Tryd.underlying3 ?_))))
    first | go_end0 | refine bodyPost_ret (results_none rfl _ _ _) rfl ?_
    exact ⟨rfl, KN⟩
def zeroTok : Array Value := #[.int .i64 0, .string ByteArray.empty, .int .u64 0, .int .i64 0, .int .i64 0]
def anyTok (el ec : Int) (d : List Tok) (s : PSt) (k : Int) : Array Value := if kindB d s k = true then tokC el ec d s.i else zeroTok
set_option maxRecDepth 100000 in
set_option maxHeartbeats 4000000 in
theorem par_any {W w : World} {l : Ents} {g : Nat} {tv : Value} {sv : ByteArray} {s : PSt} {d : List Tok} {el ec : Int} (KN : Kn [] W w ((g, At (parC (.string sv) tv s) 74) :: l)) (hT : TokRd W tv d) (hd : d.length ≤ 65536) (hi : s.i ≤ 70000) (hs : sv.size ≤ 65536) (hp : Hid (adv sv.data.toList (1, 1) = (el, ec))) (k : Int) (hk : 1 ≤ k) :
    Calls Tryd.prog 97 #[.pointer (some ⟨g, 0, none⟩), .int .i64 k] w fun e w' => e = .returned (.agg (anyTok el ec d s k)) ∧ Kn [] W w' ((g, At (parC (.string sv) tv (anyP el ec d s k)) 74) :: l) := by
  have HT := Lib.hid hT
  unfold anyP anyTok
  cases hb : kindB d s k with
  | true =>
    have HB := Lib.hid hb
    rw [if_pos rfl, if_pos rfl]
    obtain ⟨a, c, rfl, hc⟩ := hT
    obtain ⟨n, hn⟩ : ∃ n, n = d.length := ⟨_, rfl⟩
    have HN := Lib.hid hn
    have hin : s.i < d.length := by
      rcases Nat.lt_or_ge s.i d.length with h | h
      · exact h
      · unfold kindB at hb
        rw [tk_out h] at hb
        simp at hb
        omega
    obtain ⟨t, ht⟩ : ∃ t, d[s.i]? = some t := ⟨_, List.getElem?_eq_getElem hin⟩
    obtain ⟨b, off, rfl, hbb, x0, x1, x2, x3, x4⟩ := hc s.i t ht
    have hres : tokC el ec d s.i = t.cells := by
      have e2 : posE el ec d s.i = (t.line, t.col) := by unfold posE; rw [ht]
      unfold tokC
      rw [tk_in ht, e2]; rfl
    rw [hres]
    rw [← hn] at hd hin KN HT ⊢
    clear hn hc hb ht hres
    have hrg : W.rangeAt b (off + s.i * 5) t.cells.toList := by
      intro j v hj
      match j, hj with
      | 0, hj => cases hj; exact x0
      | 1, hj => cases hj; exact x1
      | 2, hj => cases hj; exact x2
      | 3, hj => cases hj; exact x3
      | 4, hj => cases hj; exact x4
    clear x0 x1 x2 x3 x4
    go_enter Tryd.func97, Tryd.ntmps97
    go_upto_region 5 with (first | (go_at_call 70; refine (par_kind (KN.perm (List.Perm.swap _ _ _)) HT.out (by rw [← HN.out]; exact hd) hi k hk).mono ?_; rw [HB.out]; rintro y wx ⟨rfl, K2⟩; replace KN := K2.perm (List.Perm.swap _ _ _); clear K2) | ((with_reducible refine wpList_gate ?_); first | ((refine gate_load (by rfl) ?_); first | (refine ks_load1 KN 3 Tryd.underlying3 ?_) | (refine ks_load1 KN 46 Tryd.underlying46 ?_) | (refine ks_loadW KN 45 Tryd.underlying45 ?_)) | ((refine gate_store (by rfl) ?_); first | (refine ks_storeW KN 45 ?_; clear KN; intro wx KN) | (refine ks_storeA KN 45 ?_; clear KN; intro wx KN) | (refine ks_store1 KN 3 ?_; clear KN; intro wx KN)) | ((refine gate_new (by rfl) ?_); first | (refine ks_alloc KN 45 (q := 4) #[.int .i64 0, .string ByteArray.empty, .int .u64 0, .int .i64 0, .int .i64 0] ?_; clear KN; intro g4 wx hg4 KN) | (refine wpList_built rfl 45 #[] rfl #[.int .i64 0, .string ByteArray.empty, .int .u64 0, .int .i64 0, .int .i64 0] (by kernel_rfl) ?_))))
    (try go_frame)
    have KN := KN.as_ g (parC (.string sv) (.slice (some ⟨b, off, none⟩) n c) (stepP s)) (by repeat (first | exact Repl.here | apply Repl.there)) (by kernel_rfl)
    have hwr : IntKind.i64.wrap (s.i : Int) = (s.i : Int) := by rw [IntKind.wrap_i64]; omega
    replace KN := KN.drew
    refine wp_region_held_drew (S := (fun w' => w'.cell? ⟨g, 1, none⟩ = some (.slice (some ⟨b, off, none⟩) n c) ∧ w'.cell? ⟨g, 2, none⟩ = some (.int .i64 ((s.i + 1 : Nat) : Int)) ∧ w'.rangeAt b (off + s.i * 5) t.cells.toList)) (by kernel_rfl) ?qshS (fun hHeld => ?qsrest)
    case qshS => exact ⟨KN.cell (g := g) (o := 1) (by repeat (first | exact Has.here | refine Has.there ?_)) rfl, KN.cell (g := g) (o := 2) (by repeat (first | exact Has.here | refine Has.there ?_)) rfl, fun j v hj => (KN.old hbb (by simp)).trans (hrg j v hj)⟩
    refine wpAnyH_take (i := 0) (oi := ⟨some 23, _, _, _, _, _⟩) (v := ?qsv0) rfl (by kernel_rfl) (by kernel_rfl) (by kernel_rfl) (fun _ _ _ h => h) (Or.inl ⟨by rfl, ?qshy0⟩) hHeld ?qsr0
    case qshy0 => (intro w hSw; (try dsimp only at hSw); go_simp; (try with_reducible rfl))
    (try simp only [Act.put, List.setIfInBounds_toArray, List.set_cons_zero, List.set_cons_succ])
    refine wpAnyH_take (i := 1) (oi := ⟨some 24, _, _, _, _, _⟩) (v := ?qsv1) rfl (by kernel_rfl) (by kernel_rfl) (by kernel_rfl) (fun _ _ _ h => h) (Or.inl ⟨by rfl, ?qshy1⟩) hHeld ?qsr1
    case qshy1 => (intro w hSw; (try dsimp only at hSw); go_simp; (try with_reducible rfl))
    (try simp only [Act.put, List.setIfInBounds_toArray, List.set_cons_zero, List.set_cons_succ])
    refine wpAnyH_take (i := 2) (oi := ⟨some 25, _, _, _, _, _⟩) (v := ?qsv2) rfl (by kernel_rfl) (by kernel_rfl) (by kernel_rfl) (fun _ _ _ h => h) (Or.inl ⟨by rfl, ?qshy2⟩) hHeld ?qsr2
    case qshy2 => (intro w hSw; (try dsimp only at hSw); go_simp; (try with_reducible rfl))
    (try simp only [Act.put, List.setIfInBounds_toArray, List.set_cons_zero, List.set_cons_succ])
    refine wpAnyH_take (i := 3) (oi := ⟨some 26, _, _, _, _, _⟩) (v := (.slice (some ⟨b, off, none⟩) n c)) rfl (by kernel_rfl) (by kernel_rfl) (by kernel_rfl) (fun _ _ _ h => h) (kn_yields_cell (by rfl) 46 _ rfl g 1 rfl _ (fun _ h => h.1) _ Tryd.underlying46 rfl) hHeld ?qsr3
    (try simp only [Act.put, List.setIfInBounds_toArray, List.set_cons_zero, List.set_cons_succ])
    refine wpAnyH_take (i := 4) (oi := ⟨some 27, _, _, _, _, _⟩) (v := ?qsv4) rfl (by kernel_rfl) (by kernel_rfl) (by kernel_rfl) (fun _ _ _ h => h) (Or.inl ⟨by rfl, ?qshy4⟩) hHeld ?qsr4
    case qshy4 => (intro w hSw; (try dsimp only at hSw); go_simp; (try with_reducible rfl))
    (try simp only [Act.put, List.setIfInBounds_toArray, List.set_cons_zero, List.set_cons_succ])
    refine wpAnyH_take (i := 5) (oi := ⟨some 28, _, _, _, _, _⟩) (v := ?qsv5) rfl (by kernel_rfl) (by kernel_rfl) (by kernel_rfl) (fun _ _ _ h => h) (Or.inl ⟨by rfl, ?qshy5⟩) hHeld ?qsr5
    case qshy5 => (intro w hSw; (try dsimp only at hSw); go_simp; (try with_reducible rfl))
    (try simp only [Act.put, List.setIfInBounds_toArray, List.set_cons_zero, List.set_cons_succ])
    refine wpAnyH_take (i := 6) (oi := ⟨some 29, _, _, _, _, _⟩) (v := ?qsv6) rfl (by kernel_rfl) (by kernel_rfl) (by kernel_rfl) (fun _ _ _ h => h) (Or.inl ⟨by rfl, ?qshy6⟩) hHeld ?qsr6
    case qshy6 => (intro w hSw; (try dsimp only at hSw); go_simp; (try with_reducible rfl))
    (try simp only [Act.put, List.setIfInBounds_toArray, List.set_cons_zero, List.set_cons_succ])
    refine wpAnyH_take (i := 7) (oi := ⟨some 30, _, _, _, _, _⟩) (v := (.int .i64 ((s.i + 1 : Nat) : Int))) rfl (by kernel_rfl) (by kernel_rfl) (by kernel_rfl) (fun _ _ _ h => h) (kn_yields_cell (by rfl) 3 _ rfl g 2 rfl _ (fun _ h => h.2.1) _ Tryd.underlying3 rfl) hHeld ?qsr7
    (try simp only [Act.put, List.setIfInBounds_toArray, List.set_cons_zero, List.set_cons_succ])
    refine wpAnyH_take (i := 8) (oi := ⟨some 31, _, _, _, _, _⟩) (v := (.int .i64 (s.i : Int))) rfl (by kernel_rfl) (by kernel_rfl) (by kernel_rfl) (fun _ _ _ h => h) (.inl ⟨by rfl, by intro w _; go_simp; (try simp only [hwr])⟩) hHeld ?qsr8
    (try simp only [Act.put, List.setIfInBounds_toArray, List.set_cons_zero, List.set_cons_succ])
    refine wpAnyH_take (i := 9) (oi := ⟨some 32, _, _, _, _, _⟩) (v := (.pointer (some ⟨b, off + s.i * 5, none⟩))) rfl (by kernel_rfl) (by kernel_rfl) (by kernel_rfl) (fun _ _ _ h => h) (Or.inl ⟨by rfl, ?qshy9⟩) hHeld ?qsr9
    case qshy9 => (intro w hSw; (try dsimp only at hSw); go_simp; (try rfl))
    (try simp only [Act.put, List.setIfInBounds_toArray, List.set_cons_zero, List.set_cons_succ])
    refine wpAnyH_take (i := 10) (oi := ⟨some 33, _, _, _, _, _⟩) (v := (.agg t.cells)) rfl (by kernel_rfl) (by kernel_rfl) (by kernel_rfl) (fun _ _ _ h => h) (yields_load (by rfl) 45 _ rfl b (off + s.i * 5) rfl t.cells _ (fun _ h => h.2.2) Tryd.underlying45 rfl (by kernel_rfl)) hHeld ?qsr10
    (try simp only [Act.put, List.setIfInBounds_toArray, List.set_cons_zero, List.set_cons_succ])
    refine wpAnyH_ready (rs := [11]) (by kernel_rfl) (by simp) ?qsc11
    refine AllReadyH.cons (o := ⟨none, _, _, _, _, _⟩) rfl (fun K hK => ?qsst11) AllReadyH.nil
    (rw [if_pos (by rfl)]; refine wp_kn_storeW KN 45 _ _ rfl _ rfl t.cells rfl _ _ (by repeat (first | exact Repl.here | apply Repl.there)) (by kernel_rfl) (by kernel_rfl) (by kernel_rfl) ?_; clear KN; intro wx KN)
    refine hK.out _ _ ?qsk11 (fun hHeld2 => ?qsm11)
    case qsk11 => exact ⟨KN.cell (g := g) (o := 1) (by repeat (first | exact Has.here | refine Has.there ?_)) rfl, KN.cell (g := g) (o := 2) (by repeat (first | exact Has.here | refine Has.there ?_)) rfl, fun j v hj => (KN.old hbb (by simp)).trans (hrg j v hj)⟩
    clear hK K hHeld
    have hHeld := hHeld2; clear hHeld2
    (try simp only [Act.put, List.setIfInBounds_toArray, List.set_cons_zero, List.set_cons_succ])
    refine wpAnyH_done (by kernel_rfl) ?qsdone _
    go_wp2_with fail
    refine bodyPost_ret (v := .agg t.cells) (results_cell_row (p := 4) Tryd.results97 _ _ g4 45 t.cells (0, 0) _ rfl (KN.at_ (by repeat (first | exact Has.here | refine Has.there ?_))) Tryd.underlying45 rfl (by kernel_rfl)) rfl ?_
    exact ⟨rfl, KN.drop .here⟩
  | false =>
    have HB := Lib.hid hb
    rw [if_neg (by decide), if_neg (by decide)]
    clear hb hT
    go_enter Tryd.func97, Tryd.ntmps97
    go_wp2_with (first | (go_at_call 70; refine (par_kind (KN.perm (List.Perm.swap _ _ _)) HT.out hd hi k hk).mono ?_; rw [HB.out]; rintro y wx ⟨rfl, K2⟩; replace KN := K2.perm (List.Perm.swap _ _ _); clear K2) | (go_at_call 35; refine (par_fail (KN.perm (List.Perm.swap _ _ _)) HT.out hd hs hp s.i hi 50).mono ?_; rintro y wx ⟨rfl, K2⟩; replace KN := K2.perm (List.Perm.swap _ _ _); clear K2) | ((with_reducible refine wpList_gate ?_); first | ((refine gate_load (by rfl) ?_); first | (refine ks_load1 KN 3 Tryd.underlying3 ?_) | (refine ks_load1 KN 46 Tryd.underlying46 ?_) | (refine ks_loadW KN 45 Tryd.underlying45 ?_)) | ((refine gate_store (by rfl) ?_); first | (refine ks_storeW KN 45 ?_; clear KN; intro wx KN) | (refine ks_storeA KN 45 ?_; clear KN; intro wx KN) | (refine ks_store1 KN 3 ?_; clear KN; intro wx KN)) | ((refine gate_new (by rfl) ?_); first | (refine ks_alloc KN 45 (q := 4) #[.int .i64 0, .string ByteArray.empty, .int .u64 0, .int .i64 0, .int .i64 0] ?_; clear KN; intro g4 wx hg4 KN) | (refine wpList_built rfl 45 #[] rfl #[.int .i64 0, .string ByteArray.empty, .int .u64 0, .int .i64 0, .int .i64 0] (by kernel_rfl) ?_))))
    refine bodyPost_ret (v := .agg zeroTok) (results_cell_row (p := 4) Tryd.results97 _ _ g4 45 zeroTok (0, 0) _ rfl (KN.at_ (by repeat (first | exact Has.here | refine Has.there ?_))) Tryd.underlying45 rfl (by kernel_rfl)) rfl ?_
    exact ⟨rfl, KN.drop .here⟩
end Go.Proofs.YtemigcdieghkfaaDoor
