/- The program's FormatScript. -/
import Derived.Test.YtgeeklgojjcdmaaDoorPkConFG
import Derived.Test.YtgeeklgojjcdmaaDoorPkBldG
set_option linter.unusedVariables false
set_option linter.unusedSimpArgs false
set_option linter.unusedSectionVars false
namespace Go.Proofs.YtgeeklgojjcdmaaDoor
open Go.RowKit Go.BigFrame

def FmtP1 (l : List RawEv) (n : Nat) (r0 : Option (List UInt8)) (gf g5 : Nat) (w : World) (i : Value) (wr : World) : Prop :=
  ∃ (f k : Nat) (t : List UInt8) (pb vb : Value) (ol : Ents), i = .int .i64 (k : Int) ∧ r0 = (fmtFromR f (l.drop k)).map (t ++ ·) ∧ n ≤ f + k ∧ k ≤ n ∧ t.length ≤ 80 * k ∧ (pb = .pointer none ∨ pb = .pointer (some ⟨g5, 0, none⟩)) ∧ OwnT 5 1 vb (bytesL t) ol ∧
    Kn [] w wr ((g5, At #[pb, vb] 66) :: (gf, At formA 68) :: ol)
def FmtP2 (l : List RawEv) (n k gf g5 g7 g8 : Nat) (x : RawEv) (fm : Array Value) (pb vb : Value) (ol : Ents) (w : World) (i : Value) (wr : World) : Prop :=
  ∃ c : Nat, i = .int .i64 (c : Int) ∧ 1 ≤ c ∧ k + c ≤ n ∧ sameR x (l.drop (k + 1)) = (c - 1) + sameR x (l.drop (k + c)) ∧ Kn [] w wr ((g8, At fm 68) :: (g7, At x.cells 35) :: (g5, At #[pb, vb] 66) :: (gf, At formA 68) :: ol)
def FmtPS (t : List UInt8) (gf g5 g7 g8 : Nat) (x : RawEv) (fm : Array Value) (w wr : World) : Prop :=
  ∃ (pb vb : Value) (ol : Ents), (pb = .pointer none ∨ pb = .pointer (some ⟨g5, 0, none⟩)) ∧ OwnT 5 1 vb (bytesL t) ol ∧ Kn [] w wr ((g5, At #[pb, vb] 66) :: (g8, At fm 68) :: (g7, At x.cells 35) :: (gf, At formA 68) :: ol)
theorem rawOk_num {x : RawEv} (h1 : 1 ≤ x.kind) (h8 : x.kind ≤ 8) : rawOk x = (numOk (evCore x.ev.kind) x.core && numOk (evNum x.ev.kind) x.n) := by
  unfold rawOk
  rw [decide_eq_true h1, decide_eq_true h8]
  rfl
set_option maxRecDepth 100000 in
set_option maxHeartbeats 8000000 in
theorem FormatScript_any (va : Value) (l : List RawEv) (w : World) (h : Row w va 3 (rawRows l)) (hl : l.length ≤ 100000) (hp : Pow w) :
    Calls Tryd.prog 9 #[va] w fun e w' => e = .returned (.string (str (fmtR l))) ∧ Below w.heap.size w w' := by
  have KN := Kn.start w
  obtain ⟨a, c, rfl, hcells0⟩ := raws_form h
  obtain ⟨n, hn⟩ : ∃ n, n = l.length := ⟨_, rfl⟩
  have HN := Lib.hid hn
  have HPW := Lib.hid hp
  have HCELLS := Lib.hid hcells0
  obtain ⟨r0, hr0⟩ : ∃ r0, r0 = fmtFromR l.length l := ⟨_, rfl⟩
  have HR0 := Lib.hid hr0
  have HOUT : Hid (∀ t, r0 = some t → str t = str (fmtR l)) := Lib.hid (fun t ht => by unfold fmtR; rw [← HR0.out, ht]; rfl)
  have HBAD : Hid (r0 = none → (ByteArray.empty : ByteArray) = str (fmtR l)) := Lib.hid (fun ht => by unfold fmtR; rw [← HR0.out, ht]; rfl)
  obtain ⟨res, hres⟩ : ∃ res, res = str (fmtR l) := ⟨_, rfl⟩
  rw [← hres] at HOUT HBAD ⊢
  rw [← hn] at hl ⊢
  clear h hp hcells0 hn hr0 hres
  go_enter Tryd.func9, Tryd.ntmps9
  go_wp2_with (first | (go_at_call 26; refine (forms_any _).mono ?_; rintro e wx ⟨gf, rfl, K2⟩; replace KN := KN.call0 K2; clear K2; simp only [List.append_nil] at KN) | ((with_reducible refine wpList_gate ?_); first | ((with_reducible refine gate_load ?_ ?_); rfl; first | (refine ks_loadW KN 35 Tryd.underlying35 ?_) | (refine ks_load1 KN 3 Tryd.underlying3 ?_) | (refine ks_loadW KN 68 Tryd.underlying68 ?_) | (refine ks_load1 KN 4 Tryd.underlying4 ?_) | (refine ks_load1 KN 9 Tryd.underlying9 ?_)) | ((with_reducible refine gate_store ?_ ?_); rfl; first | (refine ks_storeW KN 35 ?_; clear KN; intro wx KN) | (refine ks_storeA KN 35 ?_; clear KN; intro wx KN) | (refine ks_storeW KN 68 ?_; clear KN; intro wx KN) | (refine ks_storeA KN 68 ?_; clear KN; intro wx KN)) | ((with_reducible refine gate_new ?_ ?_); rfl; first | (refine ks_alloc KN 66 (q := 5) #[.pointer none, .slice none 0 0] ?_; clear KN; intro g5 wx hg5 KN) | (refine ks_alloc KN 35 (q := 7) #[.int .i64 0, .int .i64 0, .int .i64 0] ?_; clear KN; intro g7 wx hg7 KN) | (refine ks_alloc KN 68 (q := 8) #[.string ByteArray.empty, .bool false, .bool false] ?_; clear KN; intro g8 wx hg8 KN))))
  go_loopw [6] (fun i wr => FmtP1 l n r0 gf g5 w i wr) (fun i _ => n - (intOf i).toNat)
  case atStart => exact ⟨n, 0, [], .pointer none, .slice none 0 0, [], rfl, by rw [HR0.out, HN.out, List.drop_zero]; cases fmtFromR l.length l <;> rfl, by omega, by omega, Nat.zero_le _, .inl rfl, .nil, KN⟩
  case round =>
    clear KN
    obtain ⟨f, k, t, pb, vb, ol, rfl, hr, hf, hk, htl, hpb, OW, KN⟩ := hrel
    have HR := Lib.hid hr
    have HTL := Lib.hid htl
    have HPB := Lib.hid hpb
    have HO := Lib.hid OW
    clear hr htl hpb OW
    by_cases hlt : k < n
    · obtain ⟨x, hx⟩ : ∃ x, l[k]? = some x := ⟨_, List.getElem?_eq_getElem (by rw [← HN.out]; exact hlt)⟩
      obtain ⟨g2, off, hg2, hgb, hc1, hc2, x0, x1, x2⟩ := HCELLS.out k x hx
      subst hg2
      have HX := Lib.hid hx
      have RNG := Lib.hid (row_range x0 x1 x2)
      obtain ⟨f, rfl⟩ : ∃ f', f = f' + 1 := ⟨f - 1, by omega⟩
      have hc1' : n ≤ c := by rw [HN.out]; exact hc1
      clear hx hc1 x0 x1 x2
      unfold maxLen at hc2
      by_cases hk1 : x.kind < 1
      · have HQ := Lib.hid (HBAD.out (by rw [HR.out, fmtFromR_bad HX.out (by rw [rawOk_lo (by omega)]; decide)]; rfl))
        have d1 : decide (x.kind < 1) = true := decide_eq_true hk1
        clear hk1
        go_wp2_with (first | ((with_reducible refine wpList_gate ?_); first | ((with_reducible refine gate_load ?_ ?_); rfl; first | (refine wpList_kn_oldN KN (by rfl) 35 _ rfl g2 _ rfl x.cells RNG.out hgb (by simp) _ Tryd.underlying35 rfl (by kernel_rfl) ?_) | (refine ks_loadW KN 35 Tryd.underlying35 ?_) | (refine ks_load1 KN 3 Tryd.underlying3 ?_) | (refine ks_loadW KN 68 Tryd.underlying68 ?_) | (refine ks_load1 KN 4 Tryd.underlying4 ?_) | (refine ks_load1 KN 9 Tryd.underlying9 ?_)) | ((with_reducible refine gate_store ?_ ?_); rfl; first | (refine ks_storeW KN 35 ?_; clear KN; intro wx KN) | (refine ks_storeA KN 35 ?_; clear KN; intro wx KN) | (refine ks_storeW KN 68 ?_; clear KN; intro wx KN) | (refine ks_storeA KN 68 ?_; clear KN; intro wx KN)) | ((with_reducible refine gate_new ?_ ?_); rfl; first | (refine ks_alloc KN 66 (q := 5) #[.pointer none, .slice none 0 0] ?_; clear KN; intro g5 wx hg5 KN) | (refine ks_alloc KN 35 (q := 7) #[.int .i64 0, .int .i64 0, .int .i64 0] ?_; clear KN; intro g7 wx hg7 KN) | (refine ks_alloc KN 68 (q := 8) #[.string ByteArray.empty, .bool false, .bool false] ?_; clear KN; intro g8 wx hg8 KN))))
        go_ret
        exact ⟨by rw [← HQ.out]; rfl, KN.toBelow⟩
      have d1 : decide (x.kind < 1) = false := decide_eq_false hk1
      by_cases hk8 : 8 < x.kind
      · have HQ := Lib.hid (HBAD.out (by rw [HR.out, fmtFromR_bad HX.out (by rw [rawOk_hi (by omega)]; decide)]; rfl))
        have d2 : decide (8 < x.kind) = true := decide_eq_true hk8
        clear hk8 hk1
        go_wp2_with (first | ((with_reducible refine wpList_gate ?_); first | ((with_reducible refine gate_load ?_ ?_); rfl; first | (refine wpList_kn_oldN KN (by rfl) 35 _ rfl g2 _ rfl x.cells RNG.out hgb (by simp) _ Tryd.underlying35 rfl (by kernel_rfl) ?_) | (refine ks_loadW KN 35 Tryd.underlying35 ?_) | (refine ks_load1 KN 3 Tryd.underlying3 ?_) | (refine ks_loadW KN 68 Tryd.underlying68 ?_) | (refine ks_load1 KN 4 Tryd.underlying4 ?_) | (refine ks_load1 KN 9 Tryd.underlying9 ?_)) | ((with_reducible refine gate_store ?_ ?_); rfl; first | (refine ks_storeW KN 35 ?_; clear KN; intro wx KN) | (refine ks_storeA KN 35 ?_; clear KN; intro wx KN) | (refine ks_storeW KN 68 ?_; clear KN; intro wx KN) | (refine ks_storeA KN 68 ?_; clear KN; intro wx KN)) | ((with_reducible refine gate_new ?_ ?_); rfl; first | (refine ks_alloc KN 66 (q := 5) #[.pointer none, .slice none 0 0] ?_; clear KN; intro g5 wx hg5 KN) | (refine ks_alloc KN 35 (q := 7) #[.int .i64 0, .int .i64 0, .int .i64 0] ?_; clear KN; intro g7 wx hg7 KN) | (refine ks_alloc KN 68 (q := 8) #[.string ByteArray.empty, .bool false, .bool false] ?_; clear KN; intro g8 wx hg8 KN))))
        go_ret
        exact ⟨by rw [← HQ.out]; rfl, KN.toBelow⟩
      have d2 : decide (8 < x.kind) = false := decide_eq_false hk8
      obtain ⟨bc, hbc⟩ : ∃ b, b = evCore x.ev.kind := ⟨_, rfl⟩
      obtain ⟨bn, hbn⟩ : ∃ b, b = evNum x.ev.kind := ⟨_, rfl⟩
      obtain ⟨um, hum⟩ : ∃ u, u = str (verbL.getD (x.ev.kind - 1) []) := ⟨_, rfl⟩
      have HFG : Hid (formA.extract ((x.kind.toNat - 1) * 3) ((x.kind.toNat - 1) * 3 + 3) = #[.string um, .bool bc, .bool bn]) := Lib.hid (by
        have h1 := form_get (x.kind.toNat - 1) (by omega)
        rw [h1, hum, hbc, hbn]
        have e2 : x.kind.toNat - 1 + 1 = x.ev.kind := by show x.kind.toNat - 1 + 1 = x.kind.toNat; omega
        rw [e2]; rfl)
      have HOKQ : Hid (rawOk x = (numOk bc x.core && numOk bn x.n)) := Lib.hid (by rw [hbc, hbn]; exact rawOk_num (by omega) (by omega))
      have k1 : 1 ≤ x.kind := by omega
      have k8 : x.kind ≤ 8 := by omega
      have sm : um.size ≤ 8 := by rw [hum, str_size]; exact verb_len _
      have HUM := Lib.hid hum
      have HBC := Lib.hid hbc
      have HBN := Lib.hid hbn
      clear hbc hbn hum hk1 hk8
      by_cases ho1 : numOk bc x.core = true
      · by_cases ho2 : numOk bn x.n = true
        · have HOK : Hid (rawOk x = true) := Lib.hid (by rw [HOKQ.out, ho1, ho2]; rfl)
          have HBD := Lib.hid (rawOk_bd HOK.out)
          have HSTEP := Lib.hid (fmtFromR_ok (f := f) HX.out HOK.out)
          go_upto_block 2 with (first | (go_at_call 27; refine (fright_any _ _ _).mono ?_; rintro e9 wx ⟨rfl, rfl⟩) | ((with_reducible refine wpList_gate ?_); first | ((with_reducible refine gate_load ?_ ?_); rfl; first | (refine wpList_kn_oldN KN (by rfl) 35 _ rfl g2 _ rfl x.cells RNG.out hgb (by simp) _ Tryd.underlying35 rfl (by kernel_rfl) ?_) | (refine wpList_kn_loadN KN (by rfl) 68 _ rfl gf ((x.kind.toNat - 1) * 3) rfl formA _ (by repeat (first | exact Has.here | refine Has.there ?_)) #[.string um, .bool bc, .bool bn] HFG.out _ Tryd.underlying68 rfl (by kernel_rfl) ?_) | (refine ks_loadW KN 35 Tryd.underlying35 ?_) | (refine ks_load1 KN 3 Tryd.underlying3 ?_) | (refine ks_loadW KN 68 Tryd.underlying68 ?_) | (refine ks_load1 KN 4 Tryd.underlying4 ?_) | (refine ks_load1 KN 9 Tryd.underlying9 ?_)) | ((with_reducible refine gate_store ?_ ?_); rfl; first | (refine ks_storeW KN 35 ?_; clear KN; intro wx KN) | (refine ks_storeA KN 35 ?_; clear KN; intro wx KN) | (refine ks_storeW KN 68 ?_; clear KN; intro wx KN) | (refine ks_storeA KN 68 ?_; clear KN; intro wx KN)) | ((with_reducible refine gate_new ?_ ?_); rfl; first | (refine ks_alloc KN 66 (q := 5) #[.pointer none, .slice none 0 0] ?_; clear KN; intro g5 wx hg5 KN) | (refine ks_alloc KN 35 (q := 7) #[.int .i64 0, .int .i64 0, .int .i64 0] ?_; clear KN; intro g7 wx hg7 KN) | (refine ks_alloc KN 68 (q := 8) #[.string ByteArray.empty, .bool false, .bool false] ?_; clear KN; intro g8 wx hg8 KN))))
          (try go_frame)
          clear ho1 ho2
          go_cut [9] (fun s9 wz => ∃ m : Nat, s9 = .int .i64 (m : Int) ∧ 1 ≤ m ∧ k + m ≤ n ∧ sameR x (l.drop (k + 1)) = m - 1 ∧ Kn [] w wz ((g8, At #[.string um, .bool bc, .bool bn] 68) :: (g7, At x.cells 35) :: (g5, At #[pb, vb] 66) :: (gf, At formA 68) :: ol))
          case first =>
            go_wp2_with fail
            go_loopw [9] (fun i wr => FmtP2 l n k gf g5 g7 g8 x #[.string um, .bool bc, .bool bn] pb vb ol w i wr) (fun i _ => n - (intOf i).toNat)
            case atStart => exact ⟨1, rfl, Nat.le_refl _, by omega, by omega, KN⟩
            case round =>
              clear KN
              obtain ⟨m, rfl, hm1, hmn, hsm, KN⟩ := hrel
              have HSM := Lib.hid hsm
              clear hsm
              have wkm : IntKind.i64.wrap ((k : Int) + (m : Int)) = k + m := by rw [IntKind.wrap_i64]; omega
              by_cases hmlt : k + m < n
              · obtain ⟨y, hy⟩ : ∃ y, l[k + m]? = some y := ⟨_, List.getElem?_eq_getElem (by rw [← HN.out]; exact hmlt)⟩
                obtain ⟨g3, of3, hg3, _, _, _, y0, y1, y2⟩ := HCELLS.out (k + m) y hy
                injection hg3 with hg3
                injection hg3 with hg3 hof3 _
                subst hg3
                subst hof3
                have RNY := Lib.hid (row_range y0 y1 y2)
                have HSD : Hid (sameR x (l.drop (k + m)) = if y = x then 1 + sameR x (l.drop (k + m + 1)) else 0) := Lib.hid (by rw [sameR_drop, hy])
                have hdm : decide ((k : Int) + (m : Int) < (n : Int)) = true := decide_eq_true (by omega)
                have hin0 : 0 ≤ (k : Int) + (m : Int) := by omega
                have hin1 : (k : Int) + (m : Int) < (n : Int) := by omega
                have htn : ((k : Int) + (m : Int)).toNat = k + m := by omega
                clear hy y0 y1 y2
                by_cases hyx : y = x
                · have HEQ : Hid (eqV Tryd.prog 10 35 (.agg y.cells) (.agg x.cells) = some true) := Lib.hid ((eq_raw y x).trans (by rw [decide_eq_true hyx]))
                  have HSD2 : Hid (sameR x (l.drop (k + 1)) = (m + 1 - 1) + sameR x (l.drop (k + (m + 1)))) := Lib.hid (by rw [HSM.out, HSD.out, if_pos hyx, show k + m + 1 = k + (m + 1) from by omega]; omega)
                  clear hyx
                  go_upto_region 15 with fail
                  (try go_frame)
                  replace KN := KN.drew
                  refine wp_region_held_drew (S := (fun w' => w'.rangeAt g2 (off + (k + m) * 3) y.cells.toList ∧ BlkT w' g7 x.cells 35)) (by kernel_rfl) ?qahS (fun hHeld => ?qarest)
                  case qahS => exact ⟨fun j v hj => (KN.old hgb (by simp)).trans (RNY.out j v hj), KN.at_ (by repeat (first | exact Has.here | refine Has.there ?_))⟩
                  refine wpAnyH_take (i := 0) (oi := ⟨some 54, _, _, _, _, _⟩) (v := ?qav0) rfl (by kernel_rfl) (by kernel_rfl) (by kernel_rfl) (fun _ _ _ h => h) (Or.inl ⟨by rfl, ?qahy0⟩) hHeld ?qar0
                  case qahy0 => (intro w hSw; (try dsimp only at hSw); go_simp; (try with_reducible rfl))
                  (try simp only [Act.put, List.setIfInBounds_toArray, List.set_cons_zero, List.set_cons_succ])
                  refine wpAnyH_take (i := 1) (oi := ⟨some 55, _, _, _, _, _⟩) (v := ?qav1) rfl (by kernel_rfl) (by kernel_rfl) (by kernel_rfl) (fun _ _ _ h => h) (Or.inl ⟨by rfl, ?qahy1⟩) hHeld ?qar1
                  case qahy1 => (intro w hSw; (try dsimp only at hSw); go_simp; (try with_reducible rfl))
                  (try simp only [Act.put, List.setIfInBounds_toArray, List.set_cons_zero, List.set_cons_succ])
                  refine wpAnyH_take (i := 2) (oi := ⟨some 56, _, _, _, _, _⟩) (v := ?qav2) rfl (by kernel_rfl) (by kernel_rfl) (by kernel_rfl) (fun _ _ _ h => h) (Or.inl ⟨by rfl, ?qahy2⟩) hHeld ?qar2
                  case qahy2 => (intro w hSw; (try dsimp only at hSw); go_simp; (try with_reducible rfl))
                  (try simp only [Act.put, List.setIfInBounds_toArray, List.set_cons_zero, List.set_cons_succ])
                  refine wpAnyH_take (i := 3) (oi := ⟨some 57, _, _, _, _, _⟩) (v := ?qav3) rfl (by kernel_rfl) (by kernel_rfl) (by kernel_rfl) (fun _ _ _ h => h) (Or.inl ⟨by rfl, ?qahy3⟩) hHeld ?qar3
                  case qahy3 => (intro w hSw; (try dsimp only at hSw); go_simp; (try with_reducible rfl))
                  (try simp only [Act.put, List.setIfInBounds_toArray, List.set_cons_zero, List.set_cons_succ])
                  refine wpAnyH_take (i := 4) (oi := ⟨some 58, _, _, _, _, _⟩) (v := ?qav4) rfl (by kernel_rfl) (by kernel_rfl) (by kernel_rfl) (fun _ _ _ h => h) (Or.inl ⟨by rfl, ?qahy4⟩) hHeld ?qar4
                  case qahy4 => (intro w hSw; (try dsimp only at hSw); go_simp; (try with_reducible rfl))
                  (try simp only [Act.put, List.setIfInBounds_toArray, List.set_cons_zero, List.set_cons_succ])
                  refine wpAnyH_take (i := 5) (oi := ⟨some 59, _, _, _, _, _⟩) (v := ?qav5) rfl (by kernel_rfl) (by kernel_rfl) (by kernel_rfl) (fun _ _ _ h => h) (Or.inl ⟨by rfl, ?qahy5⟩) hHeld ?qar5
                  case qahy5 => (intro w hSw; (try dsimp only at hSw); go_simp; (try with_reducible rfl))
                  (try simp only [Act.put, List.setIfInBounds_toArray, List.set_cons_zero, List.set_cons_succ])
                  refine wpAnyH_take (i := 6) (oi := ⟨some 60, _, _, _, _, _⟩) (v := ?qav6) rfl (by kernel_rfl) (by kernel_rfl) (by kernel_rfl) (fun _ _ _ h => h) (Or.inl ⟨by rfl, ?qahy6⟩) hHeld ?qar6
                  case qahy6 => (intro w hSw; (try dsimp only at hSw); go_simp; (try with_reducible rfl))
                  (try simp only [Act.put, List.setIfInBounds_toArray, List.set_cons_zero, List.set_cons_succ])
                  refine wpAnyH_take (i := 7) (oi := ⟨some 61, _, _, _, _, _⟩) (v := ?qav7) rfl (by kernel_rfl) (by kernel_rfl) (by kernel_rfl) (fun _ _ _ h => h) (Or.inl ⟨by rfl, ?qahy7⟩) hHeld ?qar7
                  case qahy7 => (intro w hSw; (try dsimp only at hSw); go_simp; (try with_reducible rfl))
                  (try simp only [Act.put, List.setIfInBounds_toArray, List.set_cons_zero, List.set_cons_succ])
                  refine wpAnyH_take (i := 8) (oi := ⟨some 62, _, _, _, _, _⟩) (v := ?qav8) rfl (by kernel_rfl) (by kernel_rfl) (by kernel_rfl) (fun _ _ _ h => h) (Or.inl ⟨by rfl, ?qahy8⟩) hHeld ?qar8
                  case qahy8 => (intro w hSw; (try dsimp only at hSw); go_simp; (try with_reducible rfl))
                  (try simp only [Act.put, List.setIfInBounds_toArray, List.set_cons_zero, List.set_cons_succ])
                  refine wpAnyH_take (i := 9) (oi := ⟨some 63, _, _, _, _, _⟩) (v := ?qav9) rfl (by kernel_rfl) (by kernel_rfl) (by kernel_rfl) (fun _ _ _ h => h) (Or.inl ⟨by rfl, ?qahy9⟩) hHeld ?qar9
                  case qahy9 => (intro w hSw; (try dsimp only at hSw); go_simp; (try with_reducible rfl))
                  (try simp only [Act.put, List.setIfInBounds_toArray, List.set_cons_zero, List.set_cons_succ])
                  refine wpAnyH_take (i := 10) (oi := ⟨some 64, _, _, _, _, _⟩) (v := ?qav10) rfl (by kernel_rfl) (by kernel_rfl) (by kernel_rfl) (fun _ _ _ h => h) (Or.inl ⟨by rfl, ?qahy10⟩) hHeld ?qar10
                  case qahy10 => (intro w hSw; (try dsimp only at hSw); go_simp; (try with_reducible rfl))
                  (try simp only [Act.put, List.setIfInBounds_toArray, List.set_cons_zero, List.set_cons_succ])
                  refine wpAnyH_take (i := 11) (oi := ⟨some 65, _, _, _, _, _⟩) (v := (.pointer (some ⟨g2, off + (k + m) * 3, none⟩))) rfl (by kernel_rfl) (by kernel_rfl) (by kernel_rfl) (fun _ _ _ h => h) (Or.inl ⟨by rfl, ?qahy11⟩) hHeld ?qar11
                  case qahy11 => (intro w hSw; (try dsimp only at hSw); go_simp; (try rfl))
                  (try simp only [Act.put, List.setIfInBounds_toArray, List.set_cons_zero, List.set_cons_succ])
                  refine wpAnyH_take (i := 12) (oi := ⟨some 66, _, _, _, _, _⟩) (v := (.agg y.cells)) rfl (by kernel_rfl) (by kernel_rfl) (by kernel_rfl) (fun _ _ _ h => h) (yields_load (by rfl) 35 _ rfl g2 (off + (k + m) * 3) rfl y.cells _ (fun _ h => h.1) Tryd.underlying35 rfl (by kernel_rfl)) hHeld ?qar12
                  (try simp only [Act.put, List.setIfInBounds_toArray, List.set_cons_zero, List.set_cons_succ])
                  refine wpAnyH_take (i := 13) (oi := ⟨some 67, _, _, _, _, _⟩) (v := (.agg x.cells)) rfl (by kernel_rfl) (by kernel_rfl) (by kernel_rfl) (fun _ _ _ h => h) (kn_yieldsN (by rfl) 35 _ rfl g7 0 rfl _ 35 (fun _ h => h.2) x.cells rfl _ Tryd.underlying35 rfl (by kernel_rfl)) hHeld ?qar13
                  (try simp only [Act.put, List.setIfInBounds_toArray, List.set_cons_zero, List.set_cons_succ])
                  refine wpAnyH_take (i := 14) (oi := ⟨some 68, _, _, _, _, _⟩) (v := (.bool true)) rfl (by kernel_rfl) (by kernel_rfl) (by kernel_rfl) (fun _ _ _ h => h) (yields_eqlV (by rfl) 35 _ _ _ rfl y.cells x.cells rfl rfl (by kernel_rfl) true HEQ.out) hHeld ?qar14
                  (try simp only [Act.put, List.setIfInBounds_toArray, List.set_cons_zero, List.set_cons_succ])
                  refine wpAnyH_take (i := 15) (oi := ⟨some 69, _, _, _, _, _⟩) (v := ?qav15) rfl (by kernel_rfl) (by kernel_rfl) (by kernel_rfl) (fun _ _ _ h => h) (Or.inl ⟨by rfl, ?qahy15⟩) hHeld ?qar15
                  case qahy15 => (intro w hSw; (try dsimp only at hSw); go_simp; (try with_reducible rfl))
                  (try simp only [Act.put, List.setIfInBounds_toArray, List.set_cons_zero, List.set_cons_succ])
                  refine wpAnyH_done (by kernel_rfl) ?qadone _
                  clear wkm hin0 hin1 htn hdm
                  go_wp2_with fail
                  go_roundw
                  case rel => exact ⟨m + 1, by go_num, by omega, by omega, HSD2.out, KN⟩
                  case measure => simp [intOf]; omega
                · have HEQ : Hid (eqV Tryd.prog 10 35 (.agg y.cells) (.agg x.cells) = some false) := Lib.hid ((eq_raw y x).trans (by rw [decide_eq_false hyx]))
                  have HSD2 : Hid (sameR x (l.drop (k + 1)) = m - 1) := Lib.hid (by rw [HSM.out, HSD.out, if_neg hyx]; omega)
                  clear hyx
                  go_upto_region 15 with fail
                  (try go_frame)
                  replace KN := KN.drew
                  refine wp_region_held_drew (S := (fun w' => w'.rangeAt g2 (off + (k + m) * 3) y.cells.toList ∧ BlkT w' g7 x.cells 35)) (by kernel_rfl) ?qbhS (fun hHeld => ?qbrest)
                  case qbhS => exact ⟨fun j v hj => (KN.old hgb (by simp)).trans (RNY.out j v hj), KN.at_ (by repeat (first | exact Has.here | refine Has.there ?_))⟩
                  refine wpAnyH_take (i := 0) (oi := ⟨some 54, _, _, _, _, _⟩) (v := ?qbv0) rfl (by kernel_rfl) (by kernel_rfl) (by kernel_rfl) (fun _ _ _ h => h) (Or.inl ⟨by rfl, ?qbhy0⟩) hHeld ?qbr0
                  case qbhy0 => (intro w hSw; (try dsimp only at hSw); go_simp; (try with_reducible rfl))
                  (try simp only [Act.put, List.setIfInBounds_toArray, List.set_cons_zero, List.set_cons_succ])
                  refine wpAnyH_take (i := 1) (oi := ⟨some 55, _, _, _, _, _⟩) (v := ?qbv1) rfl (by kernel_rfl) (by kernel_rfl) (by kernel_rfl) (fun _ _ _ h => h) (Or.inl ⟨by rfl, ?qbhy1⟩) hHeld ?qbr1
                  case qbhy1 => (intro w hSw; (try dsimp only at hSw); go_simp; (try with_reducible rfl))
                  (try simp only [Act.put, List.setIfInBounds_toArray, List.set_cons_zero, List.set_cons_succ])
                  refine wpAnyH_take (i := 2) (oi := ⟨some 56, _, _, _, _, _⟩) (v := ?qbv2) rfl (by kernel_rfl) (by kernel_rfl) (by kernel_rfl) (fun _ _ _ h => h) (Or.inl ⟨by rfl, ?qbhy2⟩) hHeld ?qbr2
                  case qbhy2 => (intro w hSw; (try dsimp only at hSw); go_simp; (try with_reducible rfl))
                  (try simp only [Act.put, List.setIfInBounds_toArray, List.set_cons_zero, List.set_cons_succ])
                  refine wpAnyH_take (i := 3) (oi := ⟨some 57, _, _, _, _, _⟩) (v := ?qbv3) rfl (by kernel_rfl) (by kernel_rfl) (by kernel_rfl) (fun _ _ _ h => h) (Or.inl ⟨by rfl, ?qbhy3⟩) hHeld ?qbr3
                  case qbhy3 => (intro w hSw; (try dsimp only at hSw); go_simp; (try with_reducible rfl))
                  (try simp only [Act.put, List.setIfInBounds_toArray, List.set_cons_zero, List.set_cons_succ])
                  refine wpAnyH_take (i := 4) (oi := ⟨some 58, _, _, _, _, _⟩) (v := ?qbv4) rfl (by kernel_rfl) (by kernel_rfl) (by kernel_rfl) (fun _ _ _ h => h) (Or.inl ⟨by rfl, ?qbhy4⟩) hHeld ?qbr4
                  case qbhy4 => (intro w hSw; (try dsimp only at hSw); go_simp; (try with_reducible rfl))
                  (try simp only [Act.put, List.setIfInBounds_toArray, List.set_cons_zero, List.set_cons_succ])
                  refine wpAnyH_take (i := 5) (oi := ⟨some 59, _, _, _, _, _⟩) (v := ?qbv5) rfl (by kernel_rfl) (by kernel_rfl) (by kernel_rfl) (fun _ _ _ h => h) (Or.inl ⟨by rfl, ?qbhy5⟩) hHeld ?qbr5
                  case qbhy5 => (intro w hSw; (try dsimp only at hSw); go_simp; (try with_reducible rfl))
                  (try simp only [Act.put, List.setIfInBounds_toArray, List.set_cons_zero, List.set_cons_succ])
                  refine wpAnyH_take (i := 6) (oi := ⟨some 60, _, _, _, _, _⟩) (v := ?qbv6) rfl (by kernel_rfl) (by kernel_rfl) (by kernel_rfl) (fun _ _ _ h => h) (Or.inl ⟨by rfl, ?qbhy6⟩) hHeld ?qbr6
                  case qbhy6 => (intro w hSw; (try dsimp only at hSw); go_simp; (try with_reducible rfl))
                  (try simp only [Act.put, List.setIfInBounds_toArray, List.set_cons_zero, List.set_cons_succ])
                  refine wpAnyH_take (i := 7) (oi := ⟨some 61, _, _, _, _, _⟩) (v := ?qbv7) rfl (by kernel_rfl) (by kernel_rfl) (by kernel_rfl) (fun _ _ _ h => h) (Or.inl ⟨by rfl, ?qbhy7⟩) hHeld ?qbr7
                  case qbhy7 => (intro w hSw; (try dsimp only at hSw); go_simp; (try with_reducible rfl))
                  (try simp only [Act.put, List.setIfInBounds_toArray, List.set_cons_zero, List.set_cons_succ])
                  refine wpAnyH_take (i := 8) (oi := ⟨some 62, _, _, _, _, _⟩) (v := ?qbv8) rfl (by kernel_rfl) (by kernel_rfl) (by kernel_rfl) (fun _ _ _ h => h) (Or.inl ⟨by rfl, ?qbhy8⟩) hHeld ?qbr8
                  case qbhy8 => (intro w hSw; (try dsimp only at hSw); go_simp; (try with_reducible rfl))
                  (try simp only [Act.put, List.setIfInBounds_toArray, List.set_cons_zero, List.set_cons_succ])
                  refine wpAnyH_take (i := 9) (oi := ⟨some 63, _, _, _, _, _⟩) (v := ?qbv9) rfl (by kernel_rfl) (by kernel_rfl) (by kernel_rfl) (fun _ _ _ h => h) (Or.inl ⟨by rfl, ?qbhy9⟩) hHeld ?qbr9
                  case qbhy9 => (intro w hSw; (try dsimp only at hSw); go_simp; (try with_reducible rfl))
                  (try simp only [Act.put, List.setIfInBounds_toArray, List.set_cons_zero, List.set_cons_succ])
                  refine wpAnyH_take (i := 10) (oi := ⟨some 64, _, _, _, _, _⟩) (v := ?qbv10) rfl (by kernel_rfl) (by kernel_rfl) (by kernel_rfl) (fun _ _ _ h => h) (Or.inl ⟨by rfl, ?qbhy10⟩) hHeld ?qbr10
                  case qbhy10 => (intro w hSw; (try dsimp only at hSw); go_simp; (try with_reducible rfl))
                  (try simp only [Act.put, List.setIfInBounds_toArray, List.set_cons_zero, List.set_cons_succ])
                  refine wpAnyH_take (i := 11) (oi := ⟨some 65, _, _, _, _, _⟩) (v := (.pointer (some ⟨g2, off + (k + m) * 3, none⟩))) rfl (by kernel_rfl) (by kernel_rfl) (by kernel_rfl) (fun _ _ _ h => h) (Or.inl ⟨by rfl, ?qbhy11⟩) hHeld ?qbr11
                  case qbhy11 => (intro w hSw; (try dsimp only at hSw); go_simp; (try rfl))
                  (try simp only [Act.put, List.setIfInBounds_toArray, List.set_cons_zero, List.set_cons_succ])
                  refine wpAnyH_take (i := 12) (oi := ⟨some 66, _, _, _, _, _⟩) (v := (.agg y.cells)) rfl (by kernel_rfl) (by kernel_rfl) (by kernel_rfl) (fun _ _ _ h => h) (yields_load (by rfl) 35 _ rfl g2 (off + (k + m) * 3) rfl y.cells _ (fun _ h => h.1) Tryd.underlying35 rfl (by kernel_rfl)) hHeld ?qbr12
                  (try simp only [Act.put, List.setIfInBounds_toArray, List.set_cons_zero, List.set_cons_succ])
                  refine wpAnyH_take (i := 13) (oi := ⟨some 67, _, _, _, _, _⟩) (v := (.agg x.cells)) rfl (by kernel_rfl) (by kernel_rfl) (by kernel_rfl) (fun _ _ _ h => h) (kn_yieldsN (by rfl) 35 _ rfl g7 0 rfl _ 35 (fun _ h => h.2) x.cells rfl _ Tryd.underlying35 rfl (by kernel_rfl)) hHeld ?qbr13
                  (try simp only [Act.put, List.setIfInBounds_toArray, List.set_cons_zero, List.set_cons_succ])
                  refine wpAnyH_take (i := 14) (oi := ⟨some 68, _, _, _, _, _⟩) (v := (.bool false)) rfl (by kernel_rfl) (by kernel_rfl) (by kernel_rfl) (fun _ _ _ h => h) (yields_eqlV (by rfl) 35 _ _ _ rfl y.cells x.cells rfl rfl (by kernel_rfl) false HEQ.out) hHeld ?qbr14
                  (try simp only [Act.put, List.setIfInBounds_toArray, List.set_cons_zero, List.set_cons_succ])
                  refine wpAnyH_take (i := 15) (oi := ⟨some 69, _, _, _, _, _⟩) (v := ?qbv15) rfl (by kernel_rfl) (by kernel_rfl) (by kernel_rfl) (fun _ _ _ h => h) (Or.inl ⟨by rfl, ?qbhy15⟩) hHeld ?qbr15
                  case qbhy15 => (intro w hSw; (try dsimp only at hSw); go_simp; (try with_reducible rfl))
                  (try simp only [Act.put, List.setIfInBounds_toArray, List.set_cons_zero, List.set_cons_succ])
                  refine wpAnyH_done (by kernel_rfl) ?qbdone _
                  clear wkm hin0 hin1 htn hdm
                  go_wp2_with fail
                  go_meet
                  case rel => exact ⟨m, rfl, hm1, hmn, HSD2.out, KN⟩
              · have HSD2 : Hid (sameR x (l.drop (k + 1)) = m - 1) := Lib.hid (by rw [HSM.out, List.drop_eq_nil_of_le (by rw [← HN.out]; omega)]; show m - 1 + 0 = m - 1; omega)
                have hdm : decide ((k : Int) + (m : Int) < (n : Int)) = false := decide_eq_false (by omega)
                go_upto_region 15 with fail
                (try go_frame)
                replace KN := KN.drew
                refine wp_region_held_drew (S := (fun w' => BlkT w' g7 x.cells 35)) (by kernel_rfl) ?qchS (fun hHeld => ?qcrest)
                case qchS => exact KN.at_ (by repeat (first | exact Has.here | refine Has.there ?_))
                refine wpAnyH_take (i := 0) (oi := ⟨some 54, _, _, _, _, _⟩) (v := ?qcv0) rfl (by kernel_rfl) (by kernel_rfl) (by kernel_rfl) (fun _ _ _ h => h) (Or.inl ⟨by rfl, ?qchy0⟩) hHeld ?qcr0
                case qchy0 => (intro w hSw; (try dsimp only at hSw); go_simp; (try with_reducible rfl))
                (try simp only [Act.put, List.setIfInBounds_toArray, List.set_cons_zero, List.set_cons_succ])
                refine wpAnyH_take (i := 1) (oi := ⟨some 55, _, _, _, _, _⟩) (v := ?qcv1) rfl (by kernel_rfl) (by kernel_rfl) (by kernel_rfl) (fun _ _ _ h => h) (Or.inl ⟨by rfl, ?qchy1⟩) hHeld ?qcr1
                case qchy1 => (intro w hSw; (try dsimp only at hSw); go_simp; (try with_reducible rfl))
                (try simp only [Act.put, List.setIfInBounds_toArray, List.set_cons_zero, List.set_cons_succ])
                refine wpAnyH_take (i := 2) (oi := ⟨some 56, _, _, _, _, _⟩) (v := ?qcv2) rfl (by kernel_rfl) (by kernel_rfl) (by kernel_rfl) (fun _ _ _ h => h) (Or.inl ⟨by rfl, ?qchy2⟩) hHeld ?qcr2
                case qchy2 => (intro w hSw; (try dsimp only at hSw); go_simp; (try with_reducible rfl))
                (try simp only [Act.put, List.setIfInBounds_toArray, List.set_cons_zero, List.set_cons_succ])
                refine wpAnyH_take (i := 3) (oi := ⟨some 57, _, _, _, _, _⟩) (v := ?qcv3) rfl (by kernel_rfl) (by kernel_rfl) (by kernel_rfl) (fun _ _ _ h => h) (Or.inl ⟨by rfl, ?qchy3⟩) hHeld ?qcr3
                case qchy3 => (intro w hSw; (try dsimp only at hSw); go_simp; (try with_reducible rfl))
                (try simp only [Act.put, List.setIfInBounds_toArray, List.set_cons_zero, List.set_cons_succ])
                refine wpAnyH_take (i := 4) (oi := ⟨some 58, _, _, _, _, _⟩) (v := ?qcv4) rfl (by kernel_rfl) (by kernel_rfl) (by kernel_rfl) (fun _ _ _ h => h) (Or.inl ⟨by rfl, ?qchy4⟩) hHeld ?qcr4
                case qchy4 => (intro w hSw; (try dsimp only at hSw); go_simp; (try with_reducible rfl))
                (try simp only [Act.put, List.setIfInBounds_toArray, List.set_cons_zero, List.set_cons_succ])
                refine wpAnyH_take (i := 5) (oi := ⟨some 59, _, _, _, _, _⟩) (v := ?qcv5) rfl (by kernel_rfl) (by kernel_rfl) (by kernel_rfl) (fun _ _ _ h => h) (Or.inl ⟨by rfl, ?qchy5⟩) hHeld ?qcr5
                case qchy5 => (intro w hSw; (try dsimp only at hSw); go_simp; (try with_reducible rfl))
                (try simp only [Act.put, List.setIfInBounds_toArray, List.set_cons_zero, List.set_cons_succ])
                refine wpAnyH_take (i := 6) (oi := ⟨some 60, _, _, _, _, _⟩) (v := ?qcv6) rfl (by kernel_rfl) (by kernel_rfl) (by kernel_rfl) (fun _ _ _ h => h) (Or.inl ⟨by rfl, ?qchy6⟩) hHeld ?qcr6
                case qchy6 => (intro w hSw; (try dsimp only at hSw); go_simp; (try with_reducible rfl))
                (try simp only [Act.put, List.setIfInBounds_toArray, List.set_cons_zero, List.set_cons_succ])
                refine wpAnyH_take (i := 7) (oi := ⟨some 61, _, _, _, _, _⟩) (v := undef) rfl (by kernel_rfl) (by kernel_rfl) (by kernel_rfl) (fun _ _ _ h => h) (Or.inr ⟨by rfl, rfl⟩) hHeld ?qcr7
                (try simp only [Act.put, List.setIfInBounds_toArray, List.set_cons_zero, List.set_cons_succ])
                refine wpAnyH_take (i := 8) (oi := ⟨some 62, _, _, _, _, _⟩) (v := undef) rfl (by kernel_rfl) (by kernel_rfl) (by kernel_rfl) (fun _ _ _ h => h) (Or.inr ⟨by rfl, rfl⟩) hHeld ?qcr8
                (try simp only [Act.put, List.setIfInBounds_toArray, List.set_cons_zero, List.set_cons_succ])
                refine wpAnyH_take (i := 9) (oi := ⟨some 63, _, _, _, _, _⟩) (v := undef) rfl (by kernel_rfl) (by kernel_rfl) (by kernel_rfl) (fun _ _ _ h => h) (Or.inr ⟨by rfl, rfl⟩) hHeld ?qcr9
                (try simp only [Act.put, List.setIfInBounds_toArray, List.set_cons_zero, List.set_cons_succ])
                refine wpAnyH_take (i := 10) (oi := ⟨some 64, _, _, _, _, _⟩) (v := undef) rfl (by kernel_rfl) (by kernel_rfl) (by kernel_rfl) (fun _ _ _ h => h) (Or.inr ⟨by rfl, rfl⟩) hHeld ?qcr10
                (try simp only [Act.put, List.setIfInBounds_toArray, List.set_cons_zero, List.set_cons_succ])
                refine wpAnyH_take (i := 11) (oi := ⟨some 65, _, _, _, _, _⟩) (v := undef) rfl (by kernel_rfl) (by kernel_rfl) (by kernel_rfl) (fun _ _ _ h => h) (Or.inr ⟨by rfl, rfl⟩) hHeld ?qcr11
                (try simp only [Act.put, List.setIfInBounds_toArray, List.set_cons_zero, List.set_cons_succ])
                refine wpAnyH_take (i := 12) (oi := ⟨some 66, _, _, _, _, _⟩) (v := undef) rfl (by kernel_rfl) (by kernel_rfl) (by kernel_rfl) (fun _ _ _ h => h) (Or.inr ⟨by rfl, rfl⟩) hHeld ?qcr12
                (try simp only [Act.put, List.setIfInBounds_toArray, List.set_cons_zero, List.set_cons_succ])
                refine wpAnyH_take (i := 13) (oi := ⟨some 67, _, _, _, _, _⟩) (v := undef) rfl (by kernel_rfl) (by kernel_rfl) (by kernel_rfl) (fun _ _ _ h => h) (Or.inr ⟨by rfl, rfl⟩) hHeld ?qcr13
                (try simp only [Act.put, List.setIfInBounds_toArray, List.set_cons_zero, List.set_cons_succ])
                refine wpAnyH_take (i := 14) (oi := ⟨some 68, _, _, _, _, _⟩) (v := undef) rfl (by kernel_rfl) (by kernel_rfl) (by kernel_rfl) (fun _ _ _ h => h) (Or.inr ⟨by rfl, rfl⟩) hHeld ?qcr14
                (try simp only [Act.put, List.setIfInBounds_toArray, List.set_cons_zero, List.set_cons_succ])
                refine wpAnyH_take (i := 15) (oi := ⟨some 69, _, _, _, _, _⟩) (v := ?qcv15) rfl (by kernel_rfl) (by kernel_rfl) (by kernel_rfl) (fun _ _ _ h => h) (Or.inl ⟨by rfl, ?qchy15⟩) hHeld ?qcr15
                case qchy15 => (intro w hSw; (try dsimp only at hSw); go_simp; (try with_reducible rfl))
                (try simp only [Act.put, List.setIfInBounds_toArray, List.set_cons_zero, List.set_cons_succ])
                refine wpAnyH_done (by kernel_rfl) ?qcdone _
                go_wp2_with fail
                go_meet
                case rel => exact ⟨m, rfl, hm1, hmn, HSD2.out, KN⟩
          case rest =>
            clear KN
            obtain ⟨m, rfl, hm1, hmn, hsm, KN⟩ := hcut
            have HC : Hid (m = 1 + sameR x (l.drop (k + 1))) := Lib.hid (by omega)
            clear hsm
            have HBD2 := HBD.out
            obtain ⟨⟨k1', k8'⟩, ⟨c0, c1⟩, n0, n1⟩ := HBD2
            clear k1' k8'
            have HTA : Hid ((t ++ cntT m).length ≤ 8000100) := Lib.hid (by rw [List.length_append]; have h1 := HTL.out; have h2 := cntT_len m (by omega); omega)
            have HTB : Hid ((t ++ cntT m ++ verbL.getD (x.ev.kind - 1) []).length ≤ 8000200) := Lib.hid (by rw [List.length_append]; have h1 := HTA.out; have h2 := verb_len (x.ev.kind - 1); omega)
            have HLC : Hid ((coreT x.ev).length ≤ 21) := Lib.hid (by
              unfold coreT
              split
              · have := numT_len c0 c1; show (numT x.core).length + 1 ≤ 21; omega
              · exact Nat.zero_le _)
            have HLN : Hid ((numbT x.ev).length ≤ 21) := Lib.hid (by
              unfold numbT
              split
              · have := numT_len n0 n1; show (numT x.n).length + 1 ≤ 21; omega
              · exact Nat.zero_le _)
            have HTC : Hid ((t ++ cntT m ++ verbL.getD (x.ev.kind - 1) [] ++ coreT x.ev).length ≤ 8000300) := Lib.hid (by
              rw [List.length_append]
              have h1 := HTB.out
              have h2 := HLC.out
              omega)
            have HTD : Hid ((t ++ cntT m ++ verbL.getD (x.ev.kind - 1) [] ++ coreT x.ev ++ numbT x.ev).length ≤ 8000400) := Lib.hid (by
              rw [List.length_append]
              have h1 := HTC.out
              have h2 := HLN.out
              omega)
            have HT80 : Hid ((t ++ evLine x.ev m).length ≤ 80 * (k + m)) := Lib.hid (by
              have h0 := HTL.out
              have h1 := cntT_len m (by omega)
              have h2 := verb_len (x.ev.kind - 1)
              have h3 := HLC.out
              have h4 := HLN.out
              rw [← evLine_eq]
              simp only [List.length_append]
              show t.length + (cntT m).length + _ + _ + _ + 2 ≤ _
              omega)
            replace KN := KN.mv g5
            go_upto_if 73 with (first | ((with_reducible refine wpList_gate ?_); first | ((with_reducible refine gate_load ?_ ?_); rfl; first | (refine ks_loadW KN 35 Tryd.underlying35 ?_) | (refine ks_load1 KN 3 Tryd.underlying3 ?_) | (refine ks_loadW KN 68 Tryd.underlying68 ?_) | (refine ks_load1 KN 4 Tryd.underlying4 ?_) | (refine ks_load1 KN 9 Tryd.underlying9 ?_)) | ((with_reducible refine gate_store ?_ ?_); rfl; first | (refine ks_storeW KN 35 ?_; clear KN; intro wx KN) | (refine ks_storeA KN 35 ?_; clear KN; intro wx KN) | (refine ks_storeW KN 68 ?_; clear KN; intro wx KN) | (refine ks_storeA KN 68 ?_; clear KN; intro wx KN)) | ((with_reducible refine gate_new ?_ ?_); rfl; first | (refine ks_alloc KN 66 (q := 5) #[.pointer none, .slice none 0 0] ?_; clear KN; intro g5 wx hg5 KN) | (refine ks_alloc KN 35 (q := 7) #[.int .i64 0, .int .i64 0, .int .i64 0] ?_; clear KN; intro g7 wx hg7 KN) | (refine ks_alloc KN 68 (q := 8) #[.string ByteArray.empty, .bool false, .bool false] ?_; clear KN; intro g8 wx hg8 KN))))
            (try go_frame)
            go_cut [73] (fun _ wz => FmtPS (t ++ cntT m) gf g5 g7 g8 x #[.string um, .bool bc, .bool bn] w wz)
            case first =>
              by_cases hc1c : 1 < m
              · have hd1 : decide (1 < (m : Int)) = true := decide_eq_true (by omega)
                obtain ⟨ui, hui⟩ : ∃ u, u = str (numL 10 m) := ⟨_, rfl⟩
                have us : ui.size ≤ 20 := by rw [hui, str_size]; exact numL_le (by omega)
                have HUI : Hid (str (numL 10 (m : Int).toNat) = ui) := Lib.hid (by rw [hui]; rfl)
                have HRS : Hid (ui ++ ({ data := #[32, 42, 32] } : ByteArray) = str (cntT m)) := Lib.hid (by
                  unfold cntT
                  rw [if_pos hc1c, hui, ← str_app]; rfl)
                rw [hd1]
                clear hui hc1c
                go_wp2_with (first | (go_at_call 29; refine (Itoa_nat _ (by omega) (by omega) _ (HPW.out.below KN.toBelow)).mono ?_; rintro e wx ⟨rfl, hb⟩; rw [HUI.out]; replace KN := KN.below hb; clear hb) | (go_at_call 28; refine (WriteString_kn (f := fun o => (g8, _) :: (g7, _) :: (gf, _) :: o) _ KN HPB.out HO.out (.cons _ (.cons _ (.cons _ .id))) (by rw [bytesL_len, HRS.out, str_size]; have h1 := HTL.out; have h2 := cntT_len m (by omega); omega)).mono ?_; rw [HRS.out]; rintro e wx ⟨rfl, v4, ol4, OW4, K2⟩; clear KN; have KN := K2; clear K2; have HO4 := Lib.hid OW4; clear OW4) | ((with_reducible refine wpList_gate ?_); first | ((with_reducible refine gate_load ?_ ?_); rfl; first | (refine ks_loadW KN 35 Tryd.underlying35 ?_) | (refine ks_load1 KN 3 Tryd.underlying3 ?_) | (refine ks_loadW KN 68 Tryd.underlying68 ?_) | (refine ks_load1 KN 4 Tryd.underlying4 ?_) | (refine ks_load1 KN 9 Tryd.underlying9 ?_)) | ((with_reducible refine gate_store ?_ ?_); rfl; first | (refine ks_storeW KN 35 ?_; clear KN; intro wx KN) | (refine ks_storeA KN 35 ?_; clear KN; intro wx KN) | (refine ks_storeW KN 68 ?_; clear KN; intro wx KN) | (refine ks_storeA KN 68 ?_; clear KN; intro wx KN)) | ((with_reducible refine gate_new ?_ ?_); rfl; first | (refine ks_alloc KN 66 (q := 5) #[.pointer none, .slice none 0 0] ?_; clear KN; intro g5 wx hg5 KN) | (refine ks_alloc KN 35 (q := 7) #[.int .i64 0, .int .i64 0, .int .i64 0] ?_; clear KN; intro g7 wx hg7 KN) | (refine ks_alloc KN 68 (q := 8) #[.string ByteArray.empty, .bool false, .bool false] ?_; clear KN; intro g8 wx hg8 KN))))
                go_meet
                case rel => exact ⟨_, v4, ol4, .inr rfl, by rw [bytesL_app, ← bytesL_str (cntT m)]; exact HO4.out, KN⟩
              · have hd1 : decide (1 < (m : Int)) = false := decide_eq_false (by omega)
                have HRS : Hid (t ++ cntT m = t) := Lib.hid (by
                  unfold cntT
                  rw [if_neg hc1c, List.append_nil])
                rw [hd1]
                go_wp2_with fail
                go_meet
                case rel => exact ⟨pb, vb, ol, HPB.out, by rw [HRS.out]; exact HO.out, KN⟩
            case rest =>
              clear KN HO HPB
              obtain ⟨pb, vb, ol, hpb, OW, KN⟩ := hcut
              have HPB := Lib.hid hpb
              have HO := Lib.hid OW
              clear hpb OW
              go_upto_if 82 with (first | (go_at_call 28; refine (WriteString_kn (f := fun o => (g8, _) :: (g7, _) :: (gf, _) :: o) um KN HPB.out HO.out (.cons _ (.cons _ (.cons _ .id))) (by rw [bytesL_len]; have h1 := HTA.out; omega)).mono ?_; rintro e wx ⟨rfl, v4, ol4, OW4, K2⟩; clear KN; have KN := K2; clear K2; have HO4 := Lib.hid OW4; clear OW4) | ((with_reducible refine wpList_gate ?_); first | ((with_reducible refine gate_load ?_ ?_); rfl; first | (refine ks_loadW KN 35 Tryd.underlying35 ?_) | (refine ks_load1 KN 3 Tryd.underlying3 ?_) | (refine ks_loadW KN 68 Tryd.underlying68 ?_) | (refine ks_load1 KN 4 Tryd.underlying4 ?_) | (refine ks_load1 KN 9 Tryd.underlying9 ?_)) | ((with_reducible refine gate_store ?_ ?_); rfl; first | (refine ks_storeW KN 35 ?_; clear KN; intro wx KN) | (refine ks_storeA KN 35 ?_; clear KN; intro wx KN) | (refine ks_storeW KN 68 ?_; clear KN; intro wx KN) | (refine ks_storeA KN 68 ?_; clear KN; intro wx KN)) | ((with_reducible refine gate_new ?_ ?_); rfl; first | (refine ks_alloc KN 66 (q := 5) #[.pointer none, .slice none 0 0] ?_; clear KN; intro g5 wx hg5 KN) | (refine ks_alloc KN 35 (q := 7) #[.int .i64 0, .int .i64 0, .int .i64 0] ?_; clear KN; intro g7 wx hg7 KN) | (refine ks_alloc KN 68 (q := 8) #[.string ByteArray.empty, .bool false, .bool false] ?_; clear KN; intro g8 wx hg8 KN))))
              (try go_frame)
              have HO5 : Hid (OwnT 5 1 v4 (bytesL (t ++ cntT m ++ verbL.getD (x.ev.kind - 1) [])) ol4) := Lib.hid (by rw [bytesL_app, ← bytesL_str (verbL.getD (x.ev.kind - 1) []), ← HUM.out]; exact HO4.out)
              clear HO4
              go_cut [82] (fun _ wz => FmtPS (t ++ cntT m ++ verbL.getD (x.ev.kind - 1) [] ++ coreT x.ev) gf g5 g7 g8 x #[.string um, .bool bc, .bool bn] w wz)
              case first =>
                cases hb : bc with
                | true =>
                  obtain ⟨ui, hui⟩ : ∃ u, u = str (numT x.core) := ⟨_, rfl⟩
                  have us : ui.size ≤ 20 := by rw [hui, str_size]; exact numT_len c0 c1
                  have HUI : Hid (str (numL 10 x.core.toNat) = ui) := Lib.hid hui.symm
                  have HRS : Hid (({ data := #[32] } : ByteArray) ++ ui = str (coreT x.ev)) := Lib.hid (by
                    rw [show coreT x.ev = [32] ++ numT x.core from by unfold coreT; rw [← HBC.out, hb]; rfl, ← str_app, hui]; rfl)
                  clear hui hb
                  go_wp2_with (first | (go_at_call 29; refine (Itoa_nat _ (by omega) (by omega) _ (HPW.out.below KN.toBelow)).mono ?_; rintro e wx ⟨rfl, hb⟩; rw [HUI.out]; replace KN := KN.below hb; clear hb) | (go_at_call 28; refine (WriteString_kn (f := fun o => (g8, _) :: (g7, _) :: (gf, _) :: o) _ KN (.inr rfl) HO5.out (.cons _ (.cons _ (.cons _ .id))) (by rw [bytesL_len, HRS.out, str_size]; have h1 := HTB.out; have h2 := HLC.out; omega)).mono ?_; rw [HRS.out]; rintro e wx ⟨rfl, v6, ol6, OW6, K2⟩; clear KN; have KN := K2; clear K2; have HO6 := Lib.hid OW6; clear OW6) | ((with_reducible refine wpList_gate ?_); first | ((with_reducible refine gate_load ?_ ?_); rfl; first | (refine ks_loadW KN 35 Tryd.underlying35 ?_) | (refine ks_load1 KN 3 Tryd.underlying3 ?_) | (refine ks_loadW KN 68 Tryd.underlying68 ?_) | (refine ks_load1 KN 4 Tryd.underlying4 ?_) | (refine ks_load1 KN 9 Tryd.underlying9 ?_)) | ((with_reducible refine gate_store ?_ ?_); rfl; first | (refine ks_storeW KN 35 ?_; clear KN; intro wx KN) | (refine ks_storeA KN 35 ?_; clear KN; intro wx KN) | (refine ks_storeW KN 68 ?_; clear KN; intro wx KN) | (refine ks_storeA KN 68 ?_; clear KN; intro wx KN)) | ((with_reducible refine gate_new ?_ ?_); rfl; first | (refine ks_alloc KN 66 (q := 5) #[.pointer none, .slice none 0 0] ?_; clear KN; intro g5 wx hg5 KN) | (refine ks_alloc KN 35 (q := 7) #[.int .i64 0, .int .i64 0, .int .i64 0] ?_; clear KN; intro g7 wx hg7 KN) | (refine ks_alloc KN 68 (q := 8) #[.string ByteArray.empty, .bool false, .bool false] ?_; clear KN; intro g8 wx hg8 KN))))
                  go_meet
                  case rel => exact ⟨_, v6, ol6, .inr rfl, by rw [bytesL_app, ← bytesL_str (coreT x.ev)]; exact HO6.out, KN⟩
                | false =>
                  have HRS : Hid (t ++ cntT m ++ verbL.getD (x.ev.kind - 1) [] ++ coreT x.ev = t ++ cntT m ++ verbL.getD (x.ev.kind - 1) []) := Lib.hid (by
                    rw [show coreT x.ev = [] from by unfold coreT; rw [← HBC.out, hb]; rfl, List.append_nil])
                  clear hb
                  go_wp2_with fail
                  go_meet
                  case rel => exact ⟨_, v4, ol4, .inr rfl, by rw [HRS.out]; exact HO5.out, KN⟩
              case rest =>
                clear KN HO HPB HO5
                obtain ⟨pb, vb, ol, hpb, OW, KN⟩ := hcut
                have HPB := Lib.hid hpb
                have HO := Lib.hid OW
                clear hpb OW
                go_upto_if 89 with (first | ((with_reducible refine wpList_gate ?_); first | ((with_reducible refine gate_load ?_ ?_); rfl; first | (refine ks_loadW KN 35 Tryd.underlying35 ?_) | (refine ks_load1 KN 3 Tryd.underlying3 ?_) | (refine ks_loadW KN 68 Tryd.underlying68 ?_) | (refine ks_load1 KN 4 Tryd.underlying4 ?_) | (refine ks_load1 KN 9 Tryd.underlying9 ?_)) | ((with_reducible refine gate_store ?_ ?_); rfl; first | (refine ks_storeW KN 35 ?_; clear KN; intro wx KN) | (refine ks_storeA KN 35 ?_; clear KN; intro wx KN) | (refine ks_storeW KN 68 ?_; clear KN; intro wx KN) | (refine ks_storeA KN 68 ?_; clear KN; intro wx KN)) | ((with_reducible refine gate_new ?_ ?_); rfl; first | (refine ks_alloc KN 66 (q := 5) #[.pointer none, .slice none 0 0] ?_; clear KN; intro g5 wx hg5 KN) | (refine ks_alloc KN 35 (q := 7) #[.int .i64 0, .int .i64 0, .int .i64 0] ?_; clear KN; intro g7 wx hg7 KN) | (refine ks_alloc KN 68 (q := 8) #[.string ByteArray.empty, .bool false, .bool false] ?_; clear KN; intro g8 wx hg8 KN))))
                (try go_frame)
                go_cut [89] (fun _ wz => FmtPS (t ++ cntT m ++ verbL.getD (x.ev.kind - 1) [] ++ coreT x.ev ++ numbT x.ev) gf g5 g7 g8 x #[.string um, .bool bc, .bool bn] w wz)
                case first =>
                  cases hb : bn with
                  | true =>
                    obtain ⟨ui, hui⟩ : ∃ u, u = str (numT x.n) := ⟨_, rfl⟩
                    have us : ui.size ≤ 20 := by rw [hui, str_size]; exact numT_len n0 n1
                    have HUI : Hid (str (numL 10 x.n.toNat) = ui) := Lib.hid hui.symm
                    have HRS : Hid (({ data := #[32] } : ByteArray) ++ ui = str (numbT x.ev)) := Lib.hid (by
                      rw [show numbT x.ev = [32] ++ numT x.n from by unfold numbT; rw [← HBN.out, hb]; rfl, ← str_app, hui]; rfl)
                    clear hui hb
                    go_wp2_with (first | (go_at_call 29; refine (Itoa_nat _ (by omega) (by omega) _ (HPW.out.below KN.toBelow)).mono ?_; rintro e wx ⟨rfl, hb⟩; rw [HUI.out]; replace KN := KN.below hb; clear hb) | (go_at_call 28; refine (WriteString_kn (f := fun o => (g8, _) :: (g7, _) :: (gf, _) :: o) _ KN HPB.out HO.out (.cons _ (.cons _ (.cons _ .id))) (by rw [bytesL_len, HRS.out, str_size]; have h1 := HTC.out; have h2 := HLN.out; omega)).mono ?_; rw [HRS.out]; rintro e wx ⟨rfl, v6, ol6, OW6, K2⟩; clear KN; have KN := K2; clear K2; have HO6 := Lib.hid OW6; clear OW6) | ((with_reducible refine wpList_gate ?_); first | ((with_reducible refine gate_load ?_ ?_); rfl; first | (refine ks_loadW KN 35 Tryd.underlying35 ?_) | (refine ks_load1 KN 3 Tryd.underlying3 ?_) | (refine ks_loadW KN 68 Tryd.underlying68 ?_) | (refine ks_load1 KN 4 Tryd.underlying4 ?_) | (refine ks_load1 KN 9 Tryd.underlying9 ?_)) | ((with_reducible refine gate_store ?_ ?_); rfl; first | (refine ks_storeW KN 35 ?_; clear KN; intro wx KN) | (refine ks_storeA KN 35 ?_; clear KN; intro wx KN) | (refine ks_storeW KN 68 ?_; clear KN; intro wx KN) | (refine ks_storeA KN 68 ?_; clear KN; intro wx KN)) | ((with_reducible refine gate_new ?_ ?_); rfl; first | (refine ks_alloc KN 66 (q := 5) #[.pointer none, .slice none 0 0] ?_; clear KN; intro g5 wx hg5 KN) | (refine ks_alloc KN 35 (q := 7) #[.int .i64 0, .int .i64 0, .int .i64 0] ?_; clear KN; intro g7 wx hg7 KN) | (refine ks_alloc KN 68 (q := 8) #[.string ByteArray.empty, .bool false, .bool false] ?_; clear KN; intro g8 wx hg8 KN))))
                    go_meet
                    case rel => exact ⟨_, v6, ol6, .inr rfl, by rw [bytesL_app, ← bytesL_str (numbT x.ev)]; exact HO6.out, KN⟩
                  | false =>
                    have HRS : Hid (t ++ cntT m ++ verbL.getD (x.ev.kind - 1) [] ++ coreT x.ev ++ numbT x.ev = t ++ cntT m ++ verbL.getD (x.ev.kind - 1) [] ++ coreT x.ev) := Lib.hid (by
                      rw [show numbT x.ev = [] from by unfold numbT; rw [← HBN.out, hb]; rfl, List.append_nil])
                    clear hb
                    go_wp2_with fail
                    go_meet
                    case rel => exact ⟨pb, vb, ol, HPB.out, by rw [HRS.out]; exact HO.out, KN⟩
                case rest =>
                  clear KN HO HPB
                  obtain ⟨pb, vb, ol, hpb, OW, KN⟩ := hcut
                  have HPB := Lib.hid hpb
                  have HO := Lib.hid OW
                  have HRN : Hid (r0 = (fmtFromR f (l.drop (k + m))).map ((t ++ evLine x.ev m) ++ ·)) := Lib.hid (by
                    have h1 := HSTEP.out
                    rw [← HC.out] at h1
                    rw [HR.out, h1, Option.map_map]
                    congr 1
                    funext z
                    exact (List.append_assoc _ _ _).symm)
                  clear hpb OW
                  go_wp2_with (first | (go_at_call 28; refine (WriteString_kn (f := fun o => (g8, _) :: (g7, _) :: (gf, _) :: o) (str [59, 10]) KN HPB.out HO.out (.cons _ (.cons _ (.cons _ .id))) (by rw [bytesL_len, str_size]; have h1 := HTD.out; show _ + 2 ≤ _; omega)).mono ?_; rintro e wx ⟨rfl, v6, ol6, OW6, K2⟩; clear KN; have KN := K2; clear K2; have HO6 := Lib.hid OW6; clear OW6) | ((with_reducible refine wpList_gate ?_); first | ((with_reducible refine gate_load ?_ ?_); rfl; first | (refine ks_loadW KN 35 Tryd.underlying35 ?_) | (refine ks_load1 KN 3 Tryd.underlying3 ?_) | (refine ks_loadW KN 68 Tryd.underlying68 ?_) | (refine ks_load1 KN 4 Tryd.underlying4 ?_) | (refine ks_load1 KN 9 Tryd.underlying9 ?_)) | ((with_reducible refine gate_store ?_ ?_); rfl; first | (refine ks_storeW KN 35 ?_; clear KN; intro wx KN) | (refine ks_storeA KN 35 ?_; clear KN; intro wx KN) | (refine ks_storeW KN 68 ?_; clear KN; intro wx KN) | (refine ks_storeA KN 68 ?_; clear KN; intro wx KN)) | ((with_reducible refine gate_new ?_ ?_); rfl; first | (refine ks_alloc KN 66 (q := 5) #[.pointer none, .slice none 0 0] ?_; clear KN; intro g5 wx hg5 KN) | (refine ks_alloc KN 35 (q := 7) #[.int .i64 0, .int .i64 0, .int .i64 0] ?_; clear KN; intro g7 wx hg7 KN) | (refine ks_alloc KN 68 (q := 8) #[.string ByteArray.empty, .bool false, .bool false] ?_; clear KN; intro g8 wx hg8 KN))))
                  go_roundw
                  case rel => exact ⟨f, k + m, t ++ evLine x.ev m, _, v6, ol6, by go_num, HRN.out, by omega, hmn, HT80.out, .inr rfl, by rw [← evLine_eq, bytesL_app, ← bytesL_str [59, 10]]; exact HO6.out, (KN.drop (.there .here)).drop (.there .here)⟩
                  case measure => simp [intOf]; omega
        · have HQ := Lib.hid (HBAD.out (by rw [HR.out, fmtFromR_bad HX.out (by rw [HOKQ.out, ho1]; simpa using ho2)]; rfl))
          have ho3 : numOk bn x.n = false := by simpa using ho2
          clear ho2
          go_wp2_with (first | (go_at_call 27; refine (fright_any _ _ _).mono ?_; rintro e9 wx ⟨rfl, rfl⟩) | ((with_reducible refine wpList_gate ?_); first | ((with_reducible refine gate_load ?_ ?_); rfl; first | (refine wpList_kn_oldN KN (by rfl) 35 _ rfl g2 _ rfl x.cells RNG.out hgb (by simp) _ Tryd.underlying35 rfl (by kernel_rfl) ?_) | (refine wpList_kn_loadN KN (by rfl) 68 _ rfl gf ((x.kind.toNat - 1) * 3) rfl formA _ (by repeat (first | exact Has.here | refine Has.there ?_)) #[.string um, .bool bc, .bool bn] HFG.out _ Tryd.underlying68 rfl (by kernel_rfl) ?_) | (refine ks_loadW KN 35 Tryd.underlying35 ?_) | (refine ks_load1 KN 3 Tryd.underlying3 ?_) | (refine ks_loadW KN 68 Tryd.underlying68 ?_) | (refine ks_load1 KN 4 Tryd.underlying4 ?_) | (refine ks_load1 KN 9 Tryd.underlying9 ?_)) | ((with_reducible refine gate_store ?_ ?_); rfl; first | (refine ks_storeW KN 35 ?_; clear KN; intro wx KN) | (refine ks_storeA KN 35 ?_; clear KN; intro wx KN) | (refine ks_storeW KN 68 ?_; clear KN; intro wx KN) | (refine ks_storeA KN 68 ?_; clear KN; intro wx KN)) | ((with_reducible refine gate_new ?_ ?_); rfl; first | (refine ks_alloc KN 66 (q := 5) #[.pointer none, .slice none 0 0] ?_; clear KN; intro g5 wx hg5 KN) | (refine ks_alloc KN 35 (q := 7) #[.int .i64 0, .int .i64 0, .int .i64 0] ?_; clear KN; intro g7 wx hg7 KN) | (refine ks_alloc KN 68 (q := 8) #[.string ByteArray.empty, .bool false, .bool false] ?_; clear KN; intro g8 wx hg8 KN))))
          go_ret
          exact ⟨by rw [← HQ.out]; rfl, KN.toBelow⟩
      · have HQ := Lib.hid (HBAD.out (by rw [HR.out, fmtFromR_bad HX.out (by rw [HOKQ.out]; simp [ho1])]; rfl))
        have ho3 : numOk bc x.core = false := by simpa using ho1
        clear ho1
        go_wp2_with (first | (go_at_call 27; refine (fright_any _ _ _).mono ?_; rintro e9 wx ⟨rfl, rfl⟩) | ((with_reducible refine wpList_gate ?_); first | ((with_reducible refine gate_load ?_ ?_); rfl; first | (refine wpList_kn_oldN KN (by rfl) 35 _ rfl g2 _ rfl x.cells RNG.out hgb (by simp) _ Tryd.underlying35 rfl (by kernel_rfl) ?_) | (refine wpList_kn_loadN KN (by rfl) 68 _ rfl gf ((x.kind.toNat - 1) * 3) rfl formA _ (by repeat (first | exact Has.here | refine Has.there ?_)) #[.string um, .bool bc, .bool bn] HFG.out _ Tryd.underlying68 rfl (by kernel_rfl) ?_) | (refine ks_loadW KN 35 Tryd.underlying35 ?_) | (refine ks_load1 KN 3 Tryd.underlying3 ?_) | (refine ks_loadW KN 68 Tryd.underlying68 ?_) | (refine ks_load1 KN 4 Tryd.underlying4 ?_) | (refine ks_load1 KN 9 Tryd.underlying9 ?_)) | ((with_reducible refine gate_store ?_ ?_); rfl; first | (refine ks_storeW KN 35 ?_; clear KN; intro wx KN) | (refine ks_storeA KN 35 ?_; clear KN; intro wx KN) | (refine ks_storeW KN 68 ?_; clear KN; intro wx KN) | (refine ks_storeA KN 68 ?_; clear KN; intro wx KN)) | ((with_reducible refine gate_new ?_ ?_); rfl; first | (refine ks_alloc KN 66 (q := 5) #[.pointer none, .slice none 0 0] ?_; clear KN; intro g5 wx hg5 KN) | (refine ks_alloc KN 35 (q := 7) #[.int .i64 0, .int .i64 0, .int .i64 0] ?_; clear KN; intro g7 wx hg7 KN) | (refine ks_alloc KN 68 (q := 8) #[.string ByteArray.empty, .bool false, .bool false] ?_; clear KN; intro g8 wx hg8 KN))))
        go_ret
        exact ⟨by rw [← HQ.out]; rfl, KN.toBelow⟩
    · have HQ : Hid (str t = res) := Lib.hid (by
        refine HOUT.out t ?_
        rw [HR.out, fmtFromR_none _ _ _ (by rw [← HN.out]; omega)]
        simp)
      go_wp2_with (first | (go_at_call 30; refine (Tryd.Builder_String_any w.heap.size g5 t _ (Kn.isBuilder (f := fun o => (gf, _) :: o) KN HO.out (.cons _ .id) HPB.out) KN.size).mono ?_; rintro e w1 ⟨rfl, hb⟩) | ((with_reducible refine wpList_gate ?_); first | ((with_reducible refine gate_load ?_ ?_); rfl; first | (refine ks_loadW KN 35 Tryd.underlying35 ?_) | (refine ks_load1 KN 3 Tryd.underlying3 ?_) | (refine ks_loadW KN 68 Tryd.underlying68 ?_) | (refine ks_load1 KN 4 Tryd.underlying4 ?_) | (refine ks_load1 KN 9 Tryd.underlying9 ?_)) | ((with_reducible refine gate_store ?_ ?_); rfl; first | (refine ks_storeW KN 35 ?_; clear KN; intro wx KN) | (refine ks_storeA KN 35 ?_; clear KN; intro wx KN) | (refine ks_storeW KN 68 ?_; clear KN; intro wx KN) | (refine ks_storeA KN 68 ?_; clear KN; intro wx KN)) | ((with_reducible refine gate_new ?_ ?_); rfl; first | (refine ks_alloc KN 66 (q := 5) #[.pointer none, .slice none 0 0] ?_; clear KN; intro g5 wx hg5 KN) | (refine ks_alloc KN 35 (q := 7) #[.int .i64 0, .int .i64 0, .int .i64 0] ?_; clear KN; intro g7 wx hg7 KN) | (refine ks_alloc KN 68 (q := 8) #[.string ByteArray.empty, .bool false, .bool false] ?_; clear KN; intro g8 wx hg8 KN))))
      go_ret
      exact ⟨by rw [← HQ.out]; rfl, KN.toBelow.trans hb⟩
end Go.Proofs.YtgeeklgojjcdmaaDoor
