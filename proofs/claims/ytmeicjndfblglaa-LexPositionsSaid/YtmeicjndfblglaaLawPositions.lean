/- LexPositions' walk. -/
import Derived.Test.YtmeicjndfblglaaPosPlain
namespace Go.Proofs.Ytmeicjndfblglaa
open Go.RowKit

theorem TokSlice.one (w : World) (t : Tok) (cap m : Nat) (hm : m = w.heap.size) : TokSlice (w.alloc (.cells #[.int .i64 t.raw.kind, .string (str t.raw.text), .int .u64 t.raw.value, .int .i64 t.line, .int .i64 t.col] 37)) (.slice (some ⟨m, 0, none⟩) 1 cap) 1 [t] := by
  subst hm
  have h := heap_alloc_new w (.cells #[.int .i64 t.raw.kind, .string (str t.raw.text), .int .u64 t.raw.value, .int .i64 t.line, .int .i64 t.col] 37)
  obtain ⟨a0, a1, a2, a3, a4, _, _, hz⟩ := cells5 h
  refine ⟨rfl, .inr ⟨_, 0, cap, rfl, by omega, hz, fun i u hu => ?_⟩⟩
  cases i with
  | zero => simp at hu; subst hu; exact ⟨a0, a1, a2, a3, a4⟩
  | succ i => simp at hu
/-- What the loop holds: the end, how many tokens are still to come. -/
def PosRel (s : ByteArray) (d : List (Nat × Raw)) (w1 : World) (en i : Value) (wr : World) : Prop :=
  ∃ (m c : Nat), m ≤ s.size ∧ c ≤ d.length ∧ en = .int .i64 m ∧ i = .int .i64 ((c : Int) - 1) ∧ scanK (s.data.toList.take m) = (d.take c, none) ∧ Below w1.heap.size w1 wr

set_option maxRecDepth 100000 in
set_option maxHeartbeats 4000000 in
theorem LexPositions_any (s : ByteArray) (w : World) (hs : s.size ≤ maxLen) :
    Calls Try.prog 4 #[.string s] w fun e w' => e = .returned (.bool true) ∧ Below w.heap.size w w' := by
  have HS := Lib.hid hs
  unfold maxLen at hs
  by_cases hbig : 1000 < s.size
  · go_enter Try.func4, Try.ntmps4
    go_wp2_with (go_at_call 10; refine (awake_any _).mono ?_; rintro e w' ⟨rfl, hb⟩)
    go_ret
    exact ⟨rfl, by assumption⟩
  · have hpl := scanRes_place (l := s.data.toList) (by rw [data_len]; omega)
    cases hk : scanK s.data.toList with
    | mk d xo =>
      cases xo with
      | some v =>
        obtain ⟨k, er⟩ := v
        have he := (scanK_err _ d k er hk).1
        rw [hk] at hpl
        simp only at hpl
        have HR := Lib.hid hpl
        have be : (er != 0) = true := by rw [bne_iff_ne]; exact he
        clear hpl hk he
        go_enter Try.func4, Try.ntmps4
        go_wp2_with fail
        refine (ScanP_any s _ HS.out).mono ?_
        intro e w1 hp
        obtain ⟨va, rfl, hta, hb1⟩ := scan_post HR.out hp
        have HB1 := Lib.hid hb1
        have hz1 := hb1.size
        have hva : ∃ sa cap, va = .slice sa 0 cap := by
          rcases hta.2 with ⟨_, h⟩ | ⟨g, o, c, h, _⟩
          · exact ⟨_, _, h⟩
          · exact ⟨_, _, h⟩
        obtain ⟨sa, cap, rfl⟩ := hva
        clear hta hb1 hp
        go_wp2_with (go_at_call 10; refine (awake_any _).mono ?_; rintro e w2 ⟨rfl, hb2⟩)
        go_ret
        refine ⟨rfl, ?_⟩
        have c1 := HB1.out.alloc hz1 (.cells #[.int .i64 (adv (s.data.toList.take k) (1, 1)).1, .int .i64 (adv (s.data.toList.take k) (1, 1)).2] 35)
        exact c1.trans (Below.mono (B := (w1.alloc (.cells #[.int .i64 (adv (s.data.toList.take k) (1, 1)).1, .int .i64 (adv (s.data.toList.take k) (1, 1)).2] 35)).heap.size) (by assumption) (by simp; omega))
      | none =>
        rw [hk] at hpl
        simp only at hpl
        obtain ⟨tk, htk⟩ : ∃ tk : List Tok, tk = (place s.data.toList (1, 1) ((d, none) : ResK)).1 := ⟨_, rfl⟩
        have htl : tk.length = d.length := by rw [htk]; unfold place; simp
        have htat : ∀ (i k : Nat) (r : Raw), d[i]? = some (k, r) → tk[i]? = some (Tok.mk r (adv (s.data.toList.take k) (1, 1)).1 (adv (s.data.toList.take k) (1, 1)).2) := by
          intro i k r h; rw [htk]; simp [place, h]
        rw [← htk] at hpl
        have hdl : d.length ≤ 1000 := by
          have h5 := scanRes_lenL s.data.toList
          rw [hpl, data_len] at h5
          have h6 : tk.length ≤ s.size := h5
          omega
        have HR := Lib.hid hpl
        have HK := Lib.hid hk
        have HTAT := Lib.hid htat
        have HTL := Lib.hid htl
        clear hpl hk htat htk htl
        go_enter Try.func4, Try.ntmps4
        go_wp2_with fail
        refine (ScanP_any s _ HS.out).mono ?_
        intro e w1 hp
        obtain ⟨va, rfl, hta, hb1⟩ := scan_post HR.out hp
        rw [HTL.out] at hta
        have HTA := Lib.hid hta
        have HB1 := Lib.hid hb1
        have hz1 := hb1.size
        have hva : ∃ sa cap, va = .slice sa d.length cap := by
          rcases hta.2 with ⟨h0, h⟩ | ⟨g, o, c, h, _⟩
          · exact ⟨none, 0, by rw [h, h0]⟩
          · exact ⟨_, _, h⟩
        obtain ⟨sa, cap, rfl⟩ := hva
        clear hta hb1 hp
        go_wp2_with fail
        go_loopw [6, 7] (fun en i wr => PosRel s d w1 en i wr) (fun _ i _ => (intOf i + 1).toNat)
        case atStart => exact ⟨s.size, d.length, Nat.le_refl _, Nat.le_refl _, rfl, by go_num, by rw [List.take_of_length_le (by rw [data_len]; exact Nat.le_refl _), List.take_length]; exact HK.out, (Below.refl _ _).alloc (Nat.le_refl _) _⟩
        case round =>
          obtain ⟨m, c, hm, hc, rfl, rfl, hsc, hbw⟩ := hrel
          have HBW := Lib.hid hbw
          have HSC := Lib.hid hsc
          have hzw := hbw.size
          clear hsc hbw
          cases c with
          | zero =>
            have hfin : scanRes (s.extract 0 m).data.toList = ([], 0, 0, 0) := by
              rw [Lib.extract_from_zero, scanRes_place (by rw [List.length_take, data_len]; omega), HSC.out]; rfl
            have HF := Lib.hid hfin
            clear hfin
            go_wp2_with fail
            refine (ScanP_any (s.extract 0 m) _ (by simp [maxLen]; omega)).mono ?_
            intro e w2 hp
            obtain ⟨vb, rfl, htb, hb2⟩ := scan_post HF.out hp
            have HB2 := Lib.hid hb2
            have hz2 := hb2.size
            have hvb : ∃ sa cap, vb = .slice sa 0 cap := by
              rcases htb.2 with ⟨_, h⟩ | ⟨g, o, c, h, _⟩
              · exact ⟨_, _, h⟩
              · exact ⟨_, _, h⟩
            obtain ⟨sb, capb, rfl⟩ := hvb
            clear htb hb2 hp
            go_wp2_with (go_at_call 10; refine (awake_any _).mono ?_; rintro e w3 ⟨rfl, hb3⟩)
            go_ret
            refine ⟨rfl, ?_⟩
            have c1 := ((HB1.out.trans (HBW.out.mono hz1)).trans (HB2.out.mono (by omega))).alloc (by omega) (.cells #[.int .i64 0, .int .i64 0] 35)
            exact c1.trans (Below.mono (B := (w2.alloc (.cells #[.int .i64 0, .int .i64 0] 35)).heap.size) (by assumption) (by simp; omega))
          | succ i =>
            obtain ⟨k, r, hdi⟩ : ∃ k r, d[i]? = some (k, r) := ⟨_, _, List.getElem?_eq_getElem (by omega)⟩
            obtain ⟨hkm, hsk, hres⟩ := pos_step (by rw [data_len]; exact hm) (by rw [data_len]; omega) HSC.out hdi
            have hti := HTAT.out i k r hdi
            obtain ⟨a, b, hab⟩ : ∃ a b, adv (s.data.toList.take k) (1, 1) = (a, b) := ⟨_, _, rfl⟩
            rw [hab] at hti
            have HAB := Lib.hid hab
            have HSK := Lib.hid hsk
            have hres' : scanRes (s.extract k m).data.toList = ([⟨r, 1, 1⟩], 0, 0, 0) := by rw [Lib.extract_data, ← List.drop_take]; exact hres
            have HRES := Lib.hid hres'
            rcases HTA.out.2 with ⟨h0, _⟩ | ⟨bb, ob, cb, hv, hl6, hbb, hcells⟩
            · omega
            · cases hv
              obtain ⟨x0, x1, x2, x3, x4⟩ := hcells i _ hti
              rw [← HBW.out.cell (by exact hbb)] at x0 x1 x2 x3 x4
              have hbr : bb < wr.heap.size := by omega
              have hii : (((i + 1 : Nat) : Int) - 1) = (i : Int) := by omega
              rw [hii]
              clear hab hsk hres hres' hti hcells hdi hii
              go_wp2_with fail
              refine (offset_any s a b k _ (by omega) (by omega) HAB).mono ?_
              rintro e w2 ⟨rfl, hb2⟩
              have HB2 := Lib.hid hb2
              have hz2 := hb2.size
              rw [← hb2.cell (by exact hbr)] at x0 x1 x2 x3 x4
              have hbr2 : bb < w2.heap.size := by omega
              clear hb2
              go_wp2_with fail
              refine (ScanP_any (s.extract k m) _ (by simp [maxLen]; omega)).mono ?_
              intro e w3 hp
              obtain ⟨vc, rfl, htc, hb3⟩ := scan_post HRES.out hp
              have HB3 := Lib.hid hb3
              have HTC := Lib.hid htc
              have hz3 := hb3.size
              rw [← hb3.cell (by exact hbr2)] at x0 x1 x2 x3 x4
              have hbr3 : bb < w3.heap.size := by omega
              have hbr4 : bb < w3.heap.size + 1 := by omega
              clear htc hb3 hp
              go_wp2_with fail
              refine (same_any vc _ 1 [⟨r, 1, 1⟩] [⟨r, 1, 1⟩] false _ (((HTC.out.below ((Below.refl _ _).alloc (Nat.le_refl _) _)).below ((Below.refl _ _).alloc (Nat.le_refl _) _)).below ((Below.refl _ _).alloc (Nat.le_refl _) _)) (TokSlice.one _ ⟨r, 1, 1⟩ 1 _ (by simp)) ?_).mono ?_
              · intro i t1 t2 h1 h2
                rw [h1] at h2
                cases h2
                exact ⟨rfl, fun _ => ⟨rfl, rfl⟩⟩
              rintro e w4 ⟨rfl, hb4⟩
              have HB4 := Lib.hid hb4
              have hz4 : w3.heap.size + 3 ≤ w4.heap.size := by have := hb4.size; simpa using this
              clear hb4 x0 x1 x2 x3 x4
              go_wp2
              go_roundw
              case rel =>
                refine ⟨k, i, by omega, by omega, rfl, rfl, HSK.out, ?_⟩
                have c1 := (HBW.out.trans (HB2.out.mono hzw)).trans (HB3.out.mono (by omega))
                exact (((c1.alloc (by omega) _).alloc (by simp; omega) _).alloc (by simp; omega) _).trans (HB4.out.mono (by simp; omega))
              case measure => simp [intOf]
end Go.Proofs.Ytmeicjndfblglaa
