/- LexConcat's walk. -/
import Derived.Test.YtmeicjndfblglaaConcatPlain
namespace Go.Proofs.Ytmeicjndfblglaa
open Go.RowKit

theorem flat_one (d : List Tok) : ∀ u ∈ flat d, u.oneCell' = true := by
  intro u hu
  simp only [flat, List.mem_flatMap] at hu
  obtain ⟨t, _, hu⟩ := hu
  simp [Tok.cells, Raw.cells] at hu
  rcases hu with rfl | rfl | rfl | rfl | rfl <;> rfl
def nl : ByteArray := ⟨#[10]⟩
theorem run_line (a b : Int) (w : World) : (Instr.field 35 (.agg #[.int .i64 a, .int .i64 b]) 0).run Try.prog w = .ok (.int .i64 a) w := by kernel_rfl
theorem cat_data (a b : ByteArray) : (a ++ nl ++ b).data.toList = a.data.toList ++ 10 :: b.data.toList := by
  have h : ∀ x y : ByteArray, (x ++ y).data.toList = x.data.toList ++ y.data.toList := fun x y => by simp
  rw [h, h]; simp [nl]

set_option maxRecDepth 100000 in
set_option maxHeartbeats 4000000 in
theorem LexConcat_any (s t : ByteArray) (w : World) (hs : s.size ≤ maxLen) (ht : t.size ≤ maxLen) :
    Calls Try.prog 5 #[.string s, .string t] w fun e w' => e = .returned (.bool true) ∧ Below w.heap.size w w' := by
  have HS := Lib.hid hs
  have HT := Lib.hid ht
  unfold maxLen at hs ht
  by_cases hbig : 500 < s.size
  · go_enter Try.func5, Try.ntmps5
    go_wp2_with (go_at_call 10; refine (awake_any _).mono ?_; rintro e w' ⟨rfl, hb⟩)
    go_ret
    exact ⟨rfl, by assumption⟩
  · by_cases hbig2 : 500 < t.size
    · go_enter Try.func5, Try.ntmps5
      go_wp2_with (go_at_call 10; refine (awake_any _).mono ?_; rintro e w' ⟨rfl, hb⟩)
      go_ret
      exact ⟨rfl, by assumption⟩
    · obtain ⟨x, xl, xc, e1, h1⟩ : ∃ d a b er, scanRes s.data.toList = (d, a, b, er) := ⟨_, _, _, _, rfl⟩
      obtain ⟨y, yl, yc, e2, h2⟩ : ∃ d a b er, scanRes t.data.toList = (d, a, b, er) := ⟨_, _, _, _, rfl⟩
      obtain ⟨z, zl, zc, e3, h3⟩ : ∃ d a b er, scanRes (s.data.toList ++ 10 :: t.data.toList) = (d, a, b, er) := ⟨_, _, _, _, rfl⟩
      have hf := concat_facts (by rw [data_len]; omega) (by rw [data_len]; omega) h1 h2 h3
      obtain ⟨ln, lc, hlc⟩ : ∃ ln lc, adv (s.data.toList.take s.size) (1, 1) = (ln, lc) := ⟨_, _, rfl⟩
      have hlc' : (adv s.data.toList (1, 1)).1 = ln := by
        rw [List.take_of_length_le (by rw [data_len]; exact Nat.le_refl _)] at hlc; rw [hlc]
      rw [hlc'] at hf
      have hlb := adv_bd s s.size (Nat.le_refl _)
      rw [hlc] at hlb
      obtain ⟨lb1, lb2, _, _⟩ := hlb
      simp only at lb1 lb2
      have h3' : scanRes (s ++ nl ++ t).data.toList = (z, zl, zc, e3) := by rw [cat_data]; exact h3
      have h3s : (s ++ nl ++ t).size ≤ maxLen := by
        have : (s ++ nl ++ t).size = s.size + (t.size + 1) := by
          have := congrArg List.length (cat_data s t)
          rw [data_len, List.length_append, List.length_cons, data_len, data_len] at this; exact this
        rw [this]; unfold maxLen; omega
      obtain ⟨yb1, yb2, ybt⟩ := scanRes_bd (by rw [data_len]; omega) h2
      have hxl := scanRes_len s.data.toList
      rw [h1] at hxl
      have hyl := scanRes_lenL t.data.toList
      rw [h2, data_len] at hyl
      have hyl2 : y.length ≤ 500 := by show _ ≤ 500; have h5 : y.length ≤ t.size := hyl; omega
      have hxl1 := scanRes_lenL s.data.toList
      rw [h1, data_len] at hxl1
      have hxl2 : x.length ≤ 500 := by show _ ≤ 500; have h5 : x.length ≤ s.size := hxl1; omega
      clear hxl hyl hxl1
      have YBT := Lib.hid ybt
      have HR1 := Lib.hid h1
      have HR2 := Lib.hid h2
      have HR3 := Lib.hid h3'
      have H3S := Lib.hid h3s
      have HLC := Lib.hid hlc
      have HF := Lib.hid hf
      clear h1 h2 h3 h3' hlc hlc' hf h3s
      go_enter Try.func5, Try.ntmps5
      go_wp2_with fail
      refine (ScanP_any s _ HS.out).mono ?_
      intro e w1 hp
      obtain ⟨va, rfl, hta, hb1⟩ := scan_post HR1.out hp
      have HTA := Lib.hid hta
      have HB1 := Lib.hid hb1
      have hz1 := hb1.size
      clear hta hb1 hp
      go_wp2_with fail
      refine (ScanP_any t _ HT.out).mono ?_
      intro e w2 hp
      obtain ⟨vb, rfl, htb, hb2⟩ := scan_post HR2.out hp
      have HTB := Lib.hid htb
      have HB2 := Lib.hid hb2
      have hz2 : w1.heap.size + 1 ≤ w2.heap.size := by have := hb2.size; simpa using this
      clear htb hb2 hp
      go_wp2_with fail
      refine (ScanP_any (s ++ nl ++ t) _ H3S.out).mono ?_
      intro e w3 hp
      obtain ⟨vc, rfl, htc, hb3⟩ := scan_post HR3.out hp
      have HTC := Lib.hid htc
      have HB3 := Lib.hid hb3
      have hz3 : w2.heap.size + 1 ≤ w3.heap.size := by have := hb3.size; simpa using this
      clear htc hb3 hp
      go_wp2_with fail
      refine (At_any s s.size _ (by omega) (Nat.le_refl _) HLC).mono ?_
      rintro e w4 ⟨rfl, hb4⟩
      have hz4 : w3.heap.size + 1 ≤ w4.heap.size := by have := hb4.size; simpa using this
      have hc0 : w4.cell? ⟨w3.heap.size, 0, none⟩ = some (.int .i64 zl) := (hb4.cell (by simp)).trans (by simp)
      have hc1 : w4.cell? ⟨w3.heap.size, 1, none⟩ = some (.int .i64 zc) := (hb4.cell (by simp)).trans (by simp)
      have c1 := HB1.out.alloc hz1 (.cells #[.int .i64 xl, .int .i64 xc] 35)
      have c2 := (c1.trans (HB2.out.mono (by simp; omega))).alloc (by omega) (.cells #[.int .i64 yl, .int .i64 yc] 35)
      have c3 := (c2.trans (HB3.out.mono (by simp; omega))).alloc (by omega) (.cells #[.int .i64 zl, .int .i64 zc] 35)
      have c4 := c3.trans (hb4.mono (by simp; omega))
      have C4 := Lib.hid c4
      have HTA4 := Lib.hid (((((HTA.out.below ((Below.refl _ _).alloc (Nat.le_refl _) _)).below HB2.out).below ((Below.refl _ _).alloc (Nat.le_refl _) _)).below HB3.out).below ((Below.refl _ _).alloc (Nat.le_refl _) _) |>.below hb4)
      have HTB4 := Lib.hid (((HTB.out.below ((Below.refl _ _).alloc (Nat.le_refl _) _)).below HB3.out).below ((Below.refl _ _).alloc (Nat.le_refl _) _) |>.below hb4)
      have HTC4 := Lib.hid ((HTC.out.below ((Below.refl _ _).alloc (Nat.le_refl _) _)).below hb4)
      clear c1 c2 c3 c4 hb4 HTA HTB HTC HB1 HB2 HB3
      have hline := fun wx => run_line ln lc wx
      rcases HF.out with ⟨he, hg⟩ | ⟨he, hf, hg, hpl, hpc⟩ | ⟨he, hf, hg, hz⟩
      · subst hg
        have be : (e3 == 0) = false := by rw [beq_eq_false_iff_ne]; exact he
        have be' : (e3 != 0) = true := by rw [bne_iff_ne]; exact he
        clear he HF
        go_wp2_with (go_at_call 10; refine (awake_any _).mono ?_; rintro e w5 ⟨rfl, hb5⟩)
        go_ret
        exact ⟨rfl, C4.out.trans (Below.mono (B := w4.heap.size) (by assumption) (by omega))⟩
      · subst hg he
        have be' : (e3 != 0) = true := by rw [bne_iff_ne]; exact hf
        have HPL := Lib.hid hpl
        have HPC := Lib.hid hpc
        clear hf HF hpl hpc
        go_wp2_with fail
        refine (ScanP_any t _ HT.out).mono ?_
        intro e w5 hp
        obtain ⟨vd, rfl, _, hb5⟩ := scan_post HR2.out hp
        have hz5 := hb5.size
        have hd0 : w5.cell? ⟨w3.heap.size, 0, none⟩ = some (.int .i64 zl) := (hb5.cell (by show w3.heap.size < _; omega)).trans hc0
        have hd1 : w5.cell? ⟨w3.heap.size, 1, none⟩ = some (.int .i64 zc) := (hb5.cell (by show w3.heap.size < _; omega)).trans hc1
        have hz5' : w3.heap.size < w5.heap.size := by omega
        have HB5 := Lib.hid hb5
        have ey : (zl == yl + ln) = true := by rw [beq_iff_eq]; exact HPL.out
        have ey2 : (zc == yc) = true := by rw [beq_iff_eq]; exact HPC.out
        clear hb5 hp hc0 hc1
        go_wp2_with (go_at_call 10; refine (awake_any _).mono ?_; rintro e w6 ⟨rfl, hb6⟩)
        go_ret
        refine ⟨rfl, ?_⟩
        have d1 := (C4.out.trans (HB5.out.mono (B' := w.heap.size) (by omega))).alloc (by omega) (.cells #[.int .i64 yl, .int .i64 yc] 35)
        exact d1.trans (Below.mono (B := (w5.alloc (.cells #[.int .i64 yl, .int .i64 yc] 35)).heap.size) (by assumption) (by simp; omega))
      · subst hg he hf hz
        clear HF hc0 hc1
        obtain ⟨i0, hi, hzi0, hzi1, hzi2⟩ := info_parts info_tok
        go_upto_region 12 with fail
        go_cut [18] (fun s18 wx => wx.ownsRow w4.heap.size 37 5 s18 x.length (flat x) ∧ Below w4.heap.size w4 wx)
        case first =>
          rcases HTA4.out.2 with ⟨hx0, rfl⟩ | ⟨ba, oa, ca, rfl, hl5, hba, hcells⟩
          · have hx : x = [] := List.eq_nil_of_length_eq_zero hx0
            subst hx
            clear hx0
            go_wp2_with (at_builtin; refine wpList_append_own_none rfl _ _ 22 rfl w4.heap.size 37 i0 5 Try.underlying22 hi (.slice none 0 0) 0 [] rfl (World.ownsRow_nil _ _ _ _) rfl ?_)
            go_meet
            case rel => exact ⟨World.ownsRow_nil _ _ _ _, Below.refl _ _⟩
          · have HN := Lib.hid HTA4.out.news
            clear hcells
            go_wp2_with (at_builtin; refine wpList_append_own _ rfl _ _ 22 rfl w4.heap.size 37 i0 (.agg #[.int .i64 0, .string ⟨#[]⟩, .int .u64 0, .int .i64 0, .int .i64 0]) 5 48 Try.underlying22 hi hzi0 hzi1 hzi2 rfl (by decide) (.slice none 0 0) 0 [] rfl (World.ownsRow_nil _ _ _ _) ⟨ba, oa, none⟩ x.length ca (flat x) rfl (flat_length x) HN.out (flat_one x) (by unfold maxLen; omega) (by omega) (Nat.le_refl _) ?_; intro v' w5 hown' hgrow _)
            go_meet
            case rel =>
              refine ⟨?_, (Below.refl _ _).grown hgrow (Nat.le_refl _) (fun k hk => by simp [Value.ownBlock] at hk)⟩
              rw [Nat.zero_add, List.nil_append] at hown'
              exact hown'
        case rest =>
          obtain ⟨hown, hbw⟩ := hcut
          have HOWN := Lib.hid hown
          have HBW := Lib.hid hbw
          clear hown hbw HTA4
          go_wp2_with fail
          go_loopw [18, 19] (fun v i wr => ∃ j : Nat, j ≤ y.length ∧ i = .int .i64 j ∧ wr.ownsRow w4.heap.size 37 5 v (x.length + j) (flat (x ++ (y.take j).map (Tok.down ln))) ∧ Below w4.heap.size w4 wr) (fun _ i _ => y.length - (intOf i).toNat)
          case atStart => exact ⟨0, Nat.zero_le _, rfl, by simpa using HOWN.out, HBW.out⟩
          case round =>
            obtain ⟨j, hj, rfl, hown, hbw⟩ := hrel
            have HOWN2 := Lib.hid hown
            have HBW2 := Lib.hid hbw
            have htb := HTB4.out.below hbw
            have hzr := hbw.size
            clear hown hbw
            rcases htb.2 with ⟨hy0, rfl⟩ | ⟨bb, ob, cb, rfl, hl6, hbb, hcells⟩
            · have hj0 : j = 0 := by omega
              have hjy : j = y.length := by omega
              have hown2 : wr.ownsRow w4.heap.size 37 5 u18 (x ++ y.map (Tok.down ln)).length (flat (x ++ y.map (Tok.down ln))) := by
                have h5 := HOWN2.out
                rw [List.take_of_length_le (by omega)] at h5
                rw [List.length_append, List.length_map, ← hjy]
                exact h5
              have hts := TokSlice.of_own rfl hown2 (by rw [List.length_append, List.length_map]; omega)
              have htc := HTC4.out.below HBW2.out
              have HTS := Lib.hid hts
              have HTCC := Lib.hid htc
              clear hts htc hown2 hjy htb
              go_wp2_with fail
              refine (same_any vc _ (x ++ y.map (Tok.down ln)).length _ _ false _ HTCC.out HTS.out ?_).mono ?_
              · intro i t1 t2 h1 h2
                rw [h1] at h2
                cases h2
                exact ⟨rfl, fun _ => ⟨rfl, rfl⟩⟩
              rintro e w6 ⟨rfl, hb6⟩
              have hz6 := hb6.size
              have d1 := (C4.out.trans (HBW2.out.mono (B' := w.heap.size) (by omega))).trans (hb6.mono (B' := w.heap.size) (by omega))
              have D1 := Lib.hid d1
              clear d1 hb6
              go_wp2_with (go_at_call 10; refine (awake_any _).mono ?_; rintro e w7 ⟨rfl, hb7⟩)
              go_ret
              exact ⟨rfl, D1.out.trans (Below.mono (B := w6.heap.size) (by assumption) (by omega))⟩
            · by_cases hlt : j < y.length
              · obtain ⟨t1, ht1⟩ : ∃ t, y[j]? = some t := ⟨_, List.getElem?_eq_getElem hlt⟩
                obtain ⟨x0, x1, x2, x3, x4⟩ := hcells j t1 ht1
                obtain ⟨l1, l2⟩ := YBT.out t1 (List.mem_of_getElem? ht1)
                have hsn : x ++ (y.take (j + 1)).map (Tok.down ln) = (x ++ (y.take j).map (Tok.down ln)) ++ [Tok.down ln t1] := by
                  rw [List.take_add_one, ht1]; simp
                have HSN := Lib.hid hsn
                clear htb hcells ht1 hsn
                go_wp2_with (at_builtin; refine wpList_append_own _ rfl _ _ 22 rfl w4.heap.size 37 i0 (.agg #[.int .i64 0, .string ⟨#[]⟩, .int .u64 0, .int .i64 0, .int .i64 0]) 5 48 Try.underlying22 hi hzi0 hzi1 hzi2 rfl (by decide) _ (x.length + j) (flat (x ++ (y.take j).map (Tok.down ln))) rfl ((HOWN2.out.alloc _).alloc _) ⟨wr.heap.size + 1, 0, none⟩ 1 1 (Tok.cells (Tok.down ln t1)).toList rfl rfl (news_last _ _ _ _ (by simp)) (by intro u hu; simp [Tok.cells, Raw.cells] at hu; rcases hu with rfl | rfl | rfl | rfl | rfl <;> rfl) (by unfold maxLen; omega) (by omega) (by simp; omega) ?_; intro v' w5 hown' hgrow _)
                have HO := Lib.hid hown'
                have HG := Lib.hid hgrow
                clear hown' hgrow
                go_wp2
                go_roundw
                case rel => exact ⟨j + 1, by omega, by go_num, by rw [HSN.out, flat_snoc]; exact HO.out, ((HBW2.out.alloc hzr _).alloc (by simp; omega) _).grown HG.out (by simp; omega) (fun q hq => (HOWN2.out.lt q hq).1)⟩
                case measure => simp [intOf]; omega
              · clear hcells
                have hjy : j = y.length := by omega
                have hown2 : wr.ownsRow w4.heap.size 37 5 u18 (x ++ y.map (Tok.down ln)).length (flat (x ++ y.map (Tok.down ln))) := by
                  have h5 := HOWN2.out
                  rw [List.take_of_length_le (by omega)] at h5
                  rw [List.length_append, List.length_map, ← hjy]
                  exact h5
                have hts := TokSlice.of_own rfl hown2 (by rw [List.length_append, List.length_map]; omega)
                have htc := HTC4.out.below HBW2.out
                have HTS := Lib.hid hts
                have HTCC := Lib.hid htc
                clear hts htc hown2 hjy htb
                go_wp2_with fail
                refine (same_any vc _ (x ++ y.map (Tok.down ln)).length _ _ false _ HTCC.out HTS.out ?_).mono ?_
                · intro i t1 t2 h1 h2
                  rw [h1] at h2
                  cases h2
                  exact ⟨rfl, fun _ => ⟨rfl, rfl⟩⟩
                rintro e w6 ⟨rfl, hb6⟩
                have hz6 := hb6.size
                have d1 := (C4.out.trans (HBW2.out.mono (B' := w.heap.size) (by omega))).trans (hb6.mono (B' := w.heap.size) (by omega))
                have D1 := Lib.hid d1
                clear d1 hb6
                go_wp2_with (go_at_call 10; refine (awake_any _).mono ?_; rintro e w7 ⟨rfl, hb7⟩)
                go_ret
                exact ⟨rfl, D1.out.trans (Below.mono (B := w6.heap.size) (by assumption) (by omega))⟩
end Go.Proofs.Ytmeicjndfblglaa
