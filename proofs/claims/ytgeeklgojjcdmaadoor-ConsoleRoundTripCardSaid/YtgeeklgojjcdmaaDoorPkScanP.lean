/- The program's Scan. -/
import Derived.Test.YtgeeklgojjcdmaaDoorPkTok
import Derived.Test.YtgeeklgojjcdmaaDoorPkBase0
import Derived.WalkMore
import Derived.RegionTactic
import Derived.OwnWalk
set_option linter.unusedVariables false
set_option linter.unusedSimpArgs false
set_option linter.unusedSectionVars false
namespace Go.Proofs.YtgeeklgojjcdmaaDoor
open Go.RowKit

/-- What Scan returns, and what it leaves of memory. -/
def ScanPost (l : List UInt8) (w : World) (e : Ending) (w' : World) : Prop :=
  ∃ v : Value, e = .returned (.tuple #[v, .agg #[.int .i64 (scanRes l).2.1, .int .i64 (scanRes l).2.2.1], .int .i64 (scanRes l).2.2.2]) ∧
    w'.ownsRow w.heap.size 52 5 v (scanRes l).1.length (flat (scanRes l).1) ∧ Below w.heap.size w w'

theorem info_tok : (Tryd.prog.info? 52).map (fun i => (i.zero, i.size, i.bytes)) = some (some (.agg #[.int .i64 0, .string ⟨#[]⟩, .int .u64 0, .int .i64 0, .int .i64 0]), 5, 48) := by kernel_rfl
theorem beqc {n : Nat} {m : Int} {b : Bool} (h : b = decide ((n : Int) = m)) : ((n : Int) == m) = b := by rw [h, Bool.eq_iff_iff]; simp
theorem token_at (s : ByteArray) (k : Nat) (w : World) (hs : s.size ≤ maxLen) (hp : k < s.size) {r : Raw} {n : Nat} {er : Int} (hl : Hid (lexOne (s.data.toList.drop k) = (r, n, er))) :
    Calls Tryd.prog 35 #[.string (s.extract k s.size)] w fun e w' => e = .returned (.tuple #[.agg #[.int .i64 r.kind, .string (str r.text), .int .u64 r.value, .int .i64 0, .int .i64 0], .int .i64 n, .int .i64 er]) ∧
      w.alloc (.cells #[.int .i64 r.kind, .string (str r.text), .int .u64 r.value, .int .i64 0, .int .i64 0] 52) = w' := by
  have h := token_any (s.extract k s.size) w (by simp; omega) (by simp; omega)
  rw [Lib.extract_to_end, hl.out] at h
  exact h.mono fun e w' ⟨he, hw⟩ => ⟨he, hw.symm⟩
theorem news_last (w : World) (c : Array Value) (e : TypeId) (m : Nat) (hm : m = w.heap.size) (j : Nat) (u : Value) (h : c.toList[j]? = some u) :
    (w.alloc (.cells c e)).cell? ((⟨m, 0, none⟩ : Addr).add j) = some u := by
  subst hm
  have hadd : (⟨w.heap.size, 0, none⟩ : Addr).add j = ⟨w.heap.size, j, none⟩ := by unfold Addr.add; split <;> simp_all
  rw [hadd]
  have : (w.alloc (.cells c e)).heap[w.heap.size]? = some (.cells c e) := heap_alloc_new w _
  simp only [World.cell?, this, Option.isSome_none, Bool.false_eq_true, if_false]
  simpa using h
theorem two_cells {w wr : World} {a b : Value} {T : TypeId} (hb : Below (w.heap.size + 1) (w.alloc (.cells #[a, b] T)) wr) :
    wr.cell? ⟨w.heap.size, 0, none⟩ = some a ∧ wr.cell? ⟨w.heap.size, 1, none⟩ = some b ∧ wr.frozen? ⟨w.heap.size, 0, none⟩ = false ∧ wr.frozen? ⟨w.heap.size, 1, none⟩ = false ∧ w.heap.size < wr.heap.size := by
  have h : wr.heap[w.heap.size]? = some (.cells #[a, b] T) := (hb.block _ (by omega)).trans (heap_alloc_new w _)
  refine ⟨by simp [World.cell?, h], by simp [World.cell?, h], by simp [World.frozen?, h], by simp [World.frozen?, h], ?_⟩
  exact (Array.getElem?_eq_some_iff.1 h).1
theorem ownsRow_base {w : World} {b b' : Nat} {e : TypeId} {size : Nat} {v : Value} {n : Nat} {xs : List Value} (h : w.ownsRow b e size v n xs) (hb : b' ≤ b) : w.ownsRow b' e size v n xs := by
  refine ⟨h.1, ?_⟩
  rcases h.2 with h2 | ⟨g, cap, cur, hv, hg, rest⟩
  · exact .inl h2
  · exact .inr ⟨g, cap, cur, hv, by omega, rest⟩
theorem below_two {w wr : World} {o : Obj} (hb : Below (w.heap.size + 1) (w.alloc o) wr) (x y : Value) :
    Below w.heap.size w ((wr.setCell ⟨w.heap.size, 0, none⟩ x).setCell ⟨w.heap.size, 1, none⟩ y) :=
  ((((Below.refl _ _).alloc (Nat.le_refl _) _).trans (hb.mono (by omega))).setCell (Nat.le_refl _) _).setCell (Nat.le_refl _) _
def ScanRel (s : ByteArray) (w : World) (v ln st off : Value) (wr : World) : Prop :=
  ∃ (k start : Nat) (line : Int) (d : List Tok), k ≤ s.size ∧ start ≤ k ∧ 1 ≤ line ∧ line ≤ k + 1 ∧ d.length ≤ k ∧ off = .int .i64 k ∧ st = .int .i64 start ∧ ln = .int .i64 line ∧
    wr.ownsRow (w.heap.size + 1) 52 5 v d.length (flat d) ∧ Below (w.heap.size + 1) (w.alloc (.cells #[.int .i64 0, .int .i64 0] 25)) wr ∧
    scan s.data.toList 1 1 = Res.pre d (scan (s.data.toList.drop k) line (k - start + 1))

set_option maxRecDepth 100000 in
set_option maxHeartbeats 4000000 in
theorem ScanP_any (s : ByteArray) (w : World) (hs : s.size ≤ maxLen) :
    Calls Tryd.prog 12 #[.string s] w (ScanPost s.data.toList w) := by
  have hs0 := hs
  unfold maxLen at hs
  by_cases hbig : 65536 < s.size
  · have hr := scanRes_long (l := s.data.toList) hbig
    have HR := Lib.hid hr
    clear hr
    go_enter Tryd.func12, Tryd.ntmps12
    go_wp2
    go_step3
    go_wp2
    rw [Exit.noGoto_ret]
    refine bodyPost_ret (v := .tuple #[.slice none 0 0, .agg #[.int .i64 0, .int .i64 0], .int .i64 15]) (by simp [results, Tryd.results12, go_sem]) rfl ⟨.slice none 0 0, by rw [HR.out], ?_, ?_⟩
    · rw [HR.out]; exact World.ownsRow_nil _ _ _ _
    · exact (Below.refl _ _).alloc (Nat.le_refl _) _
  · obtain ⟨i0, hi, hz0, hz1, hz2⟩ := info_parts info_tok
    have HBIG := Lib.hid hbig
    have hsmall : s.size ≤ 65536 := by omega
    have HS0 := Lib.hid hs0
    clear hs0 hs
    go_enter Tryd.func12, Tryd.ntmps12
    go_wp2
    go_step3
    go_wp2
    go_step3
    go_wp2_with fail
    go_loopw [5, 6, 7, 8] (fun v ln st off wr => ScanRel s w v ln st off wr) (fun _ _ _ off _ => s.size - (intOf off).toNat)
    case atStart => exact ⟨0, 0, 1, [], Nat.zero_le _, Nat.le_refl _, by omega, by omega, Nat.le_refl _, rfl, rfl, rfl, World.ownsRow_nil _ _ _ _, Below.refl _ _, rfl⟩
    case round =>
      obtain ⟨k, start, line, d, hk, hsk, hl1, hl2, hdk, rfl, rfl, rfl, hown, hbel, hscan⟩ := hrel
      have HOWN := Lib.hid hown
      have HBEL := Lib.hid hbel
      have HSC := Lib.hid hscan
      clear hown hbel hscan
      by_cases hlt : k < s.size
      · by_cases c10 : s[k].toNat = 10
        · have b10 : ((s[k].toNat : Int) == 10) = true := beqc (by rw [c10]; rfl)
          have e := HSC.out
          rw [scan_nl hlt c10] at e
          have E := Lib.hid e
          clear e c10
          go_wp2
          go_roundw
          case rel => exact ⟨k + 1, k + 1, line + 1, d, by omega, by omega, by omega, by omega, by omega, by go_num, by go_num, rfl, HOWN.out, HBEL.out, by rw [E.out]; congr 2; omega⟩
          case measure => simp [intOf]; omega
        · have b10 : ((s[k].toNat : Int) == 10) = false := beqc (by symm; rw [decide_eq_false_iff_not]; omega)
          by_cases cws : s[k].toNat = 32 ∨ s[k].toNat = 9 ∨ s[k].toNat = 13
          · have e := HSC.out
            rw [scan_ws hlt cws] at e
            have E := Lib.hid e
            by_cases w32 : s[k].toNat = 32
            · skip
              have b32 : ((s[k].toNat : Int) == 32) = true := beqc (by symm; rw [decide_eq_true_eq]; omega)
              clear w32
              clear e cws
              go_wp2
              go_roundw
              case rel => exact ⟨k + 1, start, line, d, by omega, by omega, by omega, by omega, by omega, by go_num, rfl, rfl, HOWN.out, HBEL.out, by rw [E.out, show ((k : Int) - start + 1 + 1) = ((k + 1 : Nat) : Int) - start + 1 from by omega]⟩
              case measure => simp [intOf]; omega
            · by_cases w9 : s[k].toNat = 9
              · skip
                have b32 : ((s[k].toNat : Int) == 32) = false := beqc (by symm; rw [decide_eq_false_iff_not]; omega)
                have b9 : ((s[k].toNat : Int) == 9) = true := beqc (by symm; rw [decide_eq_true_eq]; omega)
                clear w32 w9
                clear e cws
                go_wp2
                go_roundw
                case rel => exact ⟨k + 1, start, line, d, by omega, by omega, by omega, by omega, by omega, by go_num, rfl, rfl, HOWN.out, HBEL.out, by rw [E.out, show ((k : Int) - start + 1 + 1) = ((k + 1 : Nat) : Int) - start + 1 from by omega]⟩
                case measure => simp [intOf]; omega
              · skip
                have b32 : ((s[k].toNat : Int) == 32) = false := beqc (by symm; rw [decide_eq_false_iff_not]; omega)
                have b9 : ((s[k].toNat : Int) == 9) = false := beqc (by symm; rw [decide_eq_false_iff_not]; omega)
                have b13 : ((s[k].toNat : Int) == 13) = true := beqc (by symm; rw [decide_eq_true_eq]; omega)
                clear w32 w9
                clear e cws
                go_wp2
                go_roundw
                case rel => exact ⟨k + 1, start, line, d, by omega, by omega, by omega, by omega, by omega, by go_num, rfl, rfl, HOWN.out, HBEL.out, by rw [E.out, show ((k : Int) - start + 1 + 1) = ((k + 1 : Nat) : Int) - start + 1 from by omega]⟩
                case measure => simp [intOf]; omega
          · have b32 : ((s[k].toNat : Int) == 32) = false := beqc (by symm; rw [decide_eq_false_iff_not]; omega)
            have b9 : ((s[k].toNat : Int) == 9) = false := beqc (by symm; rw [decide_eq_false_iff_not]; omega)
            have b13 : ((s[k].toNat : Int) == 13) = false := beqc (by symm; rw [decide_eq_false_iff_not]; omega)
            by_cases c35 : s[k].toNat = 35
            · have b35 : ((s[k].toNat : Int) == 35) = true := beqc (by symm; rw [decide_eq_true_eq]; omega)
              have e := HSC.out
              rw [scan_cmt hlt c35] at e
              have hcl : 1 ≤ cmtLen (s.data.toList.drop k) ∧ k + cmtLen (s.data.toList.drop k) ≤ s.size := by
                have h1 := takeWhile_le (fun c : UInt8 => notNl c.toNat) (s.data.toList.drop k)
                rw [List.length_drop, data_len] at h1
                refine ⟨?_, by unfold cmtLen; omega⟩
                unfold cmtLen
                rw [data_drop hlt, List.takeWhile_cons_of_pos (by simp [notNl, c35])]
                simp
              have E := Lib.hid e
              clear e c10 cws c35
              go_upto_block 6 with fail
              go_cut [8] (fun s8 wx => s8 = .int .i64 ((k + cmtLen (s.data.toList.drop k) : Nat)) ∧ wx = wr)
              case first =>
                go_wp2_with fail
                go_loop [8] (fun i => ∃ j : Nat, k ≤ j ∧ j ≤ s.size ∧ AllP notNl ((s.data.toList.take j).drop k) ∧ i = .int .i64 j) (fun i => s.size - (intOf i).toNat)
                case atStart => exact ⟨k, Nat.le_refl _, hk, AllP.start _ _ _, rfl⟩
                case round =>
                  obtain ⟨j, hkj, hj, ha, rfl⟩ := hrel
                  have HA := Lib.hid ha
                  clear ha
                  by_cases hjl : j < s.size
                  · by_cases h6 : s[j].toNat = 10
                    · have h6' : ((s[j].toNat : Int) != 10) = false := by rw [h6]; rfl
                      have h7 := seg_len (p := notNl) hkj hj HA.out (fun _ => by simp [notNl, h6])
                      have H7 := Lib.hid h7
                      clear h6 h7
                      go_wp2
                      go_meet
                      case rel => exact ⟨vint (by unfold cmtLen; rw [H7.out]; omega), rfl⟩
                    · have h6' : ((s[j].toNat : Int) != 10) = true := by rw [bne_iff_ne]; omega
                      go_wp2
                      go_round
                      case rel => exact ⟨j + 1, by omega, by omega, HA.out.snocK hkj hjl (by simp [notNl]; omega), by go_num⟩
                      case measure => simp [intOf]; omega
                  · have h7 := seg_len (p := notNl) hkj hj HA.out (fun h => absurd h hjl)
                    have H7 := Lib.hid h7
                    clear h7
                    go_wp2
                    go_meet
                    case rel => exact ⟨vint (by unfold cmtLen; rw [H7.out]; omega), rfl⟩
              case rest =>
                obtain ⟨rfl, rfl⟩ := hcut
                go_wp2
                go_roundw
                case rel => exact ⟨k + cmtLen (s.data.toList.drop k), start, line, d, by omega, by omega, by omega, by omega, by omega, by go_num, rfl, rfl, HOWN.out, HBEL.out, by rw [E.out, show ((k : Int) - start + 1 + cmtLen (s.data.toList.drop k)) = ((k + cmtLen (s.data.toList.drop k) : Nat) : Int) - start + 1 from by omega]⟩
                case measure => simp [intOf]; omega
            · have b35 : ((s[k].toNat : Int) == 35) = false := beqc (by symm; rw [decide_eq_false_iff_not]; omega)
              obtain ⟨⟨r, n, er⟩, hlex⟩ : ∃ x, lexOne (s.data.toList.drop k) = x := ⟨_, rfl⟩
              have HLEX := Lib.hid hlex
              by_cases he : er = 0
              · have e := HSC.out
                have hn := lexOne_len (s.data.toList.drop k) (by rw [hlex]; exact he)
                rw [hlex, List.length_drop, data_len] at hn
                have hn1 : 1 ≤ n := hn.1
                have hn2 : k + n ≤ s.size := by have h2 : n ≤ s.size - k := hn.2; omega
                rw [scan_tok hlt c10 cws c35 hlex he hn.1] at e
                have E := Lib.hid e
                have be : (er != 0) = false := by rw [he]; rfl
                clear e hlex c10 cws c35 he hn
                go_wp2_with (first | (go_at_call 35; refine (token_at s k _ HS0.out hlt HLEX).mono ?_; rintro e w' ⟨rfl, rfl⟩) | (at_builtin; refine wpList_append_own _ rfl _ _ 37 rfl (w.heap.size + 1) 52 i0 (.agg #[.int .i64 0, .string ⟨#[]⟩, .int .u64 0, .int .i64 0, .int .i64 0]) 5 48 Tryd.underlying37 hi hz0 hz1 hz2 rfl (by decide) _ _ _ rfl ((((HOWN.out.alloc _).alloc _).alloc _).alloc _) ⟨wr.heap.size + 1 + 1 + 1, 0, none⟩ 1 1 (Tok.cells ⟨r, line, k - start + 1⟩).toList rfl rfl ?c1 ?c2 ?c3 ?c4 ?c5 ?_))
                case c1 => exact news_last _ _ _ _ (by simp)
                case c2 => intro u hu; simp [Tok.cells, Raw.cells] at hu; rcases hu with rfl | rfl | rfl | rfl | rfl <;> rfl
                case c3 => unfold maxLen; omega
                case c4 => omega
                case c5 => have := HBEL.out.size; simp at this ⊢; omega
                intro v' w1 hown' hgrow _
                have HOWN' := Lib.hid hown'
                have HGROW := Lib.hid hgrow
                clear hown' hgrow
                go_wp2
                go_roundw
                case rel =>
                  refine ⟨k + n, start, line, d ++ [⟨r, line, k - start + 1⟩], hn2, by omega, by omega, by omega, by simp; omega, by go_num, rfl, rfl, ?_, ?_, ?_⟩
                  · rw [flat_snoc, List.length_append]; exact HOWN'.out
                  · have hz : w.heap.size + 1 ≤ wr.heap.size := by have := HBEL.out.size; simp at this; omega
                    exact ((((HBEL.out.alloc hz _).alloc (by simp; omega) _).alloc (by simp; omega) _).alloc (by simp; omega) _).grown HGROW.out (by simp; omega) (fun j hj => (HOWN.out.lt j hj).1)
                  · rw [E.out, pre_pre, show ((k : Int) - start + 1 + n) = ((k + n : Nat) : Int) - start + 1 from by omega]
                case measure => simp [intOf]; omega
              · have e := HSC.out
                rw [scan_err hlt c10 cws c35 hlex he] at e
                have hr := scanRes_err HBIG.out e
                have HR := Lib.hid hr
                have be : (er != 0) = true := by rw [bne_iff_ne]; exact he
                clear e hr hlex c10 cws c35 he
                obtain ⟨hx0, hx1, hf0, hf1, hz⟩ := two_cells HBEL.out
                have hz1 : w.heap.size < wr.heap.size + 1 := by omega
                have hz2 : w.heap.size < wr.heap.size + 1 + 1 := by omega
                have hz3 : w.heap.size < wr.heap.size + 1 + 1 + 1 := by omega
                go_wp2_with (first | (go_at_call 35; refine (token_at s k _ HS0.out hlt HLEX).mono ?_; rintro e w' ⟨rfl, rfl⟩))
                go_region
                all_goals
                  go_wp2
                  rw [Exit.noGoto_ret]
                  refine bodyPost_ret (v := .tuple #[.slice none 0 0, .agg #[.int .i64 line, .int .i64 (k - start + 1)], .int .i64 er]) ?_ rfl ⟨.slice none 0 0, by rw [HR.out], ?_, ?_⟩
                  · simp [results, Tryd.results12, go_sem, hx0, hx1, hz1, hz2, hz]
                  · rw [HR.out]; exact World.ownsRow_nil _ _ _ _
                  · exact ((((below_two HBEL.out _ _).alloc (by simp; omega) _).alloc (by simp; omega) _).alloc (by simp; omega) _).drew
      · have e := HSC.out
        rw [List.drop_of_length_le (by rw [data_len]; omega), scan_nil, pre_end] at e
        have hr := scanRes_ok HBIG.out e
        have HR := Lib.hid hr
        clear e hr
        obtain ⟨hx0, hx1, hf0, hf1, hz⟩ := two_cells HBEL.out
        go_wp2
        refine bodyPost_ret (v := .tuple #[u5, .agg #[.int .i64 0, .int .i64 0], .int .i64 0]) ?_ rfl ⟨u5, by rw [HR.out], ?_, ?_⟩
        · simp [results, Tryd.results12, go_sem, hx0, hx1]
        · rw [HR.out]
          exact ownsRow_base (ownsRow_setCell_below (ownsRow_setCell_below HOWN.out (a := ⟨w.heap.size, 0, none⟩) (Nat.lt_succ_self _) _) (a := ⟨w.heap.size, 1, none⟩) (Nat.lt_succ_self _) _) (Nat.le_succ _)
        · exact below_two HBEL.out _ _
end Go.Proofs.YtgeeklgojjcdmaaDoor
