/- IsaImmediates. -/
import Derived.Test.YtemigcdieghkfaaDoorPkAwakeI
import Derived.Test.YtemigcdieghkfaaDoorPkImmText
import Derived.Test.YtemigcdieghkfaaDoorPkLexP
import Derived.Test.YtemigcdieghkfaaDoorPkFormatW
set_option linter.unusedVariables false
set_option linter.unusedSimpArgs false
set_option linter.unusedSectionVars false
namespace Go.Proofs.YtemigcdieghkfaaDoor
open Go.RowKit Go.BigFrame

def dig16L : ByteArray := ⟨#[48, 49, 50, 51, 52, 53, 54, 55, 56, 57, 97, 98, 99, 100, 101, 102]⟩
theorem dig16L_at : ∀ j < 16, (dig16L.extract j (j + 1)).data.toList = [digH j] := by decide
def signS : Bool → ByteArray
  | true => ⟨#[45]⟩
  | false => ⟨#[]⟩
theorem signS_size (sg : Bool) : (signS sg).size ≤ 1 := by cases sg <;> decide
theorem imm_cat (sg : Bool) (nt : List UInt8) : (⟨#[108, 105, 32, 114, 51, 44, 32]⟩ : ByteArray) ++ signS sg ++ str nt ++ ⟨#[59]⟩ = str (immT sg nt) := by
  refine bytes_ext ?_
  rw [data_str]
  unfold immT
  cases sg <;> simp [signS, str]
theorem TokRd.one {M : List Nat} {W w : World} {l : Ents} (KN : Kn M W w l) {g : Nat} {T : TypeId} {t : Tok} (m : Has l g (At t.cells T)) : TokRd w (.slice (some ⟨g, 0, none⟩) 1 1) [t] :=
  ⟨_, _, rfl, fun k u hu => by
    cases k with
    | succ k => simp at hu
    | zero =>
      simp at hu
      subst hu
      exact ⟨g, 0, rfl, KN.lt m, KN.cell m (o := 0) rfl, KN.cell m (o := 1) rfl, KN.cell m (o := 2) rfl, KN.cell m (o := 3) rfl, KN.cell m (o := 4) rfl⟩⟩
theorem format_num (m : Nat) : formatL ([(⟨⟨2, [], (m : Int)⟩, 0, 0⟩ : Tok)].map (·.raw)) = numL 10 m := by
  simp [formatL, joinK, textOf, okRaw]
theorem fewB_num (m : Nat) (h : (m : Int) ≤ 18446744073709551615) : fewB [(⟨⟨2, [], (m : Int)⟩, 0, 0⟩ : Tok)] := by
  refine ⟨by simp, fun t ht => ?_⟩
  simp at ht
  subst ht
  exact ⟨by simp, by simp, h⟩
theorem immT_len (sg hx : Bool) (m : Nat) (hm : (m : Int) ≤ 18446744073709551615) : (str (immT sg (immN hx m))).size ≤ maxLen := by
  rw [str_size]
  have := immN_len hx m hm
  unfold immT maxLen
  simp only [List.length_append, List.length_cons, List.length_nil]
  cases sg <;> simp <;> omega
theorem Assemble_imm_bad (sg hx : Bool) (m : Nat) (hm : (m : Int) ≤ 18446744073709551615) (h : limI sg < (m : Int)) (w : World) :
    Calls Tryd.prog 8 #[.string (str (immT sg (immN hx m)))] w fun e w' => ∃ a c, e = .returned (.tuple #[.slice a 0 c, .agg #[.int .i64 1, .int .i64 (8 + sgN sg)], .int .i64 6]) ∧ Below w.heap.size w w' := by
  refine (Assemble_any _ w (immT_len sg hx m hm)).mono ?_
  unfold AsmOut
  rw [data_str, asm_immT sg hx m hm, if_pos h]
  rintro e w' ⟨v, ol, rfl, HV, KN⟩
  obtain ⟨a, c, hv⟩ := HV.form
  subst hv
  exact ⟨a, c, rfl, KN.toBelow⟩
theorem Assemble_imm_good (sg hx : Bool) (m : Nat) (hm : (m : Int) ≤ 18446744073709551615) (h : ¬ limI sg < (m : Int)) (y : Int) (hy : y = if sg then -(m : Int) else m) (w : World) :
    Calls Tryd.prog 8 #[.string (str (immT sg (immN hx m)))] w fun e w' => ∃ g cap, e = .returned (.tuple #[.slice (some ⟨g, 0, none⟩) 1 cap, .agg #[.int .i64 0, .int .i64 0], .int .i64 0]) ∧ 1 ≤ cap ∧ cap ≤ maxLen ∧ Kn [] w w' [(g, CapAt 35 5 cap ([(⟨1, 3, 0, 0, y⟩ : Ins)].map fun x => x.cells.toList))] := by
  refine (Assemble_any _ w (immT_len sg hx m hm)).mono ?_
  unfold AsmOut
  rw [data_str, asm_immT sg hx m hm, if_neg h, ← hy]
  rintro e w' ⟨v, ol, rfl, HV, KN⟩
  obtain ⟨g, cap, hv, hc1, hc2, hol⟩ := HV.pos (by simp)
  subst hv
  subst hol
  exact ⟨g, cap, rfl, hc1, hc2, KN⟩
set_option maxRecDepth 100000 in
set_option maxHeartbeats 40000000 in
theorem isaImmediates_any (v : Int) (hx : Bool) (w : World) (v0 : -9223372036854775808 ≤ v) (v1 : v ≤ 9223372036854775807) (hp : Pow w) :
    Calls Tryd.prog 5 #[.int .i64 v, .bool hx] w fun e w' => e = .returned (.bool true) ∧ Below w.heap.size w w' := by
  have KN := Kn.start w
  have HP := Lib.hid hp
  clear hp
  obtain ⟨m, sg, hm, hcs⟩ : ∃ (m : Nat) (sg : Bool), (m : Int) ≤ 9223372036854775808 ∧ ((sg = true ∧ v = -(m : Int) ∧ 0 < m) ∨ (sg = false ∧ v = m)) := by
    by_cases h : v < 0
    · exact ⟨v.natAbs, true, by omega, .inl ⟨rfl, by omega, by omega⟩⟩
    · exact ⟨v.natAbs, false, by omega, .inr ⟨rfl, by omega⟩⟩
  have hm' : (m : Int) ≤ 18446744073709551615 := by omega
  have HCS := Lib.hid hcs
  clear hcs
  go_enter Tryd.func5, Tryd.ntmps5
  go_upto_if 15 with fail
  go_cut [5, 6, 15] (fun s5 s6 _ wx => s5 = .int .u64 m ∧ s6 = .string (signS sg) ∧ w = wx)
  case first =>
    rcases HCS.out with ⟨rfl, rfl, h0⟩ | ⟨rfl, rfl⟩
    · clear HCS
      go_wp2_with fail
      go_meet
      case rel => exact ⟨by go_num, rfl, rfl⟩
    · clear HCS
      go_wp2_with fail
      go_meet
      case rel => exact ⟨by rw [show IntKind.u64.wrap (m : Int) = m from by rw [IntKind.wrap_u64]; omega], rfl, rfl⟩
  case rest =>
    obtain ⟨rfl, rfl, rfl⟩ := hcut
    go_upto_if 25 with (first | (go_at_call 16; refine (FormatP_any _ _ _ (TokRd.one KN (by repeat (first | exact Has.here | refine Has.there ?_))) (fewB_num m hm') (HP.out.below KN.toBelow)).mono ?_; rintro e wx ⟨rfl, hb⟩; rw [format_num]; replace KN := KN.below hb; clear hb) | ((with_reducible refine wpList_gate ?_); first | (refine wpList_kn_lit KN rfl 46 45 1 _ rfl 23 rfl Tryd.underlying46 (Tok.mk ⟨2, [], (m : Int)⟩ 0 0).cells (by kernel_rfl) ?_; clear KN; intro g23 wx hg23 KN) | ((refine gate_load (by rfl) ?_); first | (refine wpList_kn_loadW KN (by rfl) 25 _ rfl _ rfl _ _ (by repeat (first | exact Has.here | refine Has.there ?_)) _ Tryd.underlying25 rfl (by kernel_rfl) ?_) | (refine wpList_kn_loadW KN (by rfl) 35 _ rfl _ rfl _ _ (by repeat (first | exact Has.here | refine Has.there ?_)) _ Tryd.underlying35 rfl (by kernel_rfl) ?_)) | ((refine gate_store (by rfl) ?_); first | (refine wpList_kn_storeW KN (by rfl) 25 _ _ rfl _ rfl _ rfl _ _ (by repeat (first | exact Repl.here | apply Repl.there)) (by kernel_rfl) (by kernel_rfl) (by kernel_rfl) ?_; clear KN; intro wx KN) | (refine wpList_kn_storeA KN (by rfl) 25 _ _ rfl _ _ rfl _ rfl _ _ (by repeat (first | exact Repl.here | apply Repl.there)) (by (try simp only [Array.size_setIfInBounds, putL_size]); first | exact Nat.le_of_ble_eq_true rfl | (simp; omega)) (by kernel_rfl) (by kernel_rfl) ?_; clear KN; intro wx KN)) | ((refine gate_new (by rfl) ?_); first | (refine wpList_built rfl 45 _ rfl (Tok.mk ⟨2, [], (m : Int)⟩ 0 0).cells (by kernel_rfl) ?_) | (refine wpList_kn_alloc KN (by rfl) 25 rfl 10 rfl #[.int .i64 0, .int .i64 0] (by kernel_rfl) ?_; clear KN; intro g10 wx hg10 KN))))
    go_cut [7, 25] (fun s7 _ wc => s7 = .string (str (immN hx m)) ∧ wx = wc)
    case first =>
      rcases Bool.eq_false_or_eq_true hx with rfl | rfl
      · go_wp2_with fail
        go_loop [7, 8] (fun s y => ∃ (q : Nat) (t : ByteArray), q ≤ m ∧ t.size ≤ 16 ∧ s = .string t ∧ y = .int .u64 q ∧ ((t.size = 0 ∧ q = m) ∨ (0 < t.size ∧ 0 < q ∧ hexL m = hexL q ++ t.data.toList) ∨ (0 < t.size ∧ q = 0 ∧ hexL m = t.data.toList))) (fun s y => (intOf y).toNat + emptyN s)
        case atStart => exact ⟨m, ⟨#[]⟩, Nat.le_refl _, by decide, rfl, rfl, .inl ⟨rfl, rfl⟩⟩
        case round =>
          obtain ⟨q, t, hq, ht, rfl, rfl, hst⟩ := hrel
          have h15 := and15 q (by omega)
          have hj : q % 16 < 16 := Nat.mod_lt _ (by decide)
          have hj1 : (0 : Int) ≤ (q : Int) % 16 := by omega
          have hj2 : (q : Int) % 16 < 16 := by omega
          have hex := dig16L_at (q % 16) hj
          have HEX := Lib.hid hex
          have hsz : ((⟨#[48, 49, 50, 51, 52, 53, 54, 55, 56, 57, 97, 98, 99, 100, 101, 102]⟩ : ByteArray).extract (q % 16) (q % 16 + 1)).size = 1 := congrArg List.length hex
          have hx1' : (q : Int) ≤ 18446744073709551615 := by omega
          have hl16 := hexL_len16 hm'
          have HL16 := Lib.hid hl16
          clear hex hl16
          have next : hexL m = (if q / 16 = 0 then [] else hexL (q / 16)) ++ ((⟨#[48, 49, 50, 51, 52, 53, 54, 55, 56, 57, 97, 98, 99, 100, 101, 102]⟩ : ByteArray).extract (q % 16) (q % 16 + 1) ++ t).data.toList ∨ (0 < t.size ∧ q = 0) := by
            have hcat : ((⟨#[48, 49, 50, 51, 52, 53, 54, 55, 56, 57, 97, 98, 99, 100, 101, 102]⟩ : ByteArray).extract (q % 16) (q % 16 + 1) ++ t).data.toList = digH (q % 16) :: t.data.toList := by
              have h5 := HEX.out
              rw [show ((⟨#[48, 49, 50, 51, 52, 53, 54, 55, 56, 57, 97, 98, 99, 100, 101, 102]⟩ : ByteArray).extract (q % 16) (q % 16 + 1) ++ t).data.toList = ((⟨#[48, 49, 50, 51, 52, 53, 54, 55, 56, 57, 97, 98, 99, 100, 101, 102]⟩ : ByteArray).extract (q % 16) (q % 16 + 1)).data.toList ++ t.data.toList from by simp]
              rw [show ((⟨#[48, 49, 50, 51, 52, 53, 54, 55, 56, 57, 97, 98, 99, 100, 101, 102]⟩ : ByteArray).extract (q % 16) (q % 16 + 1)).data.toList = [digH (q % 16)] from h5]
              rfl
            have hnm : hexL q = (if q / 16 = 0 then [] else hexL (q / 16)) ++ [digH (q % 16)] := by
              by_cases hs : q < 16
              · rw [hexL_small hs, if_pos (by omega), Nat.mod_eq_of_lt hs]; rfl
              · rw [hexL_big (by omega), if_neg (by omega)]
            rcases hst with ⟨h0, h1⟩ | ⟨h0, h1, h2⟩ | ⟨h0, h1, h2⟩
            · left; rw [hcat, data_nil h0, ← h1, hnm]
            · left; rw [hcat, h2, hnm, List.append_assoc]; rfl
            · right; exact ⟨h0, h1⟩
          by_cases hstop : 0 < t.size ∧ q = 0
          · have hfin : str (immN true m) = ⟨#[48, 120]⟩ ++ t := by
              rcases hst with ⟨h0, h1⟩ | ⟨h0, h1, h2⟩ | ⟨h0, h1, h2⟩
              · omega
              · omega
              · refine bytes_ext ?_
                rw [data_str, show immN true m = [48, 120] ++ hexL m from rfl, h2]
                simp
            have HFIN := Lib.hid hfin
            obtain ⟨hs1, hs2⟩ := hstop
            have he2 := isEmpty_false hs1
            have he := not_empty_of_size hs1
            subst hs2
            clear hfin hst next HEX hsz h15
            go_wp2
            go_meet
            case rel => exact ⟨by rw [HFIN.out], rfl⟩
          · have hnx := next.resolve_right hstop
            have HNX := Lib.hid hnx
            have hcs : (0 < q) ∨ (q = 0 ∧ t.size = 0) := by omega
            have ht15 : t.size + 1 ≤ 16 := by
              have h5 := congrArg List.length hnx
              rw [List.length_append] at h5
              have h6 := HL16.out
              have h7 : ((⟨#[48, 49, 50, 51, 52, 53, 54, 55, 56, 57, 97, 98, 99, 100, 101, 102]⟩ : ByteArray).extract (q % 16) (q % 16 + 1) ++ t).data.toList.length = 1 + t.size := by
                rw [show ((⟨#[48, 49, 50, 51, 52, 53, 54, 55, 56, 57, 97, 98, 99, 100, 101, 102]⟩ : ByteArray).extract (q % 16) (q % 16 + 1) ++ t).data.toList.length = ((⟨#[48, 49, 50, 51, 52, 53, 54, 55, 56, 57, 97, 98, 99, 100, 101, 102]⟩ : ByteArray).extract (q % 16) (q % 16 + 1)).size + t.size from by rw [data_len, ByteArray.size_append], hsz]
              omega
            have hcz : ((⟨#[48, 49, 50, 51, 52, 53, 54, 55, 56, 57, 97, 98, 99, 100, 101, 102]⟩ : ByteArray).extract (q % 16) (q % 16 + 1) ++ t).size = 1 + t.size := by rw [ByteArray.size_append, hsz]
            have HCZ := Lib.hid hcz
            have fin : (0 < ((⟨#[48, 49, 50, 51, 52, 53, 54, 55, 56, 57, 97, 98, 99, 100, 101, 102]⟩ : ByteArray).extract (q % 16) (q % 16 + 1) ++ t).size ∧ 0 < q / 16 ∧ hexL m = hexL (q / 16) ++ ((⟨#[48, 49, 50, 51, 52, 53, 54, 55, 56, 57, 97, 98, 99, 100, 101, 102]⟩ : ByteArray).extract (q % 16) (q % 16 + 1) ++ t).data.toList) ∨ (0 < ((⟨#[48, 49, 50, 51, 52, 53, 54, 55, 56, 57, 97, 98, 99, 100, 101, 102]⟩ : ByteArray).extract (q % 16) (q % 16 + 1) ++ t).size ∧ q / 16 = 0 ∧ hexL m = ((⟨#[48, 49, 50, 51, 52, 53, 54, 55, 56, 57, 97, 98, 99, 100, 101, 102]⟩ : ByteArray).extract (q % 16) (q % 16 + 1) ++ t).data.toList) := by
              by_cases hq : q / 16 = 0
              · right; exact ⟨by omega, hq, by rw [hnx, if_pos hq]; rfl⟩
              · left; exact ⟨by omega, by omega, by rw [hnx, if_neg hq]⟩
            have FIN := Lib.hid fin
            clear hst next hnx hstop hcz fin
            rcases hcs with h0 | ⟨h0, h1⟩
            · go_wp2
              go_round
              case rel => exact ⟨q / 16, _, by omega, by rw [HCZ.out]; omega, rfl, by go_num, .inr FIN.out⟩
              case measure =>
                have h5 : emptyN (.string ((⟨#[48, 49, 50, 51, 52, 53, 54, 55, 56, 57, 97, 98, 99, 100, 101, 102]⟩ : ByteArray).extract (q % 16) (q % 16 + 1) ++ t)) = 0 := by simp only [emptyN, HCZ.out]; rw [if_neg (by omega)]
                rw [h5]
                simp only [intOf]; omega
            · have he := isEmpty_of_size h1
              have he2 : t.toList.isEmpty = true := by rw [he]; rfl
              have H1 := Lib.hid h1
              have h0' : q ≤ 0 := by omega
              clear h1 h0
              go_wp2
              go_round
              case rel => exact ⟨q / 16, _, by omega, by rw [HCZ.out]; omega, rfl, by go_num, .inr FIN.out⟩
              case measure =>
                have h5 : emptyN (.string ((⟨#[48, 49, 50, 51, 52, 53, 54, 55, 56, 57, 97, 98, 99, 100, 101, 102]⟩ : ByteArray).extract (q % 16) (q % 16 + 1) ++ t)) = 0 := by simp only [emptyN, HCZ.out]; rw [if_neg (by omega)]
                have h6 : emptyN (.string t) = 1 := by simp only [emptyN, H1.out]; rfl
                rw [h5, h6]
                simp only [intOf]; omega
      · go_wp2
        go_meet
        case rel => exact ⟨rfl, rfl⟩
    case rest =>
      obtain ⟨rfl, rfl⟩ := hcut
      obtain ⟨nt, hnt⟩ : ∃ nt, nt = str (immN hx m) := ⟨_, rfl⟩
      rw [← hnt]
      have hntl : nt.size ≤ 22 := by rw [hnt, str_size]; exact immN_len hx m hm'
      have hcat : (⟨#[108, 105, 32, 114, 51, 44, 32]⟩ : ByteArray) ++ signS sg ++ nt ++ ⟨#[59]⟩ = str (immT sg (immN hx m)) := by rw [hnt]; exact imm_cat sg _
      have HCAT := Lib.hid hcat
      have hs6 := signS_size sg
      clear hnt hcat
      have h3 : (sg = true ∧ v = -(m : Int) ∧ v < -2147483648) ∨ (sg = false ∧ v = m ∧ 2147483648 ≤ v) ∨ (-2147483648 ≤ v ∧ v < 2147483648 ∧ ¬ limI sg < (m : Int) ∧ v = if sg then -(m : Int) else m) := by
        rcases HCS.out with ⟨rfl, rfl, h0⟩ | ⟨rfl, rfl⟩
        · by_cases hb : (2147483648 : Int) < m
          · exact .inl ⟨rfl, rfl, by omega⟩
          · exact .inr (.inr ⟨by omega, by omega, by simpa [limI] using hb, rfl⟩)
        · by_cases hb : (2147483647 : Int) < m
          · exact .inr (.inl ⟨rfl, rfl, by omega⟩)
          · exact .inr (.inr ⟨by omega, by omega, by simpa [limI] using hb, rfl⟩)
      clear HCS
      rcases h3 with ⟨rfl, rfl, hv⟩ | ⟨rfl, rfl, hv⟩ | ⟨hv0, hv1, hlim, hvy⟩
      · have HB : Hid (limI true < (m : Int)) := Lib.hid (by show (2147483648 : Int) < m; omega)
        obtain ⟨s6, hs6e⟩ : ∃ s6, s6 = signS true := ⟨_, rfl⟩
        go_upto_region 15 with (first | (go_at_call 8; rw [HCAT.out]; refine (Assemble_imm_bad true hx m hm' HB.out _).mono ?_; rintro e wx ⟨pa, pc, rfl, hb⟩; replace KN := KN.below hb; clear hb) | ((with_reducible refine wpList_gate ?_); first | ((refine gate_load (by rfl) ?_); first | (refine wpList_kn_loadW KN (by rfl) 25 _ rfl _ rfl _ _ (by repeat (first | exact Has.here | refine Has.there ?_)) _ Tryd.underlying25 rfl (by kernel_rfl) ?_) | (refine wpList_kn_loadW KN (by rfl) 35 _ rfl _ rfl _ _ (by repeat (first | exact Has.here | refine Has.there ?_)) _ Tryd.underlying35 rfl (by kernel_rfl) ?_)) | ((refine gate_store (by rfl) ?_); first | (refine wpList_kn_storeW KN (by rfl) 25 _ _ rfl _ rfl _ rfl _ _ (by repeat (first | exact Repl.here | apply Repl.there)) (by kernel_rfl) (by kernel_rfl) (by kernel_rfl) ?_; clear KN; intro wx KN) | (refine wpList_kn_storeA KN (by rfl) 25 _ _ rfl _ _ rfl _ rfl _ _ (by repeat (first | exact Repl.here | apply Repl.there)) (by (try simp only [Array.size_setIfInBounds, putL_size]); first | exact Nat.le_of_ble_eq_true rfl | (simp; omega)) (by kernel_rfl) (by kernel_rfl) ?_; clear KN; intro wx KN)) | ((refine gate_new (by rfl) ?_); first | (refine wpList_kn_alloc KN (by rfl) 25 rfl 10 rfl #[.int .i64 0, .int .i64 0] (by kernel_rfl) ?_; clear KN; intro g10 wx hg10 KN))))
        rw [show signS true = ⟨#[45]⟩ from rfl]
        go_wp2_with (first | (go_at_call 7; refine (awake_any _).mono ?_; rintro e wx ⟨rfl, hb⟩; replace KN := KN.below hb; clear hb) | ((with_reducible refine wpList_gate ?_); first | ((refine gate_load (by rfl) ?_); first | (refine wpList_kn_loadW KN (by rfl) 25 _ rfl _ rfl _ _ (by repeat (first | exact Has.here | refine Has.there ?_)) _ Tryd.underlying25 rfl (by kernel_rfl) ?_) | (refine wpList_kn_loadW KN (by rfl) 35 _ rfl _ rfl _ _ (by repeat (first | exact Has.here | refine Has.there ?_)) _ Tryd.underlying35 rfl (by kernel_rfl) ?_)) | ((refine gate_store (by rfl) ?_); first | (refine wpList_kn_storeW KN (by rfl) 25 _ _ rfl _ rfl _ rfl _ _ (by repeat (first | exact Repl.here | apply Repl.there)) (by kernel_rfl) (by kernel_rfl) (by kernel_rfl) ?_; clear KN; intro wx KN) | (refine wpList_kn_storeA KN (by rfl) 25 _ _ rfl _ _ rfl _ rfl _ _ (by repeat (first | exact Repl.here | apply Repl.there)) (by (try simp only [Array.size_setIfInBounds, putL_size]); first | exact Nat.le_of_ble_eq_true rfl | (simp; omega)) (by kernel_rfl) (by kernel_rfl) ?_; clear KN; intro wx KN)) | ((refine gate_new (by rfl) ?_); first | (refine wpList_built rfl 25 _ rfl #[.int .i64 1, .int .i64 9] (by kernel_rfl) ?_) | (refine wpList_kn_alloc KN (by rfl) 25 rfl 10 rfl #[.int .i64 0, .int .i64 0] (by kernel_rfl) ?_; clear KN; intro g10 wx hg10 KN)) | ((refine gate_cmp (by rfl) ?_); first | (refine wpList_kn_eql (by rfl) 25 _ _ _ rfl #[.int .i64 1, .int .i64 9] (by kernel_rfl) (by kernel_rfl) (by kernel_rfl) (by kernel_rfl) ?_))))
        go_ret
        exact ⟨rfl, KN.toBelow⟩
      · have HB : Hid (limI false < (m : Int)) := Lib.hid (by show (2147483647 : Int) < m; omega)
        go_upto_region 15 with (first | (go_at_call 8; rw [HCAT.out]; refine (Assemble_imm_bad false hx m hm' HB.out _).mono ?_; rintro e wx ⟨pa, pc, rfl, hb⟩; replace KN := KN.below hb; clear hb) | ((with_reducible refine wpList_gate ?_); first | ((refine gate_load (by rfl) ?_); first | (refine wpList_kn_loadW KN (by rfl) 25 _ rfl _ rfl _ _ (by repeat (first | exact Has.here | refine Has.there ?_)) _ Tryd.underlying25 rfl (by kernel_rfl) ?_) | (refine wpList_kn_loadW KN (by rfl) 35 _ rfl _ rfl _ _ (by repeat (first | exact Has.here | refine Has.there ?_)) _ Tryd.underlying35 rfl (by kernel_rfl) ?_)) | ((refine gate_store (by rfl) ?_); first | (refine wpList_kn_storeW KN (by rfl) 25 _ _ rfl _ rfl _ rfl _ _ (by repeat (first | exact Repl.here | apply Repl.there)) (by kernel_rfl) (by kernel_rfl) (by kernel_rfl) ?_; clear KN; intro wx KN) | (refine wpList_kn_storeA KN (by rfl) 25 _ _ rfl _ _ rfl _ rfl _ _ (by repeat (first | exact Repl.here | apply Repl.there)) (by (try simp only [Array.size_setIfInBounds, putL_size]); first | exact Nat.le_of_ble_eq_true rfl | (simp; omega)) (by kernel_rfl) (by kernel_rfl) ?_; clear KN; intro wx KN)) | ((refine gate_new (by rfl) ?_); first | (refine wpList_kn_alloc KN (by rfl) 25 rfl 10 rfl #[.int .i64 0, .int .i64 0] (by kernel_rfl) ?_; clear KN; intro g10 wx hg10 KN))))
        rw [show signS false = ⟨#[]⟩ from rfl]
        go_wp2_with (first | (go_at_call 7; refine (awake_any _).mono ?_; rintro e wx ⟨rfl, hb⟩; replace KN := KN.below hb; clear hb) | ((with_reducible refine wpList_gate ?_); first | ((refine gate_load (by rfl) ?_); first | (refine wpList_kn_loadW KN (by rfl) 25 _ rfl _ rfl _ _ (by repeat (first | exact Has.here | refine Has.there ?_)) _ Tryd.underlying25 rfl (by kernel_rfl) ?_) | (refine wpList_kn_loadW KN (by rfl) 35 _ rfl _ rfl _ _ (by repeat (first | exact Has.here | refine Has.there ?_)) _ Tryd.underlying35 rfl (by kernel_rfl) ?_)) | ((refine gate_store (by rfl) ?_); first | (refine wpList_kn_storeW KN (by rfl) 25 _ _ rfl _ rfl _ rfl _ _ (by repeat (first | exact Repl.here | apply Repl.there)) (by kernel_rfl) (by kernel_rfl) (by kernel_rfl) ?_; clear KN; intro wx KN) | (refine wpList_kn_storeA KN (by rfl) 25 _ _ rfl _ _ rfl _ rfl _ _ (by repeat (first | exact Repl.here | apply Repl.there)) (by (try simp only [Array.size_setIfInBounds, putL_size]); first | exact Nat.le_of_ble_eq_true rfl | (simp; omega)) (by kernel_rfl) (by kernel_rfl) ?_; clear KN; intro wx KN)) | ((refine gate_new (by rfl) ?_); first | (refine wpList_built rfl 25 _ rfl #[.int .i64 1, .int .i64 8] (by kernel_rfl) ?_) | (refine wpList_kn_alloc KN (by rfl) 25 rfl 10 rfl #[.int .i64 0, .int .i64 0] (by kernel_rfl) ?_; clear KN; intro g10 wx hg10 KN)) | ((refine gate_cmp (by rfl) ?_); first | (refine wpList_kn_eql (by rfl) 25 _ _ _ rfl #[.int .i64 1, .int .i64 8] (by kernel_rfl) (by kernel_rfl) (by kernel_rfl) (by kernel_rfl) ?_))))
        go_ret
        exact ⟨rfl, KN.toBelow⟩
      · have HB := Lib.hid hlim
        have HVY := Lib.hid hvy
        clear hlim hvy
        go_upto_region 15 with (first | (go_at_call 8; rw [HCAT.out]; refine (Assemble_imm_good sg hx m hm' HB.out v HVY.out _).mono ?_; rintro e wx ⟨g, cap, rfl, hc1, hc2, K2⟩; replace KN := KN.call0 K2; clear K2) | ((with_reducible refine wpList_gate ?_); first | ((refine gate_load (by rfl) ?_); first | (refine wpList_kn_loadW KN (by rfl) 25 _ rfl _ rfl _ _ (by repeat (first | exact Has.here | refine Has.there ?_)) _ Tryd.underlying25 rfl (by kernel_rfl) ?_) | (refine wpList_kn_loadW KN (by rfl) 35 _ rfl _ rfl _ _ (by repeat (first | exact Has.here | refine Has.there ?_)) _ Tryd.underlying35 rfl (by kernel_rfl) ?_)) | ((refine gate_store (by rfl) ?_); first | (refine wpList_kn_storeW KN (by rfl) 25 _ _ rfl _ rfl _ rfl _ _ (by repeat (first | exact Repl.here | apply Repl.there)) (by kernel_rfl) (by kernel_rfl) (by kernel_rfl) ?_; clear KN; intro wx KN) | (refine wpList_kn_storeA KN (by rfl) 25 _ _ rfl _ _ rfl _ rfl _ _ (by repeat (first | exact Repl.here | apply Repl.there)) (by (try simp only [Array.size_setIfInBounds, putL_size]); first | exact Nat.le_of_ble_eq_true rfl | (simp; omega)) (by kernel_rfl) (by kernel_rfl) ?_; clear KN; intro wx KN)) | ((refine gate_new (by rfl) ?_); first | (refine wpList_kn_alloc KN (by rfl) 25 rfl 10 rfl #[.int .i64 0, .int .i64 0] (by kernel_rfl) ?_; clear KN; intro g10 wx hg10 KN))))
        have c0 : wx.cell? ⟨g, 0, none⟩ = some (.int .i64 1) := KN.elem (g := g) (e := 35) (sz := 5) (cap := cap) (i := 0) (j := 0) (by repeat (first | exact Has.here | refine Has.there ?_)) (insLen [(⟨1, 3, 0, 0, v⟩ : Ins)]) rfl rfl
        have c1 : wx.cell? ⟨g, 1, none⟩ = some (.int .i64 3) := KN.elem (g := g) (e := 35) (sz := 5) (cap := cap) (i := 0) (j := 1) (by repeat (first | exact Has.here | refine Has.there ?_)) (insLen [(⟨1, 3, 0, 0, v⟩ : Ins)]) rfl rfl
        have c2 : wx.cell? ⟨g, 2, none⟩ = some (.int .i64 0) := KN.elem (g := g) (e := 35) (sz := 5) (cap := cap) (i := 0) (j := 2) (by repeat (first | exact Has.here | refine Has.there ?_)) (insLen [(⟨1, 3, 0, 0, v⟩ : Ins)]) rfl rfl
        have c3 : wx.cell? ⟨g, 3, none⟩ = some (.int .i64 0) := KN.elem (g := g) (e := 35) (sz := 5) (cap := cap) (i := 0) (j := 3) (by repeat (first | exact Has.here | refine Has.there ?_)) (insLen [(⟨1, 3, 0, 0, v⟩ : Ins)]) rfl rfl
        have c4 : wx.cell? ⟨g, 4, none⟩ = some (.int .i32 v) := KN.elem (g := g) (e := 35) (sz := 5) (cap := cap) (i := 0) (j := 4) (by repeat (first | exact Has.here | refine Has.there ?_)) (insLen [(⟨1, 3, 0, 0, v⟩ : Ins)]) rfl rfl
        go_wp2_with (first | (go_at_call 7; refine (awake_any _).mono ?_; rintro e wx ⟨rfl, hb⟩; replace KN := KN.below hb; clear hb) | ((with_reducible refine wpList_gate ?_); first | ((refine gate_load (by rfl) ?_); first | (refine wpList_kn_loadW KN (by rfl) 25 _ rfl _ rfl _ _ (by repeat (first | exact Has.here | refine Has.there ?_)) _ Tryd.underlying25 rfl (by kernel_rfl) ?_) | (refine wpList_kn_loadW KN (by rfl) 35 _ rfl _ rfl _ _ (by repeat (first | exact Has.here | refine Has.there ?_)) _ Tryd.underlying35 rfl (by kernel_rfl) ?_)) | ((refine gate_store (by rfl) ?_); first | (refine wpList_kn_storeW KN (by rfl) 25 _ _ rfl _ rfl _ rfl _ _ (by repeat (first | exact Repl.here | apply Repl.there)) (by kernel_rfl) (by kernel_rfl) (by kernel_rfl) ?_; clear KN; intro wx KN) | (refine wpList_kn_storeA KN (by rfl) 25 _ _ rfl _ _ rfl _ rfl _ _ (by repeat (first | exact Repl.here | apply Repl.there)) (by (try simp only [Array.size_setIfInBounds, putL_size]); first | exact Nat.le_of_ble_eq_true rfl | (simp; omega)) (by kernel_rfl) (by kernel_rfl) ?_; clear KN; intro wx KN)) | ((refine gate_new (by rfl) ?_); first | (refine wpList_built rfl 35 _ rfl (Ins.mk 1 3 0 0 v).cells (by kernel_rfl) ?_) | (refine wpList_kn_alloc KN (by rfl) 25 rfl 10 rfl #[.int .i64 0, .int .i64 0] (by kernel_rfl) ?_; clear KN; intro g10 wx hg10 KN)) | ((refine gate_cmp (by rfl) ?_); first | (refine wpList_kn_eql (by rfl) 35 _ _ _ rfl (Ins.mk 1 3 0 0 v).cells (by kernel_rfl) (by kernel_rfl) (by kernel_rfl) (by kernel_rfl) ?_))))
        go_ret
        exact ⟨rfl, KN.toBelow⟩
end Go.Proofs.YtemigcdieghkfaaDoor
