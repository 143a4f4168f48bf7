/- LexNumbers' walk. -/
import Derived.Test.YtmeicjndfblglaaNumPlain
namespace Go.Proofs.Ytmeicjndfblglaa
open Go.RowKit

theorem Place64 (v : Int) (h0 : -9223372036854775808 ≤ v) (h1 : v ≤ 9223372036854775807) (w : World) :
    Calls Try.prog 17 #[.int .i64 v, .int .i64 64] w fun e w' => (∃ k : Nat, k < 64 ∧ e = .returned (.int .i64 k)) ∧ w = w' := by
  have key : ∀ r : Int, 0 ≤ r → r < 64 → ∃ k : Nat, k < 64 ∧ Ending.returned (.int .i64 r) = Ending.returned (.int .i64 (k : Int)) := fun r a b => ⟨r.toNat, by omega, ret_int (by omega)⟩
  have KEY := Lib.hid key
  obtain ⟨hb1, hb2⟩ := tmod_bd v 64 (by decide)
  clear key
  by_cases hneg : v.tmod 64 < 0
  all_goals
    go_enter Try.func17, Try.ntmps17
    go_wp2
    go_ret
    exact ⟨KEY.out _ (by omega) (by omega), rfl⟩
theorem Place4 (v : Int) (h0 : -9223372036854775808 ≤ v) (h1 : v ≤ 9223372036854775807) (w : World) :
    Calls Try.prog 17 #[.int .i64 v, .int .i64 4] w fun e w' => (∃ k : Nat, k < 4 ∧ e = .returned (.int .i64 k)) ∧ w = w' := by
  have key : ∀ r : Int, 0 ≤ r → r < 4 → ∃ k : Nat, k < 4 ∧ Ending.returned (.int .i64 r) = Ending.returned (.int .i64 (k : Int)) := fun r a b => ⟨r.toNat, by omega, ret_int (by omega)⟩
  have KEY := Lib.hid key
  obtain ⟨hb1, hb2⟩ := tmod_bd v 4 (by decide)
  clear key
  by_cases hneg : v.tmod 4 < 0
  all_goals
    go_enter Try.func17, Try.ntmps17
    go_wp2
    go_ret
    exact ⟨KEY.out _ (by omega) (by omega), rfl⟩

theorem and15 (m : Nat) (h : (m : Int) ≤ 18446744073709551615) : bits BinOp.and IntKind.u64 (m : Int) 15 = (m : Int) % 16 := by
  have h1 := bits_and_u64_nat m 15 (by omega) (by omega)
  have h2 : m &&& 15 = m % 16 := Nat.and_two_pow_sub_one_eq_mod m 4
  rw [h2] at h1
  have h3 : ((m % 16 : Nat) : Int) = (m : Int) % 16 := by omega
  exact h1.trans h3
def dig16 : ByteArray := ⟨#[48, 49, 50, 51, 52, 53, 54, 55, 56, 57, 97, 98, 99, 68, 69, 70]⟩
theorem dig16_at : ∀ j < 16, (dig16.extract j (j + 1)).data.toList = [digC 16 j] := by decide
def emptyN : Value → Nat | .string s => if s.size = 0 then 1 else 0 | _ => 0
def dig10 : ByteArray := ⟨#[48, 49, 50, 51, 52, 53, 54, 55, 56, 57]⟩
theorem dig10_at : ∀ j < 10, (dig10.extract j (j + 1)).data.toList = [digC 10 j] := by decide

theorem Decimal_any (n : Nat) (hn : (n : Int) ≤ 18446744073709551615) (w : World) :
    Calls Try.prog 18 #[.int .u64 n] w fun e w' => e = .returned (.string (str (numL 10 n))) ∧ w = w' := by
  go_enter Try.func18, Try.ntmps18
  go_wp2_with fail
  go_loop [0, 3] (fun v s => ∃ (m : Nat) (t : ByteArray), m ≤ n ∧ numL 10 n = numL 10 m ++ t.data.toList ∧ v = .int .u64 m ∧ s = .string t) (fun v _ => (intOf v).toNat)
  case atStart => exact ⟨n, ⟨#[]⟩, Nat.le_refl _, by simp, rfl, rfl⟩
  case round =>
    obtain ⟨m, t, hm, heq, rfl, rfl⟩ := hrel
    have HEQ := Lib.hid heq
    have ht : t.size ≤ 20 := by
      have h5 := congrArg List.length heq
      rw [List.length_append, data_len] at h5
      have := numL_len10 hn
      omega
    clear heq
    by_cases hge : 10 ≤ m
    · have hj : m % 10 < 10 := Nat.mod_lt _ (by decide)
      have hex := dig10_at (m % 10) hj
      have HEX := Lib.hid hex
      have hsz : ((⟨#[48, 49, 50, 51, 52, 53, 54, 55, 56, 57]⟩ : ByteArray).extract (m % 10) (m % 10 + 1)).size = 1 := congrArg List.length hex
      clear hex
      go_wp2
      go_round
      case rel =>
        refine ⟨m / 10, _, by omega, ?_, by go_num, rfl⟩
        rw [HEQ.out, numL_big hge (by decide), ← HEX.out]
        simp [dig10]
      case measure => simp [intOf]; omega
    · have hex := dig10_at m (by omega)
      have HEX := Lib.hid hex
      have hsz : ((⟨#[48, 49, 50, 51, 52, 53, 54, 55, 56, 57]⟩ : ByteArray).extract m (m + 1)).size = 1 := congrArg List.length hex
      clear hex
      go_wp2
      go_ret
      refine ⟨ret_str ?_, rfl⟩
      refine bytes_ext ?_
      rw [data_str, HEQ.out, numL_small (by omega), ← HEX.out]
      simp [dig10]
set_option maxRecDepth 100000 in
set_option maxHeartbeats 4000000 in
theorem LexNumbers_any (v bits suf : Int) (hx : Bool) (w : World) (hv0 : 0 ≤ v) (hv1 : v ≤ 18446744073709551615) (hb0 : -9223372036854775808 ≤ bits) (hb1 : bits ≤ 9223372036854775807) (hs0 : -9223372036854775808 ≤ suf) (hs1 : suf ≤ 9223372036854775807) :
    Calls Try.prog 7 #[.int .u64 v, .int .i64 bits, .int .i64 suf, .bool hx] w fun e w' => e = .returned (.bool true) ∧ Below w.heap.size w w' := by
  go_enter Try.func7, Try.ntmps7
  go_upto_region 1 with fail
  go_cut [9] (fun s9 wx => ∃ x : Nat, (x : Int) ≤ 18446744073709551615 ∧ s9 = .int .u64 x ∧ w = wx)
  case first =>
    go_wp2_with fail
    refine (Place64 bits hb0 hb1 _).mono ?_
    rintro e w' ⟨⟨p, hp, rfl⟩, rfl⟩
    go_wp2
    go_meet
    case rel =>
      have h2 : 0 ≤ v / 2 ^ p := Int.ediv_nonneg hv0 (Int.pow_nonneg (by decide))
      have h3 : v / 2 ^ p ≤ v := Int.ediv_le_self _ hv0
      exact ⟨(v / 2 ^ p).toNat, by omega, vint (by omega), rfl⟩
  case rest =>
    obtain ⟨x, hx1, rfl, rfl⟩ := hcut
    go_wp2_with fail
    refine (Place4 suf hs0 hs1 _).mono ?_
    rintro e w' ⟨⟨k, hk, rfl⟩, rfl⟩
    go_wp2_with fail
    refine (Decimal_any x hx1 _).mono ?_
    rintro e w' ⟨rfl, rfl⟩
    go_upto_if 26 with fail
    go_cut [11, 26] (fun s11 _ wx => s11 = .string (str (numText hx x)) ∧ w = wx)
    case first =>
      rcases Bool.eq_false_or_eq_true hx with rfl | rfl
      · go_wp2_with fail
        go_loop [11, 12] (fun s y => ∃ (m : Nat) (t : ByteArray), m ≤ x ∧ t.size ≤ 16 ∧ s = .string t ∧ y = .int .u64 m ∧ ((t.size = 0 ∧ m = x) ∨ (0 < t.size ∧ 0 < m ∧ numL 16 x = numL 16 m ++ t.data.toList) ∨ (0 < t.size ∧ m = 0 ∧ numL 16 x = t.data.toList))) (fun s y => (intOf y).toNat + emptyN s)
        case atStart => exact ⟨x, ⟨#[]⟩, Nat.le_refl _, by decide, rfl, rfl, .inl ⟨rfl, rfl⟩⟩
        case round =>
          obtain ⟨m, t, hm, ht, rfl, rfl, hst⟩ := hrel
          have h15 := and15 m (by omega)
          have hj : m % 16 < 16 := Nat.mod_lt _ (by decide)
          have hj1 : (0 : Int) ≤ (m : Int) % 16 := by omega
          have hj2 : (m : Int) % 16 < 16 := by omega
          have hex := dig16_at (m % 16) hj
          have HEX := Lib.hid hex
          have hsz : ((⟨#[48, 49, 50, 51, 52, 53, 54, 55, 56, 57, 97, 98, 99, 68, 69, 70]⟩ : ByteArray).extract (m % 16) (m % 16 + 1)).size = 1 := congrArg List.length hex
          have hx1' : (m : Int) ≤ 18446744073709551615 := by omega
          have hl16 := numL_len16 hx1
          have HL16 := Lib.hid hl16
          clear hex hl16
          have next : numL 16 x = (if m / 16 = 0 then [] else numL 16 (m / 16)) ++ ((⟨#[48, 49, 50, 51, 52, 53, 54, 55, 56, 57, 97, 98, 99, 68, 69, 70]⟩ : ByteArray).extract (m % 16) (m % 16 + 1) ++ t).data.toList ∨ (0 < t.size ∧ m = 0) := by
            have hcat : ((⟨#[48, 49, 50, 51, 52, 53, 54, 55, 56, 57, 97, 98, 99, 68, 69, 70]⟩ : ByteArray).extract (m % 16) (m % 16 + 1) ++ t).data.toList = digC 16 (m % 16) :: t.data.toList := by
              have h5 := HEX.out
              rw [show ((⟨#[48, 49, 50, 51, 52, 53, 54, 55, 56, 57, 97, 98, 99, 68, 69, 70]⟩ : ByteArray).extract (m % 16) (m % 16 + 1) ++ t).data.toList = ((⟨#[48, 49, 50, 51, 52, 53, 54, 55, 56, 57, 97, 98, 99, 68, 69, 70]⟩ : ByteArray).extract (m % 16) (m % 16 + 1)).data.toList ++ t.data.toList from by simp]
              rw [show ((⟨#[48, 49, 50, 51, 52, 53, 54, 55, 56, 57, 97, 98, 99, 68, 69, 70]⟩ : ByteArray).extract (m % 16) (m % 16 + 1)).data.toList = [digC 16 (m % 16)] from h5]
              rfl
            have hnm : numL 16 m = (if m / 16 = 0 then [] else numL 16 (m / 16)) ++ [digC 16 (m % 16)] := by
              by_cases hs : m < 16
              · rw [numL_small hs, if_pos (by omega), Nat.mod_eq_of_lt hs]; rfl
              · rw [numL_big (by omega) (by decide), if_neg (by omega)]
            rcases hst with ⟨h0, h1⟩ | ⟨h0, h1, h2⟩ | ⟨h0, h1, h2⟩
            · left; rw [hcat, data_nil h0, ← h1, hnm]
            · left; rw [hcat, h2, hnm, List.append_assoc]; rfl
            · right; exact ⟨h0, h1⟩
          by_cases hstop : 0 < t.size ∧ m = 0
          · have hfin : str (numText true x) = ⟨#[48, 120]⟩ ++ t := by
              rcases hst with ⟨h0, h1⟩ | ⟨h0, h1, h2⟩ | ⟨h0, h1, h2⟩
              · omega
              · omega
              · refine bytes_ext ?_
                rw [data_str, show numText true x = [48, 120] ++ numL 16 x from rfl, h2]
                simp
            have HFIN := Lib.hid hfin
            obtain ⟨hs1, hs2⟩ := hstop
            have he2 := isEmpty_false hs1
            have he := not_empty_of_size hs1
            subst hs2
            clear hfin hst next HEX hsz h15
            go_wp2
            go_meet
            case rel => exact ⟨by rw [HFIN.out], rfl⟩
          · have hnx := next.resolve_right hstop
            have HNX := Lib.hid hnx
            have hcs : (0 < m) ∨ (m = 0 ∧ t.size = 0) := by omega
            have ht15 : t.size + 1 ≤ 16 := by
              have h5 := congrArg List.length hnx
              rw [List.length_append] at h5
              have h6 := HL16.out
              have h7 : ((⟨#[48, 49, 50, 51, 52, 53, 54, 55, 56, 57, 97, 98, 99, 68, 69, 70]⟩ : ByteArray).extract (m % 16) (m % 16 + 1) ++ t).data.toList.length = 1 + t.size := by
                rw [show ((⟨#[48, 49, 50, 51, 52, 53, 54, 55, 56, 57, 97, 98, 99, 68, 69, 70]⟩ : ByteArray).extract (m % 16) (m % 16 + 1) ++ t).data.toList.length = ((⟨#[48, 49, 50, 51, 52, 53, 54, 55, 56, 57, 97, 98, 99, 68, 69, 70]⟩ : ByteArray).extract (m % 16) (m % 16 + 1)).size + t.size from by rw [data_len, ByteArray.size_append], hsz]
              omega
            have hcz : ((⟨#[48, 49, 50, 51, 52, 53, 54, 55, 56, 57, 97, 98, 99, 68, 69, 70]⟩ : ByteArray).extract (m % 16) (m % 16 + 1) ++ t).size = 1 + t.size := by rw [ByteArray.size_append, hsz]
            have HCZ := Lib.hid hcz
            have fin : (0 < ((⟨#[48, 49, 50, 51, 52, 53, 54, 55, 56, 57, 97, 98, 99, 68, 69, 70]⟩ : ByteArray).extract (m % 16) (m % 16 + 1) ++ t).size ∧ 0 < m / 16 ∧ numL 16 x = numL 16 (m / 16) ++ ((⟨#[48, 49, 50, 51, 52, 53, 54, 55, 56, 57, 97, 98, 99, 68, 69, 70]⟩ : ByteArray).extract (m % 16) (m % 16 + 1) ++ t).data.toList) ∨ (0 < ((⟨#[48, 49, 50, 51, 52, 53, 54, 55, 56, 57, 97, 98, 99, 68, 69, 70]⟩ : ByteArray).extract (m % 16) (m % 16 + 1) ++ t).size ∧ m / 16 = 0 ∧ numL 16 x = ((⟨#[48, 49, 50, 51, 52, 53, 54, 55, 56, 57, 97, 98, 99, 68, 69, 70]⟩ : ByteArray).extract (m % 16) (m % 16 + 1) ++ t).data.toList) := by
              by_cases hq : m / 16 = 0
              · right; exact ⟨by omega, hq, by rw [hnx, if_pos hq]; rfl⟩
              · left; exact ⟨by omega, by omega, by rw [hnx, if_neg hq]⟩
            have FIN := Lib.hid fin
            clear hst next hnx hstop hcz fin
            rcases hcs with h0 | ⟨h0, h1⟩
            · go_wp2
              go_round
              case rel => exact ⟨m / 16, _, by omega, by rw [HCZ.out]; omega, rfl, by go_num, .inr FIN.out⟩
              case measure =>
                have h5 : emptyN (.string ((⟨#[48, 49, 50, 51, 52, 53, 54, 55, 56, 57, 97, 98, 99, 68, 69, 70]⟩ : ByteArray).extract (m % 16) (m % 16 + 1) ++ t)) = 0 := by simp only [emptyN, HCZ.out]; rw [if_neg (by omega)]
                rw [h5]
                simp only [intOf]; omega
            · have he := isEmpty_of_size h1
              have he2 : t.toList.isEmpty = true := by rw [he]; rfl
              have H1 := Lib.hid h1
              have h0' : m ≤ 0 := by omega
              clear h1 h0
              go_wp2
              go_round
              case rel => exact ⟨m / 16, _, by omega, by rw [HCZ.out]; omega, rfl, by go_num, .inr FIN.out⟩
              case measure =>
                have h5 : emptyN (.string ((⟨#[48, 49, 50, 51, 52, 53, 54, 55, 56, 57, 97, 98, 99, 68, 69, 70]⟩ : ByteArray).extract (m % 16) (m % 16 + 1) ++ t)) = 0 := by simp only [emptyN, HCZ.out]; rw [if_neg (by omega)]
                have h6 : emptyN (.string t) = 1 := by simp only [emptyN, H1.out]; rfl
                rw [h5, h6]
                simp only [intOf]; omega
      · go_wp2
        go_meet
        case rel => exact ⟨rfl, rfl⟩
    case rest =>
      obtain ⟨rfl, rfl⟩ := hcut
      obtain ⟨nt, hnt⟩ : ∃ nt, nt = str (numText hx x) := ⟨_, rfl⟩
      rw [← hnt]
      have hntl : nt.size ≤ 22 := by
        rw [hnt]
        show (numText hx x).toArray.size ≤ 22
        rw [List.size_toArray]
        unfold numText
        have h1 := numL_len10 hx1
        have h2 := numL_len16 hx1
        split
        · simp only [List.length_append, List.length_cons, List.length_nil]; omega
        · omega
      have HNT := Lib.hid hnt
      clear hnt
      have hcat : ∀ (k : Nat) (su : ByteArray), su.data.toList = sufL k → ((⟨#[32, 32]⟩ : ByteArray) ++ nt ++ su).data.toList = [32, 32] ++ (numText hx x ++ sufL k) := by
        intro k su h
        have h1 : ∀ a b : ByteArray, (a ++ b).data.toList = a.data.toList ++ b.data.toList := fun a b => by simp
        rw [h1, h1, h, HNT.out, data_str, List.append_assoc]
      have hlen : ∀ k, k < 4 → (numText hx x ++ sufL k).length ≤ 60000 := by
        intro k hk
        have h1 : (numText hx x).length = nt.size := by rw [HNT.out]; show _ = (numText hx x).toArray.size; simp
        have h2 : (sufL k).length ≤ 1 := by
          have h4 : k = 0 ∨ k = 1 ∨ k = 2 ∨ k = 3 := by omega
          rcases h4 with rfl | rfl | rfl | rfl <;> decide
        rw [List.length_append]; omega
      have h4 : k = 0 ∨ k = 1 ∨ k = 2 ∨ k = 3 := by omega
      have HCAT := Lib.hid hcat
      have HLEN := Lib.hid hlen
      clear hcat hlen hb0 hb1 hs0 hs1 hv0 hv1
      rcases h4 with rfl | rfl | rfl | rfl
      · have hsc := scan_text hx x (k := 0) (by decide) (HLEN.out 0 (by decide))
        rw [← HCAT.out 0 ⟨#[]⟩ rfl] at hsc
        have hss : ((⟨#[32, 32]⟩ : ByteArray) ++ nt ++ ⟨#[]⟩).size ≤ maxLen := by
          rw [ByteArray.size_append, ByteArray.size_append]; show 2 + nt.size + 0 ≤ maxLen; unfold maxLen; omega
        rw [show most / 2 ^ (10 * 0) = 18446744073709551615 from by decide, show ((x : Int) * 2 ^ (10 * 0)) = x * 1 from by rw [show (2 : Int) ^ (10 * 0) = 1 from by decide]] at hsc
        have HSS := Lib.hid hss
        clear hss
        by_cases hbig : (18446744073709551615 : Int) < x
        · exfalso; omega
        · rw [if_neg hbig, Int.mul_one] at hsc
          have HSC := Lib.hid hsc
          clear hsc
          go_wp2_with fail
          refine (ScanP_any _ _ HSS.out).mono ?_
          intro e w1 hp
          obtain ⟨va, rfl, hta, hb1⟩ := scan_post HSC.out hp
          have HB1 := Lib.hid hb1
          have hz1 := hb1.size
          rcases hta.2 with ⟨h0, _⟩ | ⟨g, o, c, hv, _, hg, hcells⟩
          · exact absurd h0 (by simp)
          · subst hv
            obtain ⟨x0, x1, x2, _, _⟩ := hcells 0 _ rfl
            simp only [Nat.zero_mul, Nat.add_zero] at x0 x1 x2
            replace x0 : w1.cell? ⟨g, o, none⟩ = some (.int .i64 2) := x0
            replace x1 : w1.cell? ⟨g, o + 1, none⟩ = some (.string ⟨#[]⟩) := x1
            replace x2 : w1.cell? ⟨g, o + 2, none⟩ = some (.int .u64 (x)) := x2
            have hg1 : g < w1.heap.size + 1 := by omega
            clear hta hb1 hp hcells
            go_wp2_with (go_at_call 10; refine (awake_any _).mono ?_; rintro e w2 ⟨rfl, hb2⟩)
            go_ret
            refine ⟨rfl, ?_⟩
            have c1 := (((Below.refl _ _).alloc (Nat.le_refl _) _).trans (HB1.out.mono (by simp))).alloc (by simp at hz1; omega) (.cells #[.int .i64 0, .int .i64 0] 35)
            exact c1.trans (Below.mono (B := (w1.alloc (.cells #[.int .i64 0, .int .i64 0] 35)).heap.size) (by assumption) (by simp at hz1 ⊢; omega))
      · have hsc := scan_text hx x (k := 1) (by decide) (HLEN.out 1 (by decide))
        rw [← HCAT.out 1 ⟨#[75]⟩ rfl] at hsc
        have hss : ((⟨#[32, 32]⟩ : ByteArray) ++ nt ++ ⟨#[75]⟩).size ≤ maxLen := by
          rw [ByteArray.size_append, ByteArray.size_append]; show 2 + nt.size + 1 ≤ maxLen; unfold maxLen; omega
        rw [show most / 2 ^ (10 * 1) = 18014398509481983 from by decide, show ((x : Int) * 2 ^ (10 * 1)) = x * 1024 from by rw [show (2 : Int) ^ (10 * 1) = 1024 from by decide]] at hsc
        have HSS := Lib.hid hss
        clear hss
        by_cases hbig : (18014398509481983 : Int) < x
        · rw [if_pos hbig] at hsc
          have HSC := Lib.hid hsc
          clear hsc
          go_wp2_with fail
          refine (ScanP_any _ _ HSS.out).mono ?_
          intro e w1 hp
          obtain ⟨va, rfl, hta, hb1⟩ := scan_post HSC.out hp
          have HB1 := Lib.hid hb1
          have hz1 := hb1.size
          have hva : ∃ sa cap, va = .slice sa 0 cap := by
            rcases hta.2 with ⟨_, h⟩ | ⟨g, o, c, h, _⟩
            · exact ⟨_, _, h⟩
            · exact ⟨_, _, h⟩
          obtain ⟨sa, cap, rfl⟩ := hva
          clear hta hb1 hp
          go_wp2_with (go_at_call 10; refine (awake_any _).mono ?_; rintro e w2 ⟨rfl, hb2⟩)
          go_ret
          refine ⟨rfl, ?_⟩
          have c1 := (((Below.refl _ _).alloc (Nat.le_refl _) _).trans (HB1.out.mono (by simp))).alloc (by simp at hz1; omega) (.cells #[.int .i64 1, .int .i64 3] 35)
          exact c1.trans (Below.mono (B := (w1.alloc (.cells #[.int .i64 1, .int .i64 3] 35)).heap.size) (by assumption) (by simp at hz1 ⊢; omega))
        · rw [if_neg hbig] at hsc
          have hxp0 : (0 : Int) ≤ (x : Int) * 1024 := by omega
          have hxp : (x : Int) * 1024 ≤ 18446744073709551615 := by omega
          have HSC := Lib.hid hsc
          clear hsc
          go_wp2_with fail
          refine (ScanP_any _ _ HSS.out).mono ?_
          intro e w1 hp
          obtain ⟨va, rfl, hta, hb1⟩ := scan_post HSC.out hp
          have HB1 := Lib.hid hb1
          have hz1 := hb1.size
          rcases hta.2 with ⟨h0, _⟩ | ⟨g, o, c, hv, _, hg, hcells⟩
          · exact absurd h0 (by simp)
          · subst hv
            obtain ⟨x0, x1, x2, _, _⟩ := hcells 0 _ rfl
            simp only [Nat.zero_mul, Nat.add_zero] at x0 x1 x2
            replace x0 : w1.cell? ⟨g, o, none⟩ = some (.int .i64 2) := x0
            replace x1 : w1.cell? ⟨g, o + 1, none⟩ = some (.string ⟨#[]⟩) := x1
            replace x2 : w1.cell? ⟨g, o + 2, none⟩ = some (.int .u64 ((x : Int) * 1024)) := x2
            have hg1 : g < w1.heap.size + 1 := by omega
            clear hta hb1 hp hcells
            go_wp2_with (go_at_call 10; refine (awake_any _).mono ?_; rintro e w2 ⟨rfl, hb2⟩)
            go_ret
            refine ⟨rfl, ?_⟩
            have c1 := (((Below.refl _ _).alloc (Nat.le_refl _) _).trans (HB1.out.mono (by simp))).alloc (by simp at hz1; omega) (.cells #[.int .i64 0, .int .i64 0] 35)
            exact c1.trans (Below.mono (B := (w1.alloc (.cells #[.int .i64 0, .int .i64 0] 35)).heap.size) (by assumption) (by simp at hz1 ⊢; omega))
      · have hsc := scan_text hx x (k := 2) (by decide) (HLEN.out 2 (by decide))
        rw [← HCAT.out 2 ⟨#[77]⟩ rfl] at hsc
        have hss : ((⟨#[32, 32]⟩ : ByteArray) ++ nt ++ ⟨#[77]⟩).size ≤ maxLen := by
          rw [ByteArray.size_append, ByteArray.size_append]; show 2 + nt.size + 1 ≤ maxLen; unfold maxLen; omega
        rw [show most / 2 ^ (10 * 2) = 17592186044415 from by decide, show ((x : Int) * 2 ^ (10 * 2)) = x * 1048576 from by rw [show (2 : Int) ^ (10 * 2) = 1048576 from by decide]] at hsc
        have HSS := Lib.hid hss
        clear hss
        by_cases hbig : (17592186044415 : Int) < x
        · rw [if_pos hbig] at hsc
          have HSC := Lib.hid hsc
          clear hsc
          go_wp2_with fail
          refine (ScanP_any _ _ HSS.out).mono ?_
          intro e w1 hp
          obtain ⟨va, rfl, hta, hb1⟩ := scan_post HSC.out hp
          have HB1 := Lib.hid hb1
          have hz1 := hb1.size
          have hva : ∃ sa cap, va = .slice sa 0 cap := by
            rcases hta.2 with ⟨_, h⟩ | ⟨g, o, c, h, _⟩
            · exact ⟨_, _, h⟩
            · exact ⟨_, _, h⟩
          obtain ⟨sa, cap, rfl⟩ := hva
          clear hta hb1 hp
          go_wp2_with (go_at_call 10; refine (awake_any _).mono ?_; rintro e w2 ⟨rfl, hb2⟩)
          go_ret
          refine ⟨rfl, ?_⟩
          have c1 := (((Below.refl _ _).alloc (Nat.le_refl _) _).trans (HB1.out.mono (by simp))).alloc (by simp at hz1; omega) (.cells #[.int .i64 1, .int .i64 3] 35)
          exact c1.trans (Below.mono (B := (w1.alloc (.cells #[.int .i64 1, .int .i64 3] 35)).heap.size) (by assumption) (by simp at hz1 ⊢; omega))
        · rw [if_neg hbig] at hsc
          have hxp0 : (0 : Int) ≤ (x : Int) * 1048576 := by omega
          have hxp : (x : Int) * 1048576 ≤ 18446744073709551615 := by omega
          have HSC := Lib.hid hsc
          clear hsc
          go_wp2_with fail
          refine (ScanP_any _ _ HSS.out).mono ?_
          intro e w1 hp
          obtain ⟨va, rfl, hta, hb1⟩ := scan_post HSC.out hp
          have HB1 := Lib.hid hb1
          have hz1 := hb1.size
          rcases hta.2 with ⟨h0, _⟩ | ⟨g, o, c, hv, _, hg, hcells⟩
          · exact absurd h0 (by simp)
          · subst hv
            obtain ⟨x0, x1, x2, _, _⟩ := hcells 0 _ rfl
            simp only [Nat.zero_mul, Nat.add_zero] at x0 x1 x2
            replace x0 : w1.cell? ⟨g, o, none⟩ = some (.int .i64 2) := x0
            replace x1 : w1.cell? ⟨g, o + 1, none⟩ = some (.string ⟨#[]⟩) := x1
            replace x2 : w1.cell? ⟨g, o + 2, none⟩ = some (.int .u64 ((x : Int) * 1048576)) := x2
            have hg1 : g < w1.heap.size + 1 := by omega
            clear hta hb1 hp hcells
            go_wp2_with (go_at_call 10; refine (awake_any _).mono ?_; rintro e w2 ⟨rfl, hb2⟩)
            go_ret
            refine ⟨rfl, ?_⟩
            have c1 := (((Below.refl _ _).alloc (Nat.le_refl _) _).trans (HB1.out.mono (by simp))).alloc (by simp at hz1; omega) (.cells #[.int .i64 0, .int .i64 0] 35)
            exact c1.trans (Below.mono (B := (w1.alloc (.cells #[.int .i64 0, .int .i64 0] 35)).heap.size) (by assumption) (by simp at hz1 ⊢; omega))
      · have hsc := scan_text hx x (k := 3) (by decide) (HLEN.out 3 (by decide))
        rw [← HCAT.out 3 ⟨#[71]⟩ rfl] at hsc
        have hss : ((⟨#[32, 32]⟩ : ByteArray) ++ nt ++ ⟨#[71]⟩).size ≤ maxLen := by
          rw [ByteArray.size_append, ByteArray.size_append]; show 2 + nt.size + 1 ≤ maxLen; unfold maxLen; omega
        rw [show most / 2 ^ (10 * 3) = 17179869183 from by decide, show ((x : Int) * 2 ^ (10 * 3)) = x * 1073741824 from by rw [show (2 : Int) ^ (10 * 3) = 1073741824 from by decide]] at hsc
        have HSS := Lib.hid hss
        clear hss
        by_cases hbig : (17179869183 : Int) < x
        · rw [if_pos hbig] at hsc
          have HSC := Lib.hid hsc
          clear hsc
          go_wp2_with fail
          refine (ScanP_any _ _ HSS.out).mono ?_
          intro e w1 hp
          obtain ⟨va, rfl, hta, hb1⟩ := scan_post HSC.out hp
          have HB1 := Lib.hid hb1
          have hz1 := hb1.size
          have hva : ∃ sa cap, va = .slice sa 0 cap := by
            rcases hta.2 with ⟨_, h⟩ | ⟨g, o, c, h, _⟩
            · exact ⟨_, _, h⟩
            · exact ⟨_, _, h⟩
          obtain ⟨sa, cap, rfl⟩ := hva
          clear hta hb1 hp
          go_wp2_with (go_at_call 10; refine (awake_any _).mono ?_; rintro e w2 ⟨rfl, hb2⟩)
          go_ret
          refine ⟨rfl, ?_⟩
          have c1 := (((Below.refl _ _).alloc (Nat.le_refl _) _).trans (HB1.out.mono (by simp))).alloc (by simp at hz1; omega) (.cells #[.int .i64 1, .int .i64 3] 35)
          exact c1.trans (Below.mono (B := (w1.alloc (.cells #[.int .i64 1, .int .i64 3] 35)).heap.size) (by assumption) (by simp at hz1 ⊢; omega))
        · rw [if_neg hbig] at hsc
          have hxp0 : (0 : Int) ≤ (x : Int) * 1073741824 := by omega
          have hxp : (x : Int) * 1073741824 ≤ 18446744073709551615 := by omega
          have HSC := Lib.hid hsc
          clear hsc
          go_wp2_with fail
          refine (ScanP_any _ _ HSS.out).mono ?_
          intro e w1 hp
          obtain ⟨va, rfl, hta, hb1⟩ := scan_post HSC.out hp
          have HB1 := Lib.hid hb1
          have hz1 := hb1.size
          rcases hta.2 with ⟨h0, _⟩ | ⟨g, o, c, hv, _, hg, hcells⟩
          · exact absurd h0 (by simp)
          · subst hv
            obtain ⟨x0, x1, x2, _, _⟩ := hcells 0 _ rfl
            simp only [Nat.zero_mul, Nat.add_zero] at x0 x1 x2
            replace x0 : w1.cell? ⟨g, o, none⟩ = some (.int .i64 2) := x0
            replace x1 : w1.cell? ⟨g, o + 1, none⟩ = some (.string ⟨#[]⟩) := x1
            replace x2 : w1.cell? ⟨g, o + 2, none⟩ = some (.int .u64 ((x : Int) * 1073741824)) := x2
            have hg1 : g < w1.heap.size + 1 := by omega
            clear hta hb1 hp hcells
            go_wp2_with (go_at_call 10; refine (awake_any _).mono ?_; rintro e w2 ⟨rfl, hb2⟩)
            go_ret
            refine ⟨rfl, ?_⟩
            have c1 := (((Below.refl _ _).alloc (Nat.le_refl _) _).trans (HB1.out.mono (by simp))).alloc (by simp at hz1; omega) (.cells #[.int .i64 0, .int .i64 0] 35)
            exact c1.trans (Below.mono (B := (w1.alloc (.cells #[.int .i64 0, .int .i64 0] 35)).heap.size) (by assumption) (by simp at hz1 ⊢; omega))
end Go.Proofs.Ytmeicjndfblglaa
