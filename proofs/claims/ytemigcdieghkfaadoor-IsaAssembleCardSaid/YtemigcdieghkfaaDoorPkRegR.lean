/- The reference's Register and mnemonic. -/
import Derived.Test.YtemigcdieghkfaaDoorPkParR2
import Derived.Test.YtemigcdieghkfaaDoorPkRefG
import Derived.Test.YtemigcdieghkfaaDoorPkLexP
import Derived.Test.YtemigcdieghkfaaDoorPkRoundG
set_option linter.unusedVariables false
set_option linter.unusedSimpArgs false
set_option linter.unusedSectionVars false
namespace Go.Proofs.YtemigcdieghkfaaDoor
open Go.RowKit Go.BigFrame

theorem fmt_get : ∀ k, k < 28 → fmtA[k * 2]? = some (.string (str (mnemL.getD k []))) := by
  intro k hk
  obtain rfl | rfl | rfl | rfl | rfl | rfl | rfl | rfl | rfl | rfl | rfl | rfl | rfl | rfl | rfl | rfl | rfl | rfl | rfl | rfl | rfl | rfl | rfl | rfl | rfl | rfl | rfl | rfl : k = 0 ∨ k = 1 ∨ k = 2 ∨ k = 3 ∨ k = 4 ∨ k = 5 ∨ k = 6 ∨ k = 7 ∨ k = 8 ∨ k = 9 ∨ k = 10 ∨ k = 11 ∨ k = 12 ∨ k = 13 ∨ k = 14 ∨ k = 15 ∨ k = 16 ∨ k = 17 ∨ k = 18 ∨ k = 19 ∨ k = 20 ∨ k = 21 ∨ k = 22 ∨ k = 23 ∨ k = 24 ∨ k = 25 ∨ k = 26 ∨ k = 27 := by omega
  all_goals rfl
theorem regFrom_at {s : List UInt8} {k : Nat} (hk : s = regName k) : ∀ (f n : Nat), n ≤ k → k < n + f → (∀ j, n ≤ j → j < k → ¬ s = regName j) → regFrom s f n = k
  | 0, n, h1, h2, _ => by omega
  | f + 1, n, h1, h2, h => by
    rw [regFrom]
    by_cases e : n = k
    · subst e; rw [if_pos hk]
    · rw [if_neg (h n (Nat.le_refl _) (by omega)), regFrom_at hk f (n + 1) (by omega) (by omega) (fun j hj hlt => h j (by omega) hlt)]
theorem mnemFrom_at {s : List UInt8} {k : Nat} (hk : mnemL.getD k [] = s) : ∀ (f n : Nat), n ≤ k → k < n + f → (∀ j, n ≤ j → j < k → ¬ mnemL.getD j [] = s) → mnemFrom s f n = k
  | 0, n, h1, h2, _ => by omega
  | f + 1, n, h1, h2, h => by
    rw [mnemFrom]
    by_cases e : n = k
    · subst e; rw [if_pos hk]
    · rw [if_neg (h n (Nat.le_refl _) (by omega)), mnemFrom_at hk f (n + 1) (by omega) (by omega) (fun j hj hlt => h j (by omega) hlt)]
theorem mnemFrom_no {s : List UInt8} : ∀ (f n : Nat), (∀ j, j < n + f → ¬ mnemL.getD j [] = s) → mnemFrom s f n = -1
  | 0, _, _ => rfl
  | f + 1, n, h => by rw [mnemFrom, if_neg (h n (by omega)), mnemFrom_no f (n + 1) (fun j hj => h j (by omega))]
set_option maxRecDepth 100000 in
set_option maxHeartbeats 4000000 in
theorem Register_any (s : List UInt8) (w : World) : Calls Tryd.prog 71 #[.string (str s)] w fun e w' => e = .returned (.int .i64 (regOf s)) ∧ w = w' := by
  obtain ⟨b, hb⟩ : ∃ b, b = str s := ⟨_, rfl⟩
  rw [← hb]
  have HB := Lib.hid hb
  clear hb
  go_enter Tryd.func71, Tryd.ntmps71
  go_wp2_with fail
  go_loop [3] (fun i => ∃ k : Nat, i = .int .i64 (k : Int) ∧ k ≤ 16 ∧ ∀ j, j < k → ¬ s = regName j) (fun i => 16 - (intOf i).toNat)
  case atStart => exact ⟨0, rfl, by decide, fun j hj => by omega⟩
  case round =>
    obtain ⟨k, rfl, hk, hno⟩ := hrel
    have HNO := Lib.hid hno
    clear hno
    by_cases hlt : k < 16
    · obtain ⟨r, hr⟩ : ∃ r, r = str (numL 10 k) := ⟨_, rfl⟩
      have hrl : r.size ≤ 20 := by rw [hr, str_size]; exact numL_len10 (by omega)
      have he : (b.toList == ((⟨#[114]⟩ : ByteArray) ++ r).toList) = decide (s = regName k) := by
        rw [HB.out, hr, Lib.toList_data, Lib.toList_data, regName_num k hlt, Bool.eq_iff_iff]
        simp [str]
      have HR := Lib.hid hr
      clear hr
      by_cases hq : s = regName k
      · rw [decide_eq_true hq] at he
        have HX : Hid (regOf s = k) := Lib.hid (regFrom_at hq 16 0 (by omega) (by omega) (fun j _ hj => HNO.out j hj))
        clear hq
        go_wp2_with (go_at_call 53; refine (Decimal_any k (by omega) _).mono ?_; rw [← HR.out]; rintro e w' ⟨rfl, rfl⟩)
        go_ret
        exact ⟨by rw [HX.out]; rfl, rfl⟩
      · rw [decide_eq_false hq] at he
        have HQ := Lib.hid hq
        clear hq
        go_wp2_with (go_at_call 53; refine (Decimal_any k (by omega) _).mono ?_; rw [← HR.out]; rintro e w' ⟨rfl, rfl⟩)
        go_round
        case rel =>
          refine ⟨k + 1, by go_num, by omega, fun j hj => ?_⟩
          by_cases e : j = k
          · subst e; exact HQ.out
          · exact HNO.out j (by omega)
        case measure => simp [intOf]; omega
    · have hk16 : k = 16 := by omega
      have HX : Hid (regOf s = -1) := Lib.hid (regFrom_no 16 0 (fun j hj => HNO.out j (by omega)))
      go_wp2_with fail
      go_ret
      exact ⟨by rw [HX.out]; rfl, rfl⟩
set_option maxRecDepth 100000 in
set_option maxHeartbeats 4000000 in
theorem mnemonic_any (s : List UInt8) (w : World) : Calls Tryd.prog 72 #[.string (str s)] w fun e w' => e = .returned (.int .i64 (mnemIx s)) ∧ Below w.heap.size w w' := by
  obtain ⟨b, hb⟩ : ∃ b, b = str s := ⟨_, rfl⟩
  rw [← hb]
  have HB := Lib.hid hb
  have KN := Kn.start w
  clear hb
  go_enter Tryd.func72, Tryd.ntmps72
  go_wp2_with (first | (go_at_call 54; refine (table_any _).mono ?_; rintro e wx ⟨rfl, hb⟩; replace KN := KN.below hb; clear hb) | ((with_reducible refine wpList_gate ?_); first | (refine wpList_kn_alloc KN (by rfl) 116 rfl 3 rfl (Array.replicate 56 (.string ByteArray.empty)) (by kernel_rfl) ?_; clear KN; intro g3 wx hg3 KN) | (refine wpList_kn_storeW KN (by rfl) 116 _ _ rfl _ rfl fmtA rfl _ _ (by repeat (first | exact Repl.here | apply Repl.there)) (by kernel_rfl) (by kernel_rfl) (by kernel_rfl) ?_; clear KN; intro wx KN)))
  go_loopw [4] (fun i wr => ∃ k : Nat, i = .int .i64 (k : Int) ∧ k ≤ 28 ∧ (∀ j, j < k → ¬ mnemL.getD j [] = s) ∧ Kn [] w wr [(g3, At fmtA 116)]) (fun i _ => 28 - (intOf i).toNat)
  case atStart => exact ⟨0, rfl, by decide, fun j hj => by omega, KN⟩
  case round =>
    clear KN
    obtain ⟨k, rfl, hk, hno, KN⟩ := hrel
    have HNO := Lib.hid hno
    clear hno
    by_cases hlt : k < 28
    · have c0 : wr.cell? ⟨g3, k * 2, none⟩ = some (.string (str (mnemL.getD k []))) := by
        have := KN.cell (g := g3) (o := k * 2) (cs := fmtA) (T := 116) (v := .string (str (mnemL.getD k []))) (by repeat (first | exact Has.here | refine Has.there ?_)) (fmt_get k hlt)
        exact this
      obtain ⟨r, hr⟩ : ∃ r, r = str (mnemL.getD k []) := ⟨_, rfl⟩
      have he : (r.toList == b.toList) = decide (mnemL.getD k [] = s) := by
        rw [HB.out, hr, Lib.toList_data, Lib.toList_data, data_str, data_str, Bool.eq_iff_iff]; simp
      rw [← hr] at c0
      clear hr
      by_cases hq : mnemL.getD k [] = s
      · rw [decide_eq_true hq] at he
        have HX : Hid (mnemIx s = k) := Lib.hid (mnemFrom_at hq 28 0 (by omega) (by omega) (fun j _ hj => HNO.out j hj))
        clear hq
        go_wp2_with fail
        go_ret
        exact ⟨by rw [HX.out]; rfl, KN.toBelow⟩
      · rw [decide_eq_false hq] at he
        have HQ := Lib.hid hq
        clear hq
        go_wp2_with fail
        go_roundw
        case rel =>
          refine ⟨k + 1, by go_num, by omega, fun j hj => ?_, KN⟩
          by_cases e : j = k
          · subst e; exact HQ.out
          · exact HNO.out j (by omega)
        case measure => simp [intOf]; omega
    · have HX : Hid (mnemIx s = -1) := Lib.hid (mnemFrom_no 28 0 (fun j hj => HNO.out j (by omega)))
      go_wp2_with fail
      go_ret
      exact ⟨by rw [HX.out]; rfl, KN.toBelow⟩
end Go.Proofs.YtemigcdieghkfaaDoor
