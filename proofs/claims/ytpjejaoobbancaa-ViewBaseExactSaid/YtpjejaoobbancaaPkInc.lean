/- include, where what is included is greater than all that is there. -/
import Derived.Test.YtpjejaoobbancaaPkExc
set_option linter.unusedVariables false
set_option linter.unusedSimpArgs false
set_option linter.unusedSectionVars false
namespace Go.Proofs.Ytpjejaoobbancaa
open Go.RowKit Go.BigFrame

theorem cisNaN_any (x : Int) (w : World) : Calls Try.prog 80 #[.int .i64 x] w fun e w' => e = .returned (.bool false) ∧ w = w' := by
  have hq : (x == x) = true := beq_self_eq_true _
  go_enter Try.func80, Try.ntmps80
  go_wp2
  go_ret
  exact ⟨rfl, rfl⟩
theorem Less_any (x y : Int) (w : World) : Calls Try.prog 67 #[.int .i64 x, .int .i64 y] w fun e w' => e = .returned (.bool (decide (x < y))) ∧ w = w' := by
  obtain ⟨b, hb⟩ : ∃ b, b = decide (x < y) := ⟨_, rfl⟩
  rw [← hb]
  go_enter Try.func67, Try.ntmps67
  go_wp2_with (go_at_call 80; refine (cisNaN_any _ _).mono ?_; rintro e wx ⟨rfl, rfl⟩)
  go_ret
  exact ⟨by rw [hb]; rfl, rfl⟩
set_option maxRecDepth 100000 in
theorem BinarySearch_end {w : World} {v : Value} {zs : List Int} (h : Row w v 1 (intRows zs)) (t : Int) (hall : ∀ z ∈ zs, z < t) (hn : zs.length ≤ 1000000) :
    Calls Try.prog 52 #[v, .int .i64 t] w fun e w' => e = .returned (.tuple #[.int .i64 (zs.length : Int), .bool false]) ∧ w = w' := by
  obtain ⟨a, c, rfl, hm, hc⟩ := ints_form h
  obtain ⟨n, hn'⟩ : ∃ n, n = zs.length := ⟨_, rfl⟩
  have HN := Lib.hid hn'
  have HC := Lib.hid hc
  have HALL := Lib.hid hall
  rw [← hn'] at hn ⊢
  clear h hc hm hn' hall
  go_enter Try.func52, Try.ntmps52
  go_wp2
  go_loop [7, 8, 9] (fun i j _ => ∃ k : Nat, i = .int .i64 (k : Int) ∧ k ≤ n ∧ j = .int .i64 (n : Int)) (fun i _ _ => n - (intOf i).toNat)
  case atStart => exact ⟨0, rfl, Nat.zero_le _, rfl⟩
  case round =>
    obtain ⟨k, rfl, hk, rfl⟩ := hrel
    by_cases hlt : k < n
    · obtain ⟨q, hq⟩ : ∃ q, q = (k + n) / 2 := ⟨_, rfl⟩
      have hq1 : k ≤ q := by omega
      have hq2 : q < n := by omega
      obtain ⟨x, hx⟩ : ∃ x, zs[q]? = some x := ⟨_, List.getElem?_eq_getElem (by rw [← HN.out]; exact hq2)⟩
      obtain ⟨g, off, rfl, hg, hc1, hc2, hcell⟩ := HC.out q x hx
      have hxt : decide (x < t) = true := decide_eq_true (HALL.out x (List.mem_of_getElem? hx))
      have HXT := Lib.hid hxt
      have hc1' : n ≤ c := by rw [HN.out]; exact hc1
      unfold maxLen at hc2
      clear hx hc1 hxt
      go_upto_region 5 with fail
      (try go_frame)
      have hqi : ((k : Int) + (n : Int)) / 2 = (q : Int) := by omega
      rw [hqi]
      clear hqi hq
      go_wp2_with (go_at_call 67; refine (Less_any _ _ _).mono ?_; rw [HXT.out]; rintro e wx ⟨rfl, rfl⟩)
      go_round
      case rel => exact ⟨q + 1, by go_num, by omega, rfl⟩
      case measure => simp [intOf]; omega
    · obtain rfl : k = n := by omega
      go_wp2
      refine bodyPost_ret (results_tmp2 rfl _ _ _) rfl ?_
      exact ⟨rfl, rfl⟩
theorem OwnT.caps {e : TypeId} {sz : Nat} {v : Value} {L : List (List Value)} {ol : Ents} (h : OwnT e sz v L ol) : ∀ a n c, v = .slice a n c → n ≤ c ∧ c ≤ maxLen := by
  cases h with
  | nil => intro a n c h; simp only [Value.slice.injEq] at h; omega
  | blk h1 h2 _ => intro a n c h; simp only [Value.slice.injEq] at h; omega
set_option maxRecDepth 100000 in
/-- slices.Insert at the end of a slice of the call's own. -/
theorem Insert_end {W w : World} {v : Value} {zs : List Int} {ol : Ents} {f : Ents → Ents} (KN : Kn [] W w (f ol)) (hf : TailF f) (OW : OwnT 3 1 v (intRows zs) ol) (hn : zs.length ≤ 1000000) {gx : Nat} (z : Int) (hx : Has (f ol) gx (At #[.int .i64 z] 3)) :
    Calls Try.prog 53 #[v, .int .i64 (zs.length : Int), .slice (some ⟨gx, 0, none⟩) 1 1] w fun e w' => ∃ v' ol', e = .returned v' ∧ OwnT 3 1 v' (intRows (zs ++ [z])) ol' ∧ Kn [] W w' (f ol') := by
  have hrow : Row w (.slice (some ⟨gx, 0, none⟩) 1 1) 1 (intRows [z]) := Row.of_blk (KN.at_ hx) rfl (intRows_len _) rfl (by show 1 ≤ maxLen; decide) (by show 0 < 1; decide)
  have HROW := Lib.hid hrow
  have HO := Lib.hid OW
  have HF := Lib.hid hf
  obtain ⟨sa, sn, sc, rfl, hsn⟩ := OW.form4
  rw [List.length_map] at hsn
  have HSN := Lib.hid hsn
  rw [← hsn] at hn ⊢
  obtain ⟨hcap, hscm⟩ := OW.caps _ _ _ rfl
  unfold maxLen at hscm
  clear hrow OW hf hx hsn
  rcases Nat.lt_or_eq_of_le hcap with hcs | hcs
  · have hne : ¬ sc = sn := by omega
    clear hcs
    go_enter Try.func53, Try.ntmps53
    go_wp2_with (at_builtin; refine wpList_kn_appendR KN HO.out (by rfl) _ _ 22 rfl 8 Try.underlying22 int_info (by decide) rfl (.slice (some ⟨gx, 0, none⟩) 1 1) rfl _ HROW.out (intRows_len _) (intRows_one _) (by rw [List.length_map, List.length_map, ← HSN.out]; unfold maxLen; simp; omega) (by rw [List.length_map, List.length_map, ← HSN.out]; simp; omega) HF.out rfl ?_; clear KN; intro v25 wx ol25 OW25 KN; have HO25 := Lib.hid OW25; clear OW25)
    go_ret
    exact ⟨v25, ol25, rfl, by have := HO25.out; rwa [← List.map_append] at this, KN⟩
  · subst hcs
    go_enter Try.func53, Try.ntmps53
    go_wp2_with (at_builtin; refine wpList_kn_appendR KN HO.out (by rfl) _ _ 22 rfl 8 Try.underlying22 int_info (by decide) rfl (.slice (some ⟨gx, 0, none⟩) 1 1) rfl _ HROW.out (intRows_len _) (intRows_one _) (by rw [List.length_map, List.length_map, ← HSN.out]; unfold maxLen; simp; omega) (by rw [List.length_map, List.length_map, ← HSN.out]; simp; omega) HF.out rfl ?_; clear KN; intro v25 wx ol25 OW25 KN; have HO25 := Lib.hid OW25; clear OW25)
    go_ret
    exact ⟨v25, ol25, rfl, by have := HO25.out; rwa [← List.map_append] at this, KN⟩
set_option maxRecDepth 100000 in
/-- include of what is greater than all. -/
theorem include_end {W w : World} {v : Value} {zs : List Int} {ol : Ents} {f : Ents → Ents} (KN : Kn [] W w (f ol)) (hf : TailF f) (OW : OwnT 3 1 v (intRows zs) ol) (hn : zs.length ≤ 1000000) (z : Int) (hall : ∀ y ∈ zs, y < z) :
    Calls Try.prog 26 #[v, .int .i64 z] w fun e w' => ∃ v' ol' gx, e = .returned v' ∧ OwnT 3 1 v' (intRows (zs ++ [z])) ol' ∧ Kn [] W w' ((gx, At #[.int .i64 z] 3) :: f ol') := by
  have HBS := Lib.hid (BinarySearch_end (OW.row KN hf) z hall hn)
  have HO := Lib.hid OW
  have HF := Lib.hid hf
  obtain ⟨sa, sn, sc, rfl, hsn⟩ := OW.form4
  clear OW hf hall hsn
  go_enter Try.func26, Try.ntmps26
  go_wp2_with (first | (go_at_call 52; refine HBS.out.mono ?_; rintro e wx ⟨rfl, rfl⟩) | (refine wpList_kn_lit KN (by rfl) 22 3 1 _ rfl 18 rfl Try.underlying22 #[.int .i64 z] (by kernel_rfl) ?_; clear KN; intro g18 wx hg18 KN) | (go_at_call 53; refine (Insert_end (f := fun o => (g18, _) :: f o) KN (.cons _ HF.out) HO.out hn z .here).mono ?_; rintro e wx ⟨v2, ol2, rfl, O2, K2⟩; have HO2 := Lib.hid O2; clear KN; have KN := K2; clear K2 O2))
  go_ret
  exact ⟨v2, ol2, g18, rfl, HO2.out, KN⟩
end Go.Proofs.Ytpjejaoobbancaa
