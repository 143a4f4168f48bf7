/- The reference's Signed and compute. (Printed by gen_comp.py.) -/
import Derived.Test.YtbllialcfmpkaaaWaitF
import Derived.Test.YtbllialcfmpkaaaSigned
import Derived.Test.YtbllialcfmpkaaaAlu
set_option linter.unusedVariables false
set_option linter.unusedSimpArgs false
set_option linter.unusedSectionVars false
namespace Go.Proofs.Ytbllialcfmpkaaa
open Go.RowKit
theorem mask32_any (w : World) : Calls Try.prog 40 #[.int .i64 32] w fun e w' => e = .returned (.int .u64 4294967295) ∧ w = w' := mask_any 32 w (by decide)
theorem RSigned32_any (v : Int) (w : World) (h0 : 0 ≤ v) (h1 : v ≤ 18446744073709551615) :
    Calls Try.prog 26 #[.int .i64 32, .int .u64 v] w fun e w' => e = .returned (.int .i64 (signed 32 v)) ∧ w = w' := by
  have hm := mask32 v h0 h1
  obtain ⟨q, hq⟩ : ∃ q, q = v % 4294967296 := ⟨_, rfl⟩
  have q0 : 0 ≤ q := by omega
  have q1 : q < 4294967296 := by omega
  have hs : signed 32 v = if 2147483648 ≤ q then q - 4294967296 else q := by
    unfold signed; rw [show wide 32 = true from rfl, if_pos rfl, show pw2 32 = 4294967296 from rfl, hq]; split <;> split <;> omega
  have HS := Lib.hid hs
  rw [← hq] at hm
  have HM := Lib.hid hm
  clear hs hm hq
  by_cases hc : 2147483648 ≤ q
  · have d1 : ((q / 2147483648) == 1) = true := by rw [beq_iff_eq]; omega
    go_enter Try.func26, Try.ntmps26
    go_wp2_with (first | (go_at_call 41; refine (wide_any _ _).mono ?_; rintro e w' ⟨rfl, rfl⟩) | (go_at_call 40; refine (mask32_any _).mono ?_; rintro e w' ⟨rfl, rfl⟩; have hm := HM.out; clear HM))
    go_ret
    exact ⟨ret_int (by rw [HS.out, if_pos (by omega)]), rfl⟩
  · have d1 : ((q / 2147483648) == 1) = false := by rw [beq_eq_false_iff_ne]; omega
    go_enter Try.func26, Try.ntmps26
    go_wp2_with (first | (go_at_call 41; refine (wide_any _ _).mono ?_; rintro e w' ⟨rfl, rfl⟩) | (go_at_call 40; refine (mask32_any _).mono ?_; rintro e w' ⟨rfl, rfl⟩; have hm := HM.out; clear HM))
    go_ret
    exact ⟨ret_int (by rw [HS.out, if_neg (by omega)]), rfl⟩
theorem mask39_any (w : World) : Calls Try.prog 40 #[.int .i64 39] w fun e w' => e = .returned (.int .u64 549755813887) ∧ w = w' := mask_any 39 w (by decide)
theorem RSigned39_any (v : Int) (w : World) (h0 : 0 ≤ v) (h1 : v ≤ 18446744073709551615) :
    Calls Try.prog 26 #[.int .i64 39, .int .u64 v] w fun e w' => e = .returned (.int .i64 (signed 39 v)) ∧ w = w' := by
  have hm := mask39 v h0 h1
  obtain ⟨q, hq⟩ : ∃ q, q = v % 549755813888 := ⟨_, rfl⟩
  have q0 : 0 ≤ q := by omega
  have q1 : q < 549755813888 := by omega
  have hs : signed 39 v = if 274877906944 ≤ q then q - 549755813888 else q := by
    unfold signed; rw [show wide 39 = true from rfl, if_pos rfl, show pw2 39 = 549755813888 from rfl, hq]; split <;> split <;> omega
  have HS := Lib.hid hs
  rw [← hq] at hm
  have HM := Lib.hid hm
  clear hs hm hq
  by_cases hc : 274877906944 ≤ q
  · have d1 : ((q / 274877906944) == 1) = true := by rw [beq_iff_eq]; omega
    go_enter Try.func26, Try.ntmps26
    go_wp2_with (first | (go_at_call 41; refine (wide_any _ _).mono ?_; rintro e w' ⟨rfl, rfl⟩) | (go_at_call 40; refine (mask39_any _).mono ?_; rintro e w' ⟨rfl, rfl⟩; have hm := HM.out; clear HM))
    go_ret
    exact ⟨ret_int (by rw [HS.out, if_pos (by omega)]), rfl⟩
  · have d1 : ((q / 274877906944) == 1) = false := by rw [beq_eq_false_iff_ne]; omega
    go_enter Try.func26, Try.ntmps26
    go_wp2_with (first | (go_at_call 41; refine (wide_any _ _).mono ?_; rintro e w' ⟨rfl, rfl⟩) | (go_at_call 40; refine (mask39_any _).mono ?_; rintro e w' ⟨rfl, rfl⟩; have hm := HM.out; clear HM))
    go_ret
    exact ⟨ret_int (by rw [HS.out, if_neg (by omega)]), rfl⟩
theorem RSigned_any (n v : Int) (w : World) (h0 : 0 ≤ v) (h1 : v ≤ 18446744073709551615) :
    Calls Try.prog 26 #[.int .i64 n, .int .u64 v] w fun e w' => e = .returned (.int .i64 (signed n v)) ∧ w = w' := by
  rcases Bool.eq_false_or_eq_true (wide n) with h | h
  · rcases (wide_iff n).1 h with rfl | rfl
    · exact RSigned32_any v w h0 h1
    · exact RSigned39_any v w h0 h1
  · have hs := Lib.hid (signed_no (v := v) h)
    go_enter Try.func26, Try.ntmps26
    go_wp2_with (go_at_call 41; refine (wide_any _ _).mono ?_; rintro e w' ⟨rfl, rfl⟩)
    go_ret
    exact ⟨ret_int hs.out.symm, rfl⟩
theorem bits_bd (o : BinOp) (x y : Int) (h : ∃ n : Nat, bits o IntKind.u64 x y = n ∧ n ≤ 18446744073709551615) : 0 ≤ bits o IntKind.u64 x y ∧ bits o IntKind.u64 x y ≤ 18446744073709551615 := by
  obtain ⟨n, h, hn⟩ := h; omega
theorem and_le' (x y : Nat) (hx : x < 549755813888) : (x &&& y) < 549755813888 := Nat.lt_of_le_of_lt Nat.and_le_left hx
theorem or_lt' (x y : Nat) (hx : x < 549755813888) (hy : y < 549755813888) : (x ||| y) < 549755813888 := Nat.or_lt_two_pow (n := 39) hx hy
theorem xor_lt' (x y : Nat) (hx : x < 549755813888) (hy : y < 549755813888) : (x ^^^ y) < 549755813888 := Nat.xor_lt_two_pow (n := 39) hx hy
/-- What compute returns: within 64 bits, and modulo the width as it is said. -/
def CompPost (wd op a b c im : Int) (w : World) (e : Ending) (w' : World) : Prop := ∃ r : Int, e = .returned (.int .u64 r) ∧ 0 ≤ r ∧ r ≤ 18446744073709551615 ∧ r % pw2 wd = compute wd op a b c im % pw2 wd ∧ Below w.heap.size w w'
theorem truth_bd (b : Bool) : 0 ≤ truth b ∧ truth b ≤ 18446744073709551615 := by cases b <;> decide
theorem compute32_1 (x : Ins) (a b c im : Int) (w : World) (hx : x.op = 1) (a0 : 0 ≤ a) (a1 : a < 549755813888) (b0 : 0 ≤ b) (b1 : b < 549755813888) (c0 : 0 ≤ c) (c1 : c < 549755813888) (i0 : 0 ≤ im) (i1 : im < 549755813888) :
    Calls Try.prog 75 #[.int .i64 32, .agg x.cells, .int .u64 a, .int .u64 b, .int .u64 c, .int .u64 im] w (CompPost 32 1 a b c im w) := by
  have KN := Kn.start w
  obtain ⟨op, xa, xb, xc, xi⟩ := x
  obtain rfl : op = 1 := hx
  go_enter Try.func75, Try.ntmps75
  go_wp2_with (first | (go_at_call 26; refine (RSigned_any _ _ _ (by omega) (by omega)).mono ?_; rintro e w' ⟨rfl, rfl⟩) | (go_at_call 92; refine (truth_any _ _).mono ?_; rintro e w' ⟨rfl, rfl⟩) | ((with_reducible refine wpList_gate ?_); first | (refine wpList_kn_boxA KN (by rfl) 29 _ rfl 7 rfl _ rfl ?_; clear KN; intro g7 wx hg7 KN) | (refine wpList_kn_load1 KN (by rfl) 3 _ rfl _ _ rfl _ _ (by repeat (first | exact Has.here | refine Has.there ?_)) _ (by (repeat (first | ((with_reducible refine get_hit ?_); exact Nat.le_of_ble_eq_true (by kernel_rfl)) | ((with_reducible refine (get_miss ?_).trans ?_); (focus kernel_rfl)) | ((with_reducible refine (get_pmiss ?_).trans ?_); (focus kernel_rfl)))); all_goals (conv => lhs; whnf; arg 1; whnf)) _ Try.underlying3 rfl ?_)))
  go_ret
  refine ⟨_, rfl, and_assoc.1 ⟨?_, ?_, KN.toBelow⟩⟩
  · omega
  · rfl
theorem compute32_2 (x : Ins) (a b c im : Int) (w : World) (hx : x.op = 2) (a0 : 0 ≤ a) (a1 : a < 549755813888) (b0 : 0 ≤ b) (b1 : b < 549755813888) (c0 : 0 ≤ c) (c1 : c < 549755813888) (i0 : 0 ≤ im) (i1 : im < 549755813888) :
    Calls Try.prog 75 #[.int .i64 32, .agg x.cells, .int .u64 a, .int .u64 b, .int .u64 c, .int .u64 im] w (CompPost 32 2 a b c im w) := by
  have KN := Kn.start w
  obtain ⟨op, xa, xb, xc, xi⟩ := x
  obtain rfl : op = 2 := hx
  go_enter Try.func75, Try.ntmps75
  go_wp2_with (first | (go_at_call 26; refine (RSigned_any _ _ _ (by omega) (by omega)).mono ?_; rintro e w' ⟨rfl, rfl⟩) | (go_at_call 92; refine (truth_any _ _).mono ?_; rintro e w' ⟨rfl, rfl⟩) | ((with_reducible refine wpList_gate ?_); first | (refine wpList_kn_boxA KN (by rfl) 29 _ rfl 7 rfl _ rfl ?_; clear KN; intro g7 wx hg7 KN) | (refine wpList_kn_load1 KN (by rfl) 3 _ rfl _ _ rfl _ _ (by repeat (first | exact Has.here | refine Has.there ?_)) _ (by (repeat (first | ((with_reducible refine get_hit ?_); exact Nat.le_of_ble_eq_true (by kernel_rfl)) | ((with_reducible refine (get_miss ?_).trans ?_); (focus kernel_rfl)) | ((with_reducible refine (get_pmiss ?_).trans ?_); (focus kernel_rfl)))); all_goals (conv => lhs; whnf; arg 1; whnf)) _ Try.underlying3 rfl ?_)))
  go_ret
  refine ⟨_, rfl, and_assoc.1 ⟨?_, ?_, KN.toBelow⟩⟩
  · exact ⟨(wrap_u64_bd _).1, (wrap_u64_bd _).2⟩
  · rw [mask32 a (by omega) (by omega)]; show _ = (a % 4294967296 + im * 4294967296) % _; simp only [IntKind.wrap_u64]; rw [show pw2 32 = 4294967296 from rfl]; omega
theorem compute32_3 (x : Ins) (a b c im : Int) (w : World) (hx : x.op = 3) (a0 : 0 ≤ a) (a1 : a < 549755813888) (b0 : 0 ≤ b) (b1 : b < 549755813888) (c0 : 0 ≤ c) (c1 : c < 549755813888) (i0 : 0 ≤ im) (i1 : im < 549755813888) :
    Calls Try.prog 75 #[.int .i64 32, .agg x.cells, .int .u64 a, .int .u64 b, .int .u64 c, .int .u64 im] w (CompPost 32 3 a b c im w) := by
  have KN := Kn.start w
  obtain ⟨op, xa, xb, xc, xi⟩ := x
  obtain rfl : op = 3 := hx
  go_enter Try.func75, Try.ntmps75
  go_wp2_with (first | (go_at_call 26; refine (RSigned_any _ _ _ (by omega) (by omega)).mono ?_; rintro e w' ⟨rfl, rfl⟩) | (go_at_call 92; refine (truth_any _ _).mono ?_; rintro e w' ⟨rfl, rfl⟩) | ((with_reducible refine wpList_gate ?_); first | (refine wpList_kn_boxA KN (by rfl) 29 _ rfl 7 rfl _ rfl ?_; clear KN; intro g7 wx hg7 KN) | (refine wpList_kn_load1 KN (by rfl) 3 _ rfl _ _ rfl _ _ (by repeat (first | exact Has.here | refine Has.there ?_)) _ (by (repeat (first | ((with_reducible refine get_hit ?_); exact Nat.le_of_ble_eq_true (by kernel_rfl)) | ((with_reducible refine (get_miss ?_).trans ?_); (focus kernel_rfl)) | ((with_reducible refine (get_pmiss ?_).trans ?_); (focus kernel_rfl)))); all_goals (conv => lhs; whnf; arg 1; whnf)) _ Try.underlying3 rfl ?_)))
  go_ret
  refine ⟨_, rfl, and_assoc.1 ⟨?_, ?_, KN.toBelow⟩⟩
  · omega
  · rfl
theorem compute32_4 (x : Ins) (a b c im : Int) (w : World) (hx : x.op = 4) (a0 : 0 ≤ a) (a1 : a < 549755813888) (b0 : 0 ≤ b) (b1 : b < 549755813888) (c0 : 0 ≤ c) (c1 : c < 549755813888) (i0 : 0 ≤ im) (i1 : im < 549755813888) :
    Calls Try.prog 75 #[.int .i64 32, .agg x.cells, .int .u64 a, .int .u64 b, .int .u64 c, .int .u64 im] w (CompPost 32 4 a b c im w) := by
  have KN := Kn.start w
  obtain ⟨op, xa, xb, xc, xi⟩ := x
  obtain rfl : op = 4 := hx
  go_enter Try.func75, Try.ntmps75
  go_wp2_with (first | (go_at_call 26; refine (RSigned_any _ _ _ (by omega) (by omega)).mono ?_; rintro e w' ⟨rfl, rfl⟩) | (go_at_call 92; refine (truth_any _ _).mono ?_; rintro e w' ⟨rfl, rfl⟩) | ((with_reducible refine wpList_gate ?_); first | (refine wpList_kn_boxA KN (by rfl) 29 _ rfl 7 rfl _ rfl ?_; clear KN; intro g7 wx hg7 KN) | (refine wpList_kn_load1 KN (by rfl) 3 _ rfl _ _ rfl _ _ (by repeat (first | exact Has.here | refine Has.there ?_)) _ (by (repeat (first | ((with_reducible refine get_hit ?_); exact Nat.le_of_ble_eq_true (by kernel_rfl)) | ((with_reducible refine (get_miss ?_).trans ?_); (focus kernel_rfl)) | ((with_reducible refine (get_pmiss ?_).trans ?_); (focus kernel_rfl)))); all_goals (conv => lhs; whnf; arg 1; whnf)) _ Try.underlying3 rfl ?_)))
  go_ret
  refine ⟨_, rfl, and_assoc.1 ⟨?_, ?_, KN.toBelow⟩⟩
  · omega
  · rfl
theorem compute32_5 (x : Ins) (a b c im : Int) (w : World) (hx : x.op = 5) (a0 : 0 ≤ a) (a1 : a < 549755813888) (b0 : 0 ≤ b) (b1 : b < 549755813888) (c0 : 0 ≤ c) (c1 : c < 549755813888) (i0 : 0 ≤ im) (i1 : im < 549755813888) :
    Calls Try.prog 75 #[.int .i64 32, .agg x.cells, .int .u64 a, .int .u64 b, .int .u64 c, .int .u64 im] w (CompPost 32 5 a b c im w) := by
  have KN := Kn.start w
  obtain ⟨op, xa, xb, xc, xi⟩ := x
  obtain rfl : op = 5 := hx
  go_enter Try.func75, Try.ntmps75
  go_wp2_with (first | (go_at_call 26; refine (RSigned_any _ _ _ (by omega) (by omega)).mono ?_; rintro e w' ⟨rfl, rfl⟩) | (go_at_call 92; refine (truth_any _ _).mono ?_; rintro e w' ⟨rfl, rfl⟩) | ((with_reducible refine wpList_gate ?_); first | (refine wpList_kn_boxA KN (by rfl) 29 _ rfl 7 rfl _ rfl ?_; clear KN; intro g7 wx hg7 KN) | (refine wpList_kn_load1 KN (by rfl) 3 _ rfl _ _ rfl _ _ (by repeat (first | exact Has.here | refine Has.there ?_)) _ (by (repeat (first | ((with_reducible refine get_hit ?_); exact Nat.le_of_ble_eq_true (by kernel_rfl)) | ((with_reducible refine (get_miss ?_).trans ?_); (focus kernel_rfl)) | ((with_reducible refine (get_pmiss ?_).trans ?_); (focus kernel_rfl)))); all_goals (conv => lhs; whnf; arg 1; whnf)) _ Try.underlying3 rfl ?_)))
  go_ret
  refine ⟨_, rfl, and_assoc.1 ⟨?_, ?_, KN.toBelow⟩⟩
  · exact ⟨(wrap_u64_bd _).1, (wrap_u64_bd _).2⟩
  · exact wrap_mod _ _ (by decide)
theorem compute32_6 (x : Ins) (a b c im : Int) (w : World) (hx : x.op = 6) (a0 : 0 ≤ a) (a1 : a < 549755813888) (b0 : 0 ≤ b) (b1 : b < 549755813888) (c0 : 0 ≤ c) (c1 : c < 549755813888) (i0 : 0 ≤ im) (i1 : im < 549755813888) :
    Calls Try.prog 75 #[.int .i64 32, .agg x.cells, .int .u64 a, .int .u64 b, .int .u64 c, .int .u64 im] w (CompPost 32 6 a b c im w) := by
  have KN := Kn.start w
  obtain ⟨op, xa, xb, xc, xi⟩ := x
  obtain rfl : op = 6 := hx
  go_enter Try.func75, Try.ntmps75
  go_wp2_with (first | (go_at_call 26; refine (RSigned_any _ _ _ (by omega) (by omega)).mono ?_; rintro e w' ⟨rfl, rfl⟩) | (go_at_call 92; refine (truth_any _ _).mono ?_; rintro e w' ⟨rfl, rfl⟩) | ((with_reducible refine wpList_gate ?_); first | (refine wpList_kn_boxA KN (by rfl) 29 _ rfl 7 rfl _ rfl ?_; clear KN; intro g7 wx hg7 KN) | (refine wpList_kn_load1 KN (by rfl) 3 _ rfl _ _ rfl _ _ (by repeat (first | exact Has.here | refine Has.there ?_)) _ (by (repeat (first | ((with_reducible refine get_hit ?_); exact Nat.le_of_ble_eq_true (by kernel_rfl)) | ((with_reducible refine (get_miss ?_).trans ?_); (focus kernel_rfl)) | ((with_reducible refine (get_pmiss ?_).trans ?_); (focus kernel_rfl)))); all_goals (conv => lhs; whnf; arg 1; whnf)) _ Try.underlying3 rfl ?_)))
  go_ret
  refine ⟨_, rfl, and_assoc.1 ⟨?_, ?_, KN.toBelow⟩⟩
  · exact ⟨(wrap_u64_bd _).1, (wrap_u64_bd _).2⟩
  · exact wrap_mod _ _ (by decide)
theorem compute32_7 (x : Ins) (a b c im : Int) (w : World) (hx : x.op = 7) (a0 : 0 ≤ a) (a1 : a < 549755813888) (b0 : 0 ≤ b) (b1 : b < 549755813888) (c0 : 0 ≤ c) (c1 : c < 549755813888) (i0 : 0 ≤ im) (i1 : im < 549755813888) (hc : 0 < c) :
    Calls Try.prog 75 #[.int .i64 32, .agg x.cells, .int .u64 a, .int .u64 b, .int .u64 c, .int .u64 im] w (CompPost 32 7 a b c im w) := by
  have KN := Kn.start w
  obtain ⟨op, xa, xb, xc, xi⟩ := x
  obtain rfl : op = 7 := hx
  have hz : (c == 0) = false := by rw [beq_eq_false_iff_ne]; omega
  have q0 := Int.ediv_nonneg (b := c) b0 (by omega)
  have q1 := Int.ediv_le_self c b0
  go_enter Try.func75, Try.ntmps75
  go_wp2_with (first | (go_at_call 26; refine (RSigned_any _ _ _ (by omega) (by omega)).mono ?_; rintro e w' ⟨rfl, rfl⟩) | (go_at_call 92; refine (truth_any _ _).mono ?_; rintro e w' ⟨rfl, rfl⟩) | ((with_reducible refine wpList_gate ?_); first | (refine wpList_kn_boxA KN (by rfl) 29 _ rfl 7 rfl _ rfl ?_; clear KN; intro g7 wx hg7 KN) | (refine wpList_kn_load1 KN (by rfl) 3 _ rfl _ _ rfl _ _ (by repeat (first | exact Has.here | refine Has.there ?_)) _ (by (repeat (first | ((with_reducible refine get_hit ?_); exact Nat.le_of_ble_eq_true (by kernel_rfl)) | ((with_reducible refine (get_miss ?_).trans ?_); (focus kernel_rfl)) | ((with_reducible refine (get_pmiss ?_).trans ?_); (focus kernel_rfl)))); all_goals (conv => lhs; whnf; arg 1; whnf)) _ Try.underlying3 rfl ?_)))
  go_ret
  refine ⟨_, rfl, and_assoc.1 ⟨?_, ?_, KN.toBelow⟩⟩
  · exact ⟨q0, Int.le_trans q1 (by omega)⟩
  · rfl
theorem compute32_8 (x : Ins) (a b c im : Int) (w : World) (hx : x.op = 8) (a0 : 0 ≤ a) (a1 : a < 549755813888) (b0 : 0 ≤ b) (b1 : b < 549755813888) (c0 : 0 ≤ c) (c1 : c < 549755813888) (i0 : 0 ≤ im) (i1 : im < 549755813888) (hc : 0 < c) :
    Calls Try.prog 75 #[.int .i64 32, .agg x.cells, .int .u64 a, .int .u64 b, .int .u64 c, .int .u64 im] w (CompPost 32 8 a b c im w) := by
  have KN := Kn.start w
  obtain ⟨op, xa, xb, xc, xi⟩ := x
  obtain rfl : op = 8 := hx
  have hz : (c == 0) = false := by rw [beq_eq_false_iff_ne]; omega
  have q0 := Int.emod_nonneg b (show c ≠ 0 by omega)
  have q1 := Int.emod_lt_of_pos b (show 0 < c by omega)
  go_enter Try.func75, Try.ntmps75
  go_wp2_with (first | (go_at_call 26; refine (RSigned_any _ _ _ (by omega) (by omega)).mono ?_; rintro e w' ⟨rfl, rfl⟩) | (go_at_call 92; refine (truth_any _ _).mono ?_; rintro e w' ⟨rfl, rfl⟩) | ((with_reducible refine wpList_gate ?_); first | (refine wpList_kn_boxA KN (by rfl) 29 _ rfl 7 rfl _ rfl ?_; clear KN; intro g7 wx hg7 KN) | (refine wpList_kn_load1 KN (by rfl) 3 _ rfl _ _ rfl _ _ (by repeat (first | exact Has.here | refine Has.there ?_)) _ (by (repeat (first | ((with_reducible refine get_hit ?_); exact Nat.le_of_ble_eq_true (by kernel_rfl)) | ((with_reducible refine (get_miss ?_).trans ?_); (focus kernel_rfl)) | ((with_reducible refine (get_pmiss ?_).trans ?_); (focus kernel_rfl)))); all_goals (conv => lhs; whnf; arg 1; whnf)) _ Try.underlying3 rfl ?_)))
  go_ret
  refine ⟨_, rfl, and_assoc.1 ⟨?_, ?_, KN.toBelow⟩⟩
  · exact ⟨q0, by omega⟩
  · rfl
theorem compute32_9 (x : Ins) (a b c im : Int) (w : World) (hx : x.op = 9) (a0 : 0 ≤ a) (a1 : a < 549755813888) (b0 : 0 ≤ b) (b1 : b < 549755813888) (c0 : 0 ≤ c) (c1 : c < 549755813888) (i0 : 0 ≤ im) (i1 : im < 549755813888) :
    Calls Try.prog 75 #[.int .i64 32, .agg x.cells, .int .u64 a, .int .u64 b, .int .u64 c, .int .u64 im] w (CompPost 32 9 a b c im w) := by
  have KN := Kn.start w
  obtain ⟨op, xa, xb, xc, xi⟩ := x
  obtain rfl : op = 9 := hx
  go_enter Try.func75, Try.ntmps75
  go_wp2_with (first | (go_at_call 26; refine (RSigned_any _ _ _ (by omega) (by omega)).mono ?_; rintro e w' ⟨rfl, rfl⟩) | (go_at_call 92; refine (truth_any _ _).mono ?_; rintro e w' ⟨rfl, rfl⟩) | ((with_reducible refine wpList_gate ?_); first | (refine wpList_kn_boxA KN (by rfl) 29 _ rfl 7 rfl _ rfl ?_; clear KN; intro g7 wx hg7 KN) | (refine wpList_kn_load1 KN (by rfl) 3 _ rfl _ _ rfl _ _ (by repeat (first | exact Has.here | refine Has.there ?_)) _ (by (repeat (first | ((with_reducible refine get_hit ?_); exact Nat.le_of_ble_eq_true (by kernel_rfl)) | ((with_reducible refine (get_miss ?_).trans ?_); (focus kernel_rfl)) | ((with_reducible refine (get_pmiss ?_).trans ?_); (focus kernel_rfl)))); all_goals (conv => lhs; whnf; arg 1; whnf)) _ Try.underlying3 rfl ?_)))
  go_ret
  refine ⟨_, rfl, and_assoc.1 ⟨?_, ?_, KN.toBelow⟩⟩
  · exact bits_bd _ _ _ ⟨_, bitsN_and b c (by omega) (by omega) (by omega) (by omega), Nat.le_of_lt (Nat.lt_trans (and_le' _ _ (by omega)) (by decide))⟩
  · rw [bitsN_and b c (by omega) (by omega) (by omega) (by omega)]; rfl
theorem compute32_10 (x : Ins) (a b c im : Int) (w : World) (hx : x.op = 10) (a0 : 0 ≤ a) (a1 : a < 549755813888) (b0 : 0 ≤ b) (b1 : b < 549755813888) (c0 : 0 ≤ c) (c1 : c < 549755813888) (i0 : 0 ≤ im) (i1 : im < 549755813888) :
    Calls Try.prog 75 #[.int .i64 32, .agg x.cells, .int .u64 a, .int .u64 b, .int .u64 c, .int .u64 im] w (CompPost 32 10 a b c im w) := by
  have KN := Kn.start w
  obtain ⟨op, xa, xb, xc, xi⟩ := x
  obtain rfl : op = 10 := hx
  go_enter Try.func75, Try.ntmps75
  go_wp2_with (first | (go_at_call 26; refine (RSigned_any _ _ _ (by omega) (by omega)).mono ?_; rintro e w' ⟨rfl, rfl⟩) | (go_at_call 92; refine (truth_any _ _).mono ?_; rintro e w' ⟨rfl, rfl⟩) | ((with_reducible refine wpList_gate ?_); first | (refine wpList_kn_boxA KN (by rfl) 29 _ rfl 7 rfl _ rfl ?_; clear KN; intro g7 wx hg7 KN) | (refine wpList_kn_load1 KN (by rfl) 3 _ rfl _ _ rfl _ _ (by repeat (first | exact Has.here | refine Has.there ?_)) _ (by (repeat (first | ((with_reducible refine get_hit ?_); exact Nat.le_of_ble_eq_true (by kernel_rfl)) | ((with_reducible refine (get_miss ?_).trans ?_); (focus kernel_rfl)) | ((with_reducible refine (get_pmiss ?_).trans ?_); (focus kernel_rfl)))); all_goals (conv => lhs; whnf; arg 1; whnf)) _ Try.underlying3 rfl ?_)))
  go_ret
  refine ⟨_, rfl, and_assoc.1 ⟨?_, ?_, KN.toBelow⟩⟩
  · exact bits_bd _ _ _ ⟨_, bitsN_or b c (by omega) (by omega) (by omega) (by omega), Nat.le_of_lt (Nat.lt_trans (or_lt' _ _ (by omega) (by omega)) (by decide))⟩
  · rw [bitsN_or b c (by omega) (by omega) (by omega) (by omega)]; rfl
theorem compute32_11 (x : Ins) (a b c im : Int) (w : World) (hx : x.op = 11) (a0 : 0 ≤ a) (a1 : a < 549755813888) (b0 : 0 ≤ b) (b1 : b < 549755813888) (c0 : 0 ≤ c) (c1 : c < 549755813888) (i0 : 0 ≤ im) (i1 : im < 549755813888) :
    Calls Try.prog 75 #[.int .i64 32, .agg x.cells, .int .u64 a, .int .u64 b, .int .u64 c, .int .u64 im] w (CompPost 32 11 a b c im w) := by
  have KN := Kn.start w
  obtain ⟨op, xa, xb, xc, xi⟩ := x
  obtain rfl : op = 11 := hx
  go_enter Try.func75, Try.ntmps75
  go_wp2_with (first | (go_at_call 26; refine (RSigned_any _ _ _ (by omega) (by omega)).mono ?_; rintro e w' ⟨rfl, rfl⟩) | (go_at_call 92; refine (truth_any _ _).mono ?_; rintro e w' ⟨rfl, rfl⟩) | ((with_reducible refine wpList_gate ?_); first | (refine wpList_kn_boxA KN (by rfl) 29 _ rfl 7 rfl _ rfl ?_; clear KN; intro g7 wx hg7 KN) | (refine wpList_kn_load1 KN (by rfl) 3 _ rfl _ _ rfl _ _ (by repeat (first | exact Has.here | refine Has.there ?_)) _ (by (repeat (first | ((with_reducible refine get_hit ?_); exact Nat.le_of_ble_eq_true (by kernel_rfl)) | ((with_reducible refine (get_miss ?_).trans ?_); (focus kernel_rfl)) | ((with_reducible refine (get_pmiss ?_).trans ?_); (focus kernel_rfl)))); all_goals (conv => lhs; whnf; arg 1; whnf)) _ Try.underlying3 rfl ?_)))
  go_ret
  refine ⟨_, rfl, and_assoc.1 ⟨?_, ?_, KN.toBelow⟩⟩
  · exact bits_bd _ _ _ ⟨_, bitsN_xor b c (by omega) (by omega) (by omega) (by omega), Nat.le_of_lt (Nat.lt_trans (xor_lt' _ _ (by omega) (by omega)) (by decide))⟩
  · rw [bitsN_xor b c (by omega) (by omega) (by omega) (by omega)]; rfl
theorem compute32_12 (x : Ins) (a b c im : Int) (w : World) (hx : x.op = 12) (a0 : 0 ≤ a) (a1 : a < 549755813888) (b0 : 0 ≤ b) (b1 : b < 549755813888) (c0 : 0 ≤ c) (c1 : c < 549755813888) (i0 : 0 ≤ im) (i1 : im < 549755813888) :
    Calls Try.prog 75 #[.int .i64 32, .agg x.cells, .int .u64 a, .int .u64 b, .int .u64 c, .int .u64 im] w (CompPost 32 12 a b c im w) := by
  have KN := Kn.start w
  obtain ⟨op, xa, xb, xc, xi⟩ := x
  obtain rfl : op = 12 := hx
  have q0 := Int.emod_nonneg c (show (32 : Int) ≠ 0 by decide)
  have q1 := Int.emod_lt_of_pos c (show (0 : Int) < 32 by decide)
  have q2 : c % 32 < 64 := by omega
  go_enter Try.func75, Try.ntmps75
  go_wp2_with (first | (go_at_call 26; refine (RSigned_any _ _ _ (by omega) (by omega)).mono ?_; rintro e w' ⟨rfl, rfl⟩) | (go_at_call 92; refine (truth_any _ _).mono ?_; rintro e w' ⟨rfl, rfl⟩) | ((with_reducible refine wpList_gate ?_); first | (refine wpList_kn_boxA KN (by rfl) 29 _ rfl 7 rfl _ rfl ?_; clear KN; intro g7 wx hg7 KN) | (refine wpList_kn_load1 KN (by rfl) 3 _ rfl _ _ rfl _ _ (by repeat (first | exact Has.here | refine Has.there ?_)) _ (by (repeat (first | ((with_reducible refine get_hit ?_); exact Nat.le_of_ble_eq_true (by kernel_rfl)) | ((with_reducible refine (get_miss ?_).trans ?_); (focus kernel_rfl)) | ((with_reducible refine (get_pmiss ?_).trans ?_); (focus kernel_rfl)))); all_goals (conv => lhs; whnf; arg 1; whnf)) _ Try.underlying3 rfl ?_)))
  go_ret
  refine ⟨_, rfl, and_assoc.1 ⟨?_, ?_, KN.toBelow⟩⟩
  · exact ⟨(wrap_u64_bd _).1, (wrap_u64_bd _).2⟩
  · exact wrap_mod _ _ (by decide)
theorem compute32_13 (x : Ins) (a b c im : Int) (w : World) (hx : x.op = 13) (a0 : 0 ≤ a) (a1 : a < 549755813888) (b0 : 0 ≤ b) (b1 : b < 549755813888) (c0 : 0 ≤ c) (c1 : c < 549755813888) (i0 : 0 ≤ im) (i1 : im < 549755813888) :
    Calls Try.prog 75 #[.int .i64 32, .agg x.cells, .int .u64 a, .int .u64 b, .int .u64 c, .int .u64 im] w (CompPost 32 13 a b c im w) := by
  have KN := Kn.start w
  obtain ⟨op, xa, xb, xc, xi⟩ := x
  obtain rfl : op = 13 := hx
  have q0 := Int.emod_nonneg c (show (32 : Int) ≠ 0 by decide)
  have q1 := Int.emod_lt_of_pos c (show (0 : Int) < 32 by decide)
  have q2 : c % 32 < 64 := by omega
  have hp : (0 : Int) < 2 ^ (c % 32).toNat := Int.pow_pos (by decide)
  have s0 := Int.ediv_nonneg (b := 2 ^ (c % 32).toNat) b0 (by omega)
  have s1 := Int.ediv_le_self (2 ^ (c % 32).toNat) b0
  clear hp
  go_enter Try.func75, Try.ntmps75
  go_wp2_with (first | (go_at_call 26; refine (RSigned_any _ _ _ (by omega) (by omega)).mono ?_; rintro e w' ⟨rfl, rfl⟩) | (go_at_call 92; refine (truth_any _ _).mono ?_; rintro e w' ⟨rfl, rfl⟩) | ((with_reducible refine wpList_gate ?_); first | (refine wpList_kn_boxA KN (by rfl) 29 _ rfl 7 rfl _ rfl ?_; clear KN; intro g7 wx hg7 KN) | (refine wpList_kn_load1 KN (by rfl) 3 _ rfl _ _ rfl _ _ (by repeat (first | exact Has.here | refine Has.there ?_)) _ (by (repeat (first | ((with_reducible refine get_hit ?_); exact Nat.le_of_ble_eq_true (by kernel_rfl)) | ((with_reducible refine (get_miss ?_).trans ?_); (focus kernel_rfl)) | ((with_reducible refine (get_pmiss ?_).trans ?_); (focus kernel_rfl)))); all_goals (conv => lhs; whnf; arg 1; whnf)) _ Try.underlying3 rfl ?_)))
  go_ret
  refine ⟨_, rfl, and_assoc.1 ⟨?_, ?_, KN.toBelow⟩⟩
  · exact ⟨s0, Int.le_trans s1 (by omega)⟩
  · rfl
theorem compute32_14 (x : Ins) (a b c im : Int) (w : World) (hx : x.op = 14) (a0 : 0 ≤ a) (a1 : a < 549755813888) (b0 : 0 ≤ b) (b1 : b < 549755813888) (c0 : 0 ≤ c) (c1 : c < 549755813888) (i0 : 0 ≤ im) (i1 : im < 549755813888) :
    Calls Try.prog 75 #[.int .i64 32, .agg x.cells, .int .u64 a, .int .u64 b, .int .u64 c, .int .u64 im] w (CompPost 32 14 a b c im w) := by
  have KN := Kn.start w
  obtain ⟨op, xa, xb, xc, xi⟩ := x
  obtain rfl : op = 14 := hx
  go_enter Try.func75, Try.ntmps75
  go_wp2_with (first | (go_at_call 26; refine (RSigned_any _ _ _ (by omega) (by omega)).mono ?_; rintro e w' ⟨rfl, rfl⟩) | (go_at_call 92; refine (truth_any _ _).mono ?_; rintro e w' ⟨rfl, rfl⟩) | ((with_reducible refine wpList_gate ?_); first | (refine wpList_kn_boxA KN (by rfl) 29 _ rfl 7 rfl _ rfl ?_; clear KN; intro g7 wx hg7 KN) | (refine wpList_kn_load1 KN (by rfl) 3 _ rfl _ _ rfl _ _ (by repeat (first | exact Has.here | refine Has.there ?_)) _ (by (repeat (first | ((with_reducible refine get_hit ?_); exact Nat.le_of_ble_eq_true (by kernel_rfl)) | ((with_reducible refine (get_miss ?_).trans ?_); (focus kernel_rfl)) | ((with_reducible refine (get_pmiss ?_).trans ?_); (focus kernel_rfl)))); all_goals (conv => lhs; whnf; arg 1; whnf)) _ Try.underlying3 rfl ?_)))
  go_ret
  refine ⟨_, rfl, and_assoc.1 ⟨?_, ?_, KN.toBelow⟩⟩
  · omega
  · rfl
theorem compute32_15 (x : Ins) (a b c im : Int) (w : World) (hx : x.op = 15) (a0 : 0 ≤ a) (a1 : a < 549755813888) (b0 : 0 ≤ b) (b1 : b < 549755813888) (c0 : 0 ≤ c) (c1 : c < 549755813888) (i0 : 0 ≤ im) (i1 : im < 549755813888) :
    Calls Try.prog 75 #[.int .i64 32, .agg x.cells, .int .u64 a, .int .u64 b, .int .u64 c, .int .u64 im] w (CompPost 32 15 a b c im w) := by
  have KN := Kn.start w
  obtain ⟨op, xa, xb, xc, xi⟩ := x
  obtain rfl : op = 15 := hx
  go_enter Try.func75, Try.ntmps75
  go_wp2_with (first | (go_at_call 26; refine (RSigned_any _ _ _ (by omega) (by omega)).mono ?_; rintro e w' ⟨rfl, rfl⟩) | (go_at_call 92; refine (truth_any _ _).mono ?_; rintro e w' ⟨rfl, rfl⟩) | ((with_reducible refine wpList_gate ?_); first | (refine wpList_kn_boxA KN (by rfl) 29 _ rfl 7 rfl _ rfl ?_; clear KN; intro g7 wx hg7 KN) | (refine wpList_kn_load1 KN (by rfl) 3 _ rfl _ _ rfl _ _ (by repeat (first | exact Has.here | refine Has.there ?_)) _ (by (repeat (first | ((with_reducible refine get_hit ?_); exact Nat.le_of_ble_eq_true (by kernel_rfl)) | ((with_reducible refine (get_miss ?_).trans ?_); (focus kernel_rfl)) | ((with_reducible refine (get_pmiss ?_).trans ?_); (focus kernel_rfl)))); all_goals (conv => lhs; whnf; arg 1; whnf)) _ Try.underlying3 rfl ?_)))
  go_ret
  refine ⟨_, rfl, and_assoc.1 ⟨?_, ?_, KN.toBelow⟩⟩
  · exact truth_bd _
  · rfl
theorem compute32_16 (x : Ins) (a b c im : Int) (w : World) (hx : x.op = 16) (a0 : 0 ≤ a) (a1 : a < 549755813888) (b0 : 0 ≤ b) (b1 : b < 549755813888) (c0 : 0 ≤ c) (c1 : c < 549755813888) (i0 : 0 ≤ im) (i1 : im < 549755813888) :
    Calls Try.prog 75 #[.int .i64 32, .agg x.cells, .int .u64 a, .int .u64 b, .int .u64 c, .int .u64 im] w (CompPost 32 16 a b c im w) := by
  have KN := Kn.start w
  obtain ⟨op, xa, xb, xc, xi⟩ := x
  obtain rfl : op = 16 := hx
  go_enter Try.func75, Try.ntmps75
  go_wp2_with (first | (go_at_call 26; refine (RSigned_any _ _ _ (by omega) (by omega)).mono ?_; rintro e w' ⟨rfl, rfl⟩) | (go_at_call 92; refine (truth_any _ _).mono ?_; rintro e w' ⟨rfl, rfl⟩) | ((with_reducible refine wpList_gate ?_); first | (refine wpList_kn_boxA KN (by rfl) 29 _ rfl 7 rfl _ rfl ?_; clear KN; intro g7 wx hg7 KN) | (refine wpList_kn_load1 KN (by rfl) 3 _ rfl _ _ rfl _ _ (by repeat (first | exact Has.here | refine Has.there ?_)) _ (by (repeat (first | ((with_reducible refine get_hit ?_); exact Nat.le_of_ble_eq_true (by kernel_rfl)) | ((with_reducible refine (get_miss ?_).trans ?_); (focus kernel_rfl)) | ((with_reducible refine (get_pmiss ?_).trans ?_); (focus kernel_rfl)))); all_goals (conv => lhs; whnf; arg 1; whnf)) _ Try.underlying3 rfl ?_)))
  go_ret
  refine ⟨_, rfl, and_assoc.1 ⟨?_, ?_, KN.toBelow⟩⟩
  · exact truth_bd _
  · rfl
theorem compute32_17 (x : Ins) (a b c im : Int) (w : World) (hx : x.op = 17) (a0 : 0 ≤ a) (a1 : a < 549755813888) (b0 : 0 ≤ b) (b1 : b < 549755813888) (c0 : 0 ≤ c) (c1 : c < 549755813888) (i0 : 0 ≤ im) (i1 : im < 549755813888) :
    Calls Try.prog 75 #[.int .i64 32, .agg x.cells, .int .u64 a, .int .u64 b, .int .u64 c, .int .u64 im] w (CompPost 32 17 a b c im w) := by
  have KN := Kn.start w
  obtain ⟨op, xa, xb, xc, xi⟩ := x
  obtain rfl : op = 17 := hx
  go_enter Try.func75, Try.ntmps75
  go_wp2_with (first | (go_at_call 26; refine (RSigned_any _ _ _ (by omega) (by omega)).mono ?_; rintro e w' ⟨rfl, rfl⟩) | (go_at_call 92; refine (truth_any _ _).mono ?_; rintro e w' ⟨rfl, rfl⟩) | ((with_reducible refine wpList_gate ?_); first | (refine wpList_kn_boxA KN (by rfl) 29 _ rfl 7 rfl _ rfl ?_; clear KN; intro g7 wx hg7 KN) | (refine wpList_kn_load1 KN (by rfl) 3 _ rfl _ _ rfl _ _ (by repeat (first | exact Has.here | refine Has.there ?_)) _ (by (repeat (first | ((with_reducible refine get_hit ?_); exact Nat.le_of_ble_eq_true (by kernel_rfl)) | ((with_reducible refine (get_miss ?_).trans ?_); (focus kernel_rfl)) | ((with_reducible refine (get_pmiss ?_).trans ?_); (focus kernel_rfl)))); all_goals (conv => lhs; whnf; arg 1; whnf)) _ Try.underlying3 rfl ?_)))
  go_ret
  refine ⟨_, rfl, and_assoc.1 ⟨?_, ?_, KN.toBelow⟩⟩
  · exact truth_bd _
  · rfl
theorem compute39_1 (x : Ins) (a b c im : Int) (w : World) (hx : x.op = 1) (a0 : 0 ≤ a) (a1 : a < 549755813888) (b0 : 0 ≤ b) (b1 : b < 549755813888) (c0 : 0 ≤ c) (c1 : c < 549755813888) (i0 : 0 ≤ im) (i1 : im < 549755813888) :
    Calls Try.prog 75 #[.int .i64 39, .agg x.cells, .int .u64 a, .int .u64 b, .int .u64 c, .int .u64 im] w (CompPost 39 1 a b c im w) := by
  have KN := Kn.start w
  obtain ⟨op, xa, xb, xc, xi⟩ := x
  obtain rfl : op = 1 := hx
  go_enter Try.func75, Try.ntmps75
  go_wp2_with (first | (go_at_call 26; refine (RSigned_any _ _ _ (by omega) (by omega)).mono ?_; rintro e w' ⟨rfl, rfl⟩) | (go_at_call 92; refine (truth_any _ _).mono ?_; rintro e w' ⟨rfl, rfl⟩) | ((with_reducible refine wpList_gate ?_); first | (refine wpList_kn_boxA KN (by rfl) 29 _ rfl 7 rfl _ rfl ?_; clear KN; intro g7 wx hg7 KN) | (refine wpList_kn_load1 KN (by rfl) 3 _ rfl _ _ rfl _ _ (by repeat (first | exact Has.here | refine Has.there ?_)) _ (by (repeat (first | ((with_reducible refine get_hit ?_); exact Nat.le_of_ble_eq_true (by kernel_rfl)) | ((with_reducible refine (get_miss ?_).trans ?_); (focus kernel_rfl)) | ((with_reducible refine (get_pmiss ?_).trans ?_); (focus kernel_rfl)))); all_goals (conv => lhs; whnf; arg 1; whnf)) _ Try.underlying3 rfl ?_)))
  go_ret
  refine ⟨_, rfl, and_assoc.1 ⟨?_, ?_, KN.toBelow⟩⟩
  · omega
  · rfl
theorem compute39_2 (x : Ins) (a b c im : Int) (w : World) (hx : x.op = 2) (a0 : 0 ≤ a) (a1 : a < 549755813888) (b0 : 0 ≤ b) (b1 : b < 549755813888) (c0 : 0 ≤ c) (c1 : c < 549755813888) (i0 : 0 ≤ im) (i1 : im < 549755813888) :
    Calls Try.prog 75 #[.int .i64 39, .agg x.cells, .int .u64 a, .int .u64 b, .int .u64 c, .int .u64 im] w (CompPost 39 2 a b c im w) := by
  have KN := Kn.start w
  obtain ⟨op, xa, xb, xc, xi⟩ := x
  obtain rfl : op = 2 := hx
  go_enter Try.func75, Try.ntmps75
  go_wp2_with (first | (go_at_call 26; refine (RSigned_any _ _ _ (by omega) (by omega)).mono ?_; rintro e w' ⟨rfl, rfl⟩) | (go_at_call 92; refine (truth_any _ _).mono ?_; rintro e w' ⟨rfl, rfl⟩) | ((with_reducible refine wpList_gate ?_); first | (refine wpList_kn_boxA KN (by rfl) 29 _ rfl 7 rfl _ rfl ?_; clear KN; intro g7 wx hg7 KN) | (refine wpList_kn_load1 KN (by rfl) 3 _ rfl _ _ rfl _ _ (by repeat (first | exact Has.here | refine Has.there ?_)) _ (by (repeat (first | ((with_reducible refine get_hit ?_); exact Nat.le_of_ble_eq_true (by kernel_rfl)) | ((with_reducible refine (get_miss ?_).trans ?_); (focus kernel_rfl)) | ((with_reducible refine (get_pmiss ?_).trans ?_); (focus kernel_rfl)))); all_goals (conv => lhs; whnf; arg 1; whnf)) _ Try.underlying3 rfl ?_)))
  go_ret
  refine ⟨_, rfl, and_assoc.1 ⟨?_, ?_, KN.toBelow⟩⟩
  · exact ⟨(wrap_u64_bd _).1, (wrap_u64_bd _).2⟩
  · rw [mask32 a (by omega) (by omega)]; show _ = (a % 4294967296 + im * 4294967296) % _; simp only [IntKind.wrap_u64]; rw [show pw2 39 = 549755813888 from rfl]; omega
theorem compute39_3 (x : Ins) (a b c im : Int) (w : World) (hx : x.op = 3) (a0 : 0 ≤ a) (a1 : a < 549755813888) (b0 : 0 ≤ b) (b1 : b < 549755813888) (c0 : 0 ≤ c) (c1 : c < 549755813888) (i0 : 0 ≤ im) (i1 : im < 549755813888) :
    Calls Try.prog 75 #[.int .i64 39, .agg x.cells, .int .u64 a, .int .u64 b, .int .u64 c, .int .u64 im] w (CompPost 39 3 a b c im w) := by
  have KN := Kn.start w
  obtain ⟨op, xa, xb, xc, xi⟩ := x
  obtain rfl : op = 3 := hx
  go_enter Try.func75, Try.ntmps75
  go_wp2_with (first | (go_at_call 26; refine (RSigned_any _ _ _ (by omega) (by omega)).mono ?_; rintro e w' ⟨rfl, rfl⟩) | (go_at_call 92; refine (truth_any _ _).mono ?_; rintro e w' ⟨rfl, rfl⟩) | ((with_reducible refine wpList_gate ?_); first | (refine wpList_kn_boxA KN (by rfl) 29 _ rfl 7 rfl _ rfl ?_; clear KN; intro g7 wx hg7 KN) | (refine wpList_kn_load1 KN (by rfl) 3 _ rfl _ _ rfl _ _ (by repeat (first | exact Has.here | refine Has.there ?_)) _ (by (repeat (first | ((with_reducible refine get_hit ?_); exact Nat.le_of_ble_eq_true (by kernel_rfl)) | ((with_reducible refine (get_miss ?_).trans ?_); (focus kernel_rfl)) | ((with_reducible refine (get_pmiss ?_).trans ?_); (focus kernel_rfl)))); all_goals (conv => lhs; whnf; arg 1; whnf)) _ Try.underlying3 rfl ?_)))
  go_ret
  refine ⟨_, rfl, and_assoc.1 ⟨?_, ?_, KN.toBelow⟩⟩
  · omega
  · rfl
theorem compute39_4 (x : Ins) (a b c im : Int) (w : World) (hx : x.op = 4) (a0 : 0 ≤ a) (a1 : a < 549755813888) (b0 : 0 ≤ b) (b1 : b < 549755813888) (c0 : 0 ≤ c) (c1 : c < 549755813888) (i0 : 0 ≤ im) (i1 : im < 549755813888) :
    Calls Try.prog 75 #[.int .i64 39, .agg x.cells, .int .u64 a, .int .u64 b, .int .u64 c, .int .u64 im] w (CompPost 39 4 a b c im w) := by
  have KN := Kn.start w
  obtain ⟨op, xa, xb, xc, xi⟩ := x
  obtain rfl : op = 4 := hx
  go_enter Try.func75, Try.ntmps75
  go_wp2_with (first | (go_at_call 26; refine (RSigned_any _ _ _ (by omega) (by omega)).mono ?_; rintro e w' ⟨rfl, rfl⟩) | (go_at_call 92; refine (truth_any _ _).mono ?_; rintro e w' ⟨rfl, rfl⟩) | ((with_reducible refine wpList_gate ?_); first | (refine wpList_kn_boxA KN (by rfl) 29 _ rfl 7 rfl _ rfl ?_; clear KN; intro g7 wx hg7 KN) | (refine wpList_kn_load1 KN (by rfl) 3 _ rfl _ _ rfl _ _ (by repeat (first | exact Has.here | refine Has.there ?_)) _ (by (repeat (first | ((with_reducible refine get_hit ?_); exact Nat.le_of_ble_eq_true (by kernel_rfl)) | ((with_reducible refine (get_miss ?_).trans ?_); (focus kernel_rfl)) | ((with_reducible refine (get_pmiss ?_).trans ?_); (focus kernel_rfl)))); all_goals (conv => lhs; whnf; arg 1; whnf)) _ Try.underlying3 rfl ?_)))
  go_ret
  refine ⟨_, rfl, and_assoc.1 ⟨?_, ?_, KN.toBelow⟩⟩
  · omega
  · rfl
theorem compute39_5 (x : Ins) (a b c im : Int) (w : World) (hx : x.op = 5) (a0 : 0 ≤ a) (a1 : a < 549755813888) (b0 : 0 ≤ b) (b1 : b < 549755813888) (c0 : 0 ≤ c) (c1 : c < 549755813888) (i0 : 0 ≤ im) (i1 : im < 549755813888) :
    Calls Try.prog 75 #[.int .i64 39, .agg x.cells, .int .u64 a, .int .u64 b, .int .u64 c, .int .u64 im] w (CompPost 39 5 a b c im w) := by
  have KN := Kn.start w
  obtain ⟨op, xa, xb, xc, xi⟩ := x
  obtain rfl : op = 5 := hx
  go_enter Try.func75, Try.ntmps75
  go_wp2_with (first | (go_at_call 26; refine (RSigned_any _ _ _ (by omega) (by omega)).mono ?_; rintro e w' ⟨rfl, rfl⟩) | (go_at_call 92; refine (truth_any _ _).mono ?_; rintro e w' ⟨rfl, rfl⟩) | ((with_reducible refine wpList_gate ?_); first | (refine wpList_kn_boxA KN (by rfl) 29 _ rfl 7 rfl _ rfl ?_; clear KN; intro g7 wx hg7 KN) | (refine wpList_kn_load1 KN (by rfl) 3 _ rfl _ _ rfl _ _ (by repeat (first | exact Has.here | refine Has.there ?_)) _ (by (repeat (first | ((with_reducible refine get_hit ?_); exact Nat.le_of_ble_eq_true (by kernel_rfl)) | ((with_reducible refine (get_miss ?_).trans ?_); (focus kernel_rfl)) | ((with_reducible refine (get_pmiss ?_).trans ?_); (focus kernel_rfl)))); all_goals (conv => lhs; whnf; arg 1; whnf)) _ Try.underlying3 rfl ?_)))
  go_ret
  refine ⟨_, rfl, and_assoc.1 ⟨?_, ?_, KN.toBelow⟩⟩
  · exact ⟨(wrap_u64_bd _).1, (wrap_u64_bd _).2⟩
  · exact wrap_mod _ _ (by decide)
theorem compute39_6 (x : Ins) (a b c im : Int) (w : World) (hx : x.op = 6) (a0 : 0 ≤ a) (a1 : a < 549755813888) (b0 : 0 ≤ b) (b1 : b < 549755813888) (c0 : 0 ≤ c) (c1 : c < 549755813888) (i0 : 0 ≤ im) (i1 : im < 549755813888) :
    Calls Try.prog 75 #[.int .i64 39, .agg x.cells, .int .u64 a, .int .u64 b, .int .u64 c, .int .u64 im] w (CompPost 39 6 a b c im w) := by
  have KN := Kn.start w
  obtain ⟨op, xa, xb, xc, xi⟩ := x
  obtain rfl : op = 6 := hx
  go_enter Try.func75, Try.ntmps75
  go_wp2_with (first | (go_at_call 26; refine (RSigned_any _ _ _ (by omega) (by omega)).mono ?_; rintro e w' ⟨rfl, rfl⟩) | (go_at_call 92; refine (truth_any _ _).mono ?_; rintro e w' ⟨rfl, rfl⟩) | ((with_reducible refine wpList_gate ?_); first | (refine wpList_kn_boxA KN (by rfl) 29 _ rfl 7 rfl _ rfl ?_; clear KN; intro g7 wx hg7 KN) | (refine wpList_kn_load1 KN (by rfl) 3 _ rfl _ _ rfl _ _ (by repeat (first | exact Has.here | refine Has.there ?_)) _ (by (repeat (first | ((with_reducible refine get_hit ?_); exact Nat.le_of_ble_eq_true (by kernel_rfl)) | ((with_reducible refine (get_miss ?_).trans ?_); (focus kernel_rfl)) | ((with_reducible refine (get_pmiss ?_).trans ?_); (focus kernel_rfl)))); all_goals (conv => lhs; whnf; arg 1; whnf)) _ Try.underlying3 rfl ?_)))
  go_ret
  refine ⟨_, rfl, and_assoc.1 ⟨?_, ?_, KN.toBelow⟩⟩
  · exact ⟨(wrap_u64_bd _).1, (wrap_u64_bd _).2⟩
  · exact wrap_mod _ _ (by decide)
theorem compute39_7 (x : Ins) (a b c im : Int) (w : World) (hx : x.op = 7) (a0 : 0 ≤ a) (a1 : a < 549755813888) (b0 : 0 ≤ b) (b1 : b < 549755813888) (c0 : 0 ≤ c) (c1 : c < 549755813888) (i0 : 0 ≤ im) (i1 : im < 549755813888) (hc : 0 < c) :
    Calls Try.prog 75 #[.int .i64 39, .agg x.cells, .int .u64 a, .int .u64 b, .int .u64 c, .int .u64 im] w (CompPost 39 7 a b c im w) := by
  have KN := Kn.start w
  obtain ⟨op, xa, xb, xc, xi⟩ := x
  obtain rfl : op = 7 := hx
  have hz : (c == 0) = false := by rw [beq_eq_false_iff_ne]; omega
  have q0 := Int.ediv_nonneg (b := c) b0 (by omega)
  have q1 := Int.ediv_le_self c b0
  go_enter Try.func75, Try.ntmps75
  go_wp2_with (first | (go_at_call 26; refine (RSigned_any _ _ _ (by omega) (by omega)).mono ?_; rintro e w' ⟨rfl, rfl⟩) | (go_at_call 92; refine (truth_any _ _).mono ?_; rintro e w' ⟨rfl, rfl⟩) | ((with_reducible refine wpList_gate ?_); first | (refine wpList_kn_boxA KN (by rfl) 29 _ rfl 7 rfl _ rfl ?_; clear KN; intro g7 wx hg7 KN) | (refine wpList_kn_load1 KN (by rfl) 3 _ rfl _ _ rfl _ _ (by repeat (first | exact Has.here | refine Has.there ?_)) _ (by (repeat (first | ((with_reducible refine get_hit ?_); exact Nat.le_of_ble_eq_true (by kernel_rfl)) | ((with_reducible refine (get_miss ?_).trans ?_); (focus kernel_rfl)) | ((with_reducible refine (get_pmiss ?_).trans ?_); (focus kernel_rfl)))); all_goals (conv => lhs; whnf; arg 1; whnf)) _ Try.underlying3 rfl ?_)))
  go_ret
  refine ⟨_, rfl, and_assoc.1 ⟨?_, ?_, KN.toBelow⟩⟩
  · exact ⟨q0, Int.le_trans q1 (by omega)⟩
  · rfl
theorem compute39_8 (x : Ins) (a b c im : Int) (w : World) (hx : x.op = 8) (a0 : 0 ≤ a) (a1 : a < 549755813888) (b0 : 0 ≤ b) (b1 : b < 549755813888) (c0 : 0 ≤ c) (c1 : c < 549755813888) (i0 : 0 ≤ im) (i1 : im < 549755813888) (hc : 0 < c) :
    Calls Try.prog 75 #[.int .i64 39, .agg x.cells, .int .u64 a, .int .u64 b, .int .u64 c, .int .u64 im] w (CompPost 39 8 a b c im w) := by
  have KN := Kn.start w
  obtain ⟨op, xa, xb, xc, xi⟩ := x
  obtain rfl : op = 8 := hx
  have hz : (c == 0) = false := by rw [beq_eq_false_iff_ne]; omega
  have q0 := Int.emod_nonneg b (show c ≠ 0 by omega)
  have q1 := Int.emod_lt_of_pos b (show 0 < c by omega)
  go_enter Try.func75, Try.ntmps75
  go_wp2_with (first | (go_at_call 26; refine (RSigned_any _ _ _ (by omega) (by omega)).mono ?_; rintro e w' ⟨rfl, rfl⟩) | (go_at_call 92; refine (truth_any _ _).mono ?_; rintro e w' ⟨rfl, rfl⟩) | ((with_reducible refine wpList_gate ?_); first | (refine wpList_kn_boxA KN (by rfl) 29 _ rfl 7 rfl _ rfl ?_; clear KN; intro g7 wx hg7 KN) | (refine wpList_kn_load1 KN (by rfl) 3 _ rfl _ _ rfl _ _ (by repeat (first | exact Has.here | refine Has.there ?_)) _ (by (repeat (first | ((with_reducible refine get_hit ?_); exact Nat.le_of_ble_eq_true (by kernel_rfl)) | ((with_reducible refine (get_miss ?_).trans ?_); (focus kernel_rfl)) | ((with_reducible refine (get_pmiss ?_).trans ?_); (focus kernel_rfl)))); all_goals (conv => lhs; whnf; arg 1; whnf)) _ Try.underlying3 rfl ?_)))
  go_ret
  refine ⟨_, rfl, and_assoc.1 ⟨?_, ?_, KN.toBelow⟩⟩
  · exact ⟨q0, by omega⟩
  · rfl
theorem compute39_9 (x : Ins) (a b c im : Int) (w : World) (hx : x.op = 9) (a0 : 0 ≤ a) (a1 : a < 549755813888) (b0 : 0 ≤ b) (b1 : b < 549755813888) (c0 : 0 ≤ c) (c1 : c < 549755813888) (i0 : 0 ≤ im) (i1 : im < 549755813888) :
    Calls Try.prog 75 #[.int .i64 39, .agg x.cells, .int .u64 a, .int .u64 b, .int .u64 c, .int .u64 im] w (CompPost 39 9 a b c im w) := by
  have KN := Kn.start w
  obtain ⟨op, xa, xb, xc, xi⟩ := x
  obtain rfl : op = 9 := hx
  go_enter Try.func75, Try.ntmps75
  go_wp2_with (first | (go_at_call 26; refine (RSigned_any _ _ _ (by omega) (by omega)).mono ?_; rintro e w' ⟨rfl, rfl⟩) | (go_at_call 92; refine (truth_any _ _).mono ?_; rintro e w' ⟨rfl, rfl⟩) | ((with_reducible refine wpList_gate ?_); first | (refine wpList_kn_boxA KN (by rfl) 29 _ rfl 7 rfl _ rfl ?_; clear KN; intro g7 wx hg7 KN) | (refine wpList_kn_load1 KN (by rfl) 3 _ rfl _ _ rfl _ _ (by repeat (first | exact Has.here | refine Has.there ?_)) _ (by (repeat (first | ((with_reducible refine get_hit ?_); exact Nat.le_of_ble_eq_true (by kernel_rfl)) | ((with_reducible refine (get_miss ?_).trans ?_); (focus kernel_rfl)) | ((with_reducible refine (get_pmiss ?_).trans ?_); (focus kernel_rfl)))); all_goals (conv => lhs; whnf; arg 1; whnf)) _ Try.underlying3 rfl ?_)))
  go_ret
  refine ⟨_, rfl, and_assoc.1 ⟨?_, ?_, KN.toBelow⟩⟩
  · exact bits_bd _ _ _ ⟨_, bitsN_and b c (by omega) (by omega) (by omega) (by omega), Nat.le_of_lt (Nat.lt_trans (and_le' _ _ (by omega)) (by decide))⟩
  · rw [bitsN_and b c (by omega) (by omega) (by omega) (by omega)]; rfl
theorem compute39_10 (x : Ins) (a b c im : Int) (w : World) (hx : x.op = 10) (a0 : 0 ≤ a) (a1 : a < 549755813888) (b0 : 0 ≤ b) (b1 : b < 549755813888) (c0 : 0 ≤ c) (c1 : c < 549755813888) (i0 : 0 ≤ im) (i1 : im < 549755813888) :
    Calls Try.prog 75 #[.int .i64 39, .agg x.cells, .int .u64 a, .int .u64 b, .int .u64 c, .int .u64 im] w (CompPost 39 10 a b c im w) := by
  have KN := Kn.start w
  obtain ⟨op, xa, xb, xc, xi⟩ := x
  obtain rfl : op = 10 := hx
  go_enter Try.func75, Try.ntmps75
  go_wp2_with (first | (go_at_call 26; refine (RSigned_any _ _ _ (by omega) (by omega)).mono ?_; rintro e w' ⟨rfl, rfl⟩) | (go_at_call 92; refine (truth_any _ _).mono ?_; rintro e w' ⟨rfl, rfl⟩) | ((with_reducible refine wpList_gate ?_); first | (refine wpList_kn_boxA KN (by rfl) 29 _ rfl 7 rfl _ rfl ?_; clear KN; intro g7 wx hg7 KN) | (refine wpList_kn_load1 KN (by rfl) 3 _ rfl _ _ rfl _ _ (by repeat (first | exact Has.here | refine Has.there ?_)) _ (by (repeat (first | ((with_reducible refine get_hit ?_); exact Nat.le_of_ble_eq_true (by kernel_rfl)) | ((with_reducible refine (get_miss ?_).trans ?_); (focus kernel_rfl)) | ((with_reducible refine (get_pmiss ?_).trans ?_); (focus kernel_rfl)))); all_goals (conv => lhs; whnf; arg 1; whnf)) _ Try.underlying3 rfl ?_)))
  go_ret
  refine ⟨_, rfl, and_assoc.1 ⟨?_, ?_, KN.toBelow⟩⟩
  · exact bits_bd _ _ _ ⟨_, bitsN_or b c (by omega) (by omega) (by omega) (by omega), Nat.le_of_lt (Nat.lt_trans (or_lt' _ _ (by omega) (by omega)) (by decide))⟩
  · rw [bitsN_or b c (by omega) (by omega) (by omega) (by omega)]; rfl
theorem compute39_11 (x : Ins) (a b c im : Int) (w : World) (hx : x.op = 11) (a0 : 0 ≤ a) (a1 : a < 549755813888) (b0 : 0 ≤ b) (b1 : b < 549755813888) (c0 : 0 ≤ c) (c1 : c < 549755813888) (i0 : 0 ≤ im) (i1 : im < 549755813888) :
    Calls Try.prog 75 #[.int .i64 39, .agg x.cells, .int .u64 a, .int .u64 b, .int .u64 c, .int .u64 im] w (CompPost 39 11 a b c im w) := by
  have KN := Kn.start w
  obtain ⟨op, xa, xb, xc, xi⟩ := x
  obtain rfl : op = 11 := hx
  go_enter Try.func75, Try.ntmps75
  go_wp2_with (first | (go_at_call 26; refine (RSigned_any _ _ _ (by omega) (by omega)).mono ?_; rintro e w' ⟨rfl, rfl⟩) | (go_at_call 92; refine (truth_any _ _).mono ?_; rintro e w' ⟨rfl, rfl⟩) | ((with_reducible refine wpList_gate ?_); first | (refine wpList_kn_boxA KN (by rfl) 29 _ rfl 7 rfl _ rfl ?_; clear KN; intro g7 wx hg7 KN) | (refine wpList_kn_load1 KN (by rfl) 3 _ rfl _ _ rfl _ _ (by repeat (first | exact Has.here | refine Has.there ?_)) _ (by (repeat (first | ((with_reducible refine get_hit ?_); exact Nat.le_of_ble_eq_true (by kernel_rfl)) | ((with_reducible refine (get_miss ?_).trans ?_); (focus kernel_rfl)) | ((with_reducible refine (get_pmiss ?_).trans ?_); (focus kernel_rfl)))); all_goals (conv => lhs; whnf; arg 1; whnf)) _ Try.underlying3 rfl ?_)))
  go_ret
  refine ⟨_, rfl, and_assoc.1 ⟨?_, ?_, KN.toBelow⟩⟩
  · exact bits_bd _ _ _ ⟨_, bitsN_xor b c (by omega) (by omega) (by omega) (by omega), Nat.le_of_lt (Nat.lt_trans (xor_lt' _ _ (by omega) (by omega)) (by decide))⟩
  · rw [bitsN_xor b c (by omega) (by omega) (by omega) (by omega)]; rfl
theorem compute39_12 (x : Ins) (a b c im : Int) (w : World) (hx : x.op = 12) (a0 : 0 ≤ a) (a1 : a < 549755813888) (b0 : 0 ≤ b) (b1 : b < 549755813888) (c0 : 0 ≤ c) (c1 : c < 549755813888) (i0 : 0 ≤ im) (i1 : im < 549755813888) :
    Calls Try.prog 75 #[.int .i64 39, .agg x.cells, .int .u64 a, .int .u64 b, .int .u64 c, .int .u64 im] w (CompPost 39 12 a b c im w) := by
  have KN := Kn.start w
  obtain ⟨op, xa, xb, xc, xi⟩ := x
  obtain rfl : op = 12 := hx
  have q0 := Int.emod_nonneg c (show (39 : Int) ≠ 0 by decide)
  have q1 := Int.emod_lt_of_pos c (show (0 : Int) < 39 by decide)
  have q2 : c % 39 < 64 := by omega
  go_enter Try.func75, Try.ntmps75
  go_wp2_with (first | (go_at_call 26; refine (RSigned_any _ _ _ (by omega) (by omega)).mono ?_; rintro e w' ⟨rfl, rfl⟩) | (go_at_call 92; refine (truth_any _ _).mono ?_; rintro e w' ⟨rfl, rfl⟩) | ((with_reducible refine wpList_gate ?_); first | (refine wpList_kn_boxA KN (by rfl) 29 _ rfl 7 rfl _ rfl ?_; clear KN; intro g7 wx hg7 KN) | (refine wpList_kn_load1 KN (by rfl) 3 _ rfl _ _ rfl _ _ (by repeat (first | exact Has.here | refine Has.there ?_)) _ (by (repeat (first | ((with_reducible refine get_hit ?_); exact Nat.le_of_ble_eq_true (by kernel_rfl)) | ((with_reducible refine (get_miss ?_).trans ?_); (focus kernel_rfl)) | ((with_reducible refine (get_pmiss ?_).trans ?_); (focus kernel_rfl)))); all_goals (conv => lhs; whnf; arg 1; whnf)) _ Try.underlying3 rfl ?_)))
  go_ret
  refine ⟨_, rfl, and_assoc.1 ⟨?_, ?_, KN.toBelow⟩⟩
  · exact ⟨(wrap_u64_bd _).1, (wrap_u64_bd _).2⟩
  · exact wrap_mod _ _ (by decide)
theorem compute39_13 (x : Ins) (a b c im : Int) (w : World) (hx : x.op = 13) (a0 : 0 ≤ a) (a1 : a < 549755813888) (b0 : 0 ≤ b) (b1 : b < 549755813888) (c0 : 0 ≤ c) (c1 : c < 549755813888) (i0 : 0 ≤ im) (i1 : im < 549755813888) :
    Calls Try.prog 75 #[.int .i64 39, .agg x.cells, .int .u64 a, .int .u64 b, .int .u64 c, .int .u64 im] w (CompPost 39 13 a b c im w) := by
  have KN := Kn.start w
  obtain ⟨op, xa, xb, xc, xi⟩ := x
  obtain rfl : op = 13 := hx
  have q0 := Int.emod_nonneg c (show (39 : Int) ≠ 0 by decide)
  have q1 := Int.emod_lt_of_pos c (show (0 : Int) < 39 by decide)
  have q2 : c % 39 < 64 := by omega
  have hp : (0 : Int) < 2 ^ (c % 39).toNat := Int.pow_pos (by decide)
  have s0 := Int.ediv_nonneg (b := 2 ^ (c % 39).toNat) b0 (by omega)
  have s1 := Int.ediv_le_self (2 ^ (c % 39).toNat) b0
  clear hp
  go_enter Try.func75, Try.ntmps75
  go_wp2_with (first | (go_at_call 26; refine (RSigned_any _ _ _ (by omega) (by omega)).mono ?_; rintro e w' ⟨rfl, rfl⟩) | (go_at_call 92; refine (truth_any _ _).mono ?_; rintro e w' ⟨rfl, rfl⟩) | ((with_reducible refine wpList_gate ?_); first | (refine wpList_kn_boxA KN (by rfl) 29 _ rfl 7 rfl _ rfl ?_; clear KN; intro g7 wx hg7 KN) | (refine wpList_kn_load1 KN (by rfl) 3 _ rfl _ _ rfl _ _ (by repeat (first | exact Has.here | refine Has.there ?_)) _ (by (repeat (first | ((with_reducible refine get_hit ?_); exact Nat.le_of_ble_eq_true (by kernel_rfl)) | ((with_reducible refine (get_miss ?_).trans ?_); (focus kernel_rfl)) | ((with_reducible refine (get_pmiss ?_).trans ?_); (focus kernel_rfl)))); all_goals (conv => lhs; whnf; arg 1; whnf)) _ Try.underlying3 rfl ?_)))
  go_ret
  refine ⟨_, rfl, and_assoc.1 ⟨?_, ?_, KN.toBelow⟩⟩
  · exact ⟨s0, Int.le_trans s1 (by omega)⟩
  · rfl
theorem compute39_14 (x : Ins) (a b c im : Int) (w : World) (hx : x.op = 14) (a0 : 0 ≤ a) (a1 : a < 549755813888) (b0 : 0 ≤ b) (b1 : b < 549755813888) (c0 : 0 ≤ c) (c1 : c < 549755813888) (i0 : 0 ≤ im) (i1 : im < 549755813888) :
    Calls Try.prog 75 #[.int .i64 39, .agg x.cells, .int .u64 a, .int .u64 b, .int .u64 c, .int .u64 im] w (CompPost 39 14 a b c im w) := by
  have KN := Kn.start w
  obtain ⟨op, xa, xb, xc, xi⟩ := x
  obtain rfl : op = 14 := hx
  go_enter Try.func75, Try.ntmps75
  go_wp2_with (first | (go_at_call 26; refine (RSigned_any _ _ _ (by omega) (by omega)).mono ?_; rintro e w' ⟨rfl, rfl⟩) | (go_at_call 92; refine (truth_any _ _).mono ?_; rintro e w' ⟨rfl, rfl⟩) | ((with_reducible refine wpList_gate ?_); first | (refine wpList_kn_boxA KN (by rfl) 29 _ rfl 7 rfl _ rfl ?_; clear KN; intro g7 wx hg7 KN) | (refine wpList_kn_load1 KN (by rfl) 3 _ rfl _ _ rfl _ _ (by repeat (first | exact Has.here | refine Has.there ?_)) _ (by (repeat (first | ((with_reducible refine get_hit ?_); exact Nat.le_of_ble_eq_true (by kernel_rfl)) | ((with_reducible refine (get_miss ?_).trans ?_); (focus kernel_rfl)) | ((with_reducible refine (get_pmiss ?_).trans ?_); (focus kernel_rfl)))); all_goals (conv => lhs; whnf; arg 1; whnf)) _ Try.underlying3 rfl ?_)))
  go_ret
  refine ⟨_, rfl, and_assoc.1 ⟨?_, ?_, KN.toBelow⟩⟩
  · omega
  · rfl
theorem compute39_15 (x : Ins) (a b c im : Int) (w : World) (hx : x.op = 15) (a0 : 0 ≤ a) (a1 : a < 549755813888) (b0 : 0 ≤ b) (b1 : b < 549755813888) (c0 : 0 ≤ c) (c1 : c < 549755813888) (i0 : 0 ≤ im) (i1 : im < 549755813888) :
    Calls Try.prog 75 #[.int .i64 39, .agg x.cells, .int .u64 a, .int .u64 b, .int .u64 c, .int .u64 im] w (CompPost 39 15 a b c im w) := by
  have KN := Kn.start w
  obtain ⟨op, xa, xb, xc, xi⟩ := x
  obtain rfl : op = 15 := hx
  go_enter Try.func75, Try.ntmps75
  go_wp2_with (first | (go_at_call 26; refine (RSigned_any _ _ _ (by omega) (by omega)).mono ?_; rintro e w' ⟨rfl, rfl⟩) | (go_at_call 92; refine (truth_any _ _).mono ?_; rintro e w' ⟨rfl, rfl⟩) | ((with_reducible refine wpList_gate ?_); first | (refine wpList_kn_boxA KN (by rfl) 29 _ rfl 7 rfl _ rfl ?_; clear KN; intro g7 wx hg7 KN) | (refine wpList_kn_load1 KN (by rfl) 3 _ rfl _ _ rfl _ _ (by repeat (first | exact Has.here | refine Has.there ?_)) _ (by (repeat (first | ((with_reducible refine get_hit ?_); exact Nat.le_of_ble_eq_true (by kernel_rfl)) | ((with_reducible refine (get_miss ?_).trans ?_); (focus kernel_rfl)) | ((with_reducible refine (get_pmiss ?_).trans ?_); (focus kernel_rfl)))); all_goals (conv => lhs; whnf; arg 1; whnf)) _ Try.underlying3 rfl ?_)))
  go_ret
  refine ⟨_, rfl, and_assoc.1 ⟨?_, ?_, KN.toBelow⟩⟩
  · exact truth_bd _
  · rfl
theorem compute39_16 (x : Ins) (a b c im : Int) (w : World) (hx : x.op = 16) (a0 : 0 ≤ a) (a1 : a < 549755813888) (b0 : 0 ≤ b) (b1 : b < 549755813888) (c0 : 0 ≤ c) (c1 : c < 549755813888) (i0 : 0 ≤ im) (i1 : im < 549755813888) :
    Calls Try.prog 75 #[.int .i64 39, .agg x.cells, .int .u64 a, .int .u64 b, .int .u64 c, .int .u64 im] w (CompPost 39 16 a b c im w) := by
  have KN := Kn.start w
  obtain ⟨op, xa, xb, xc, xi⟩ := x
  obtain rfl : op = 16 := hx
  go_enter Try.func75, Try.ntmps75
  go_wp2_with (first | (go_at_call 26; refine (RSigned_any _ _ _ (by omega) (by omega)).mono ?_; rintro e w' ⟨rfl, rfl⟩) | (go_at_call 92; refine (truth_any _ _).mono ?_; rintro e w' ⟨rfl, rfl⟩) | ((with_reducible refine wpList_gate ?_); first | (refine wpList_kn_boxA KN (by rfl) 29 _ rfl 7 rfl _ rfl ?_; clear KN; intro g7 wx hg7 KN) | (refine wpList_kn_load1 KN (by rfl) 3 _ rfl _ _ rfl _ _ (by repeat (first | exact Has.here | refine Has.there ?_)) _ (by (repeat (first | ((with_reducible refine get_hit ?_); exact Nat.le_of_ble_eq_true (by kernel_rfl)) | ((with_reducible refine (get_miss ?_).trans ?_); (focus kernel_rfl)) | ((with_reducible refine (get_pmiss ?_).trans ?_); (focus kernel_rfl)))); all_goals (conv => lhs; whnf; arg 1; whnf)) _ Try.underlying3 rfl ?_)))
  go_ret
  refine ⟨_, rfl, and_assoc.1 ⟨?_, ?_, KN.toBelow⟩⟩
  · exact truth_bd _
  · rfl
theorem compute39_17 (x : Ins) (a b c im : Int) (w : World) (hx : x.op = 17) (a0 : 0 ≤ a) (a1 : a < 549755813888) (b0 : 0 ≤ b) (b1 : b < 549755813888) (c0 : 0 ≤ c) (c1 : c < 549755813888) (i0 : 0 ≤ im) (i1 : im < 549755813888) :
    Calls Try.prog 75 #[.int .i64 39, .agg x.cells, .int .u64 a, .int .u64 b, .int .u64 c, .int .u64 im] w (CompPost 39 17 a b c im w) := by
  have KN := Kn.start w
  obtain ⟨op, xa, xb, xc, xi⟩ := x
  obtain rfl : op = 17 := hx
  go_enter Try.func75, Try.ntmps75
  go_wp2_with (first | (go_at_call 26; refine (RSigned_any _ _ _ (by omega) (by omega)).mono ?_; rintro e w' ⟨rfl, rfl⟩) | (go_at_call 92; refine (truth_any _ _).mono ?_; rintro e w' ⟨rfl, rfl⟩) | ((with_reducible refine wpList_gate ?_); first | (refine wpList_kn_boxA KN (by rfl) 29 _ rfl 7 rfl _ rfl ?_; clear KN; intro g7 wx hg7 KN) | (refine wpList_kn_load1 KN (by rfl) 3 _ rfl _ _ rfl _ _ (by repeat (first | exact Has.here | refine Has.there ?_)) _ (by (repeat (first | ((with_reducible refine get_hit ?_); exact Nat.le_of_ble_eq_true (by kernel_rfl)) | ((with_reducible refine (get_miss ?_).trans ?_); (focus kernel_rfl)) | ((with_reducible refine (get_pmiss ?_).trans ?_); (focus kernel_rfl)))); all_goals (conv => lhs; whnf; arg 1; whnf)) _ Try.underlying3 rfl ?_)))
  go_ret
  refine ⟨_, rfl, and_assoc.1 ⟨?_, ?_, KN.toBelow⟩⟩
  · exact truth_bd _
  · rfl
theorem compute_any (wd : Int) (x : Ins) (a b c im : Int) (w : World) (hw : wd = 32 ∨ wd = 39) (h0 : 1 ≤ x.op) (h1 : x.op ≤ 17) (a0 : 0 ≤ a) (a1 : a < 549755813888) (b0 : 0 ≤ b) (b1 : b < 549755813888) (c0 : 0 ≤ c) (c1 : c < 549755813888) (i0 : 0 ≤ im) (i1 : im < 549755813888) (hc : ¬ ((x.op = 7 ∨ x.op = 8) ∧ c = 0)) :
    Calls Try.prog 75 #[.int .i64 wd, .agg x.cells, .int .u64 a, .int .u64 b, .int .u64 c, .int .u64 im] w (CompPost wd x.op a b c im w) := by
  have ho : x.op = 1 ∨ x.op = 2 ∨ x.op = 3 ∨ x.op = 4 ∨ x.op = 5 ∨ x.op = 6 ∨ x.op = 7 ∨ x.op = 8 ∨ x.op = 9 ∨ x.op = 10 ∨ x.op = 11 ∨ x.op = 12 ∨ x.op = 13 ∨ x.op = 14 ∨ x.op = 15 ∨ x.op = 16 ∨ x.op = 17 := by omega
  rcases hw with rfl | rfl
  · rcases ho with ho | ho | ho | ho | ho | ho | ho | ho | ho | ho | ho | ho | ho | ho | ho | ho | ho
    · rw [ho]; exact compute32_1 x a b c im w ho a0 a1 b0 b1 c0 c1 i0 i1
    · rw [ho]; exact compute32_2 x a b c im w ho a0 a1 b0 b1 c0 c1 i0 i1
    · rw [ho]; exact compute32_3 x a b c im w ho a0 a1 b0 b1 c0 c1 i0 i1
    · rw [ho]; exact compute32_4 x a b c im w ho a0 a1 b0 b1 c0 c1 i0 i1
    · rw [ho]; exact compute32_5 x a b c im w ho a0 a1 b0 b1 c0 c1 i0 i1
    · rw [ho]; exact compute32_6 x a b c im w ho a0 a1 b0 b1 c0 c1 i0 i1
    · rw [ho]; exact compute32_7 x a b c im w ho a0 a1 b0 b1 c0 c1 i0 i1 (by omega)
    · rw [ho]; exact compute32_8 x a b c im w ho a0 a1 b0 b1 c0 c1 i0 i1 (by omega)
    · rw [ho]; exact compute32_9 x a b c im w ho a0 a1 b0 b1 c0 c1 i0 i1
    · rw [ho]; exact compute32_10 x a b c im w ho a0 a1 b0 b1 c0 c1 i0 i1
    · rw [ho]; exact compute32_11 x a b c im w ho a0 a1 b0 b1 c0 c1 i0 i1
    · rw [ho]; exact compute32_12 x a b c im w ho a0 a1 b0 b1 c0 c1 i0 i1
    · rw [ho]; exact compute32_13 x a b c im w ho a0 a1 b0 b1 c0 c1 i0 i1
    · rw [ho]; exact compute32_14 x a b c im w ho a0 a1 b0 b1 c0 c1 i0 i1
    · rw [ho]; exact compute32_15 x a b c im w ho a0 a1 b0 b1 c0 c1 i0 i1
    · rw [ho]; exact compute32_16 x a b c im w ho a0 a1 b0 b1 c0 c1 i0 i1
    · rw [ho]; exact compute32_17 x a b c im w ho a0 a1 b0 b1 c0 c1 i0 i1
  · rcases ho with ho | ho | ho | ho | ho | ho | ho | ho | ho | ho | ho | ho | ho | ho | ho | ho | ho
    · rw [ho]; exact compute39_1 x a b c im w ho a0 a1 b0 b1 c0 c1 i0 i1
    · rw [ho]; exact compute39_2 x a b c im w ho a0 a1 b0 b1 c0 c1 i0 i1
    · rw [ho]; exact compute39_3 x a b c im w ho a0 a1 b0 b1 c0 c1 i0 i1
    · rw [ho]; exact compute39_4 x a b c im w ho a0 a1 b0 b1 c0 c1 i0 i1
    · rw [ho]; exact compute39_5 x a b c im w ho a0 a1 b0 b1 c0 c1 i0 i1
    · rw [ho]; exact compute39_6 x a b c im w ho a0 a1 b0 b1 c0 c1 i0 i1
    · rw [ho]; exact compute39_7 x a b c im w ho a0 a1 b0 b1 c0 c1 i0 i1 (by omega)
    · rw [ho]; exact compute39_8 x a b c im w ho a0 a1 b0 b1 c0 c1 i0 i1 (by omega)
    · rw [ho]; exact compute39_9 x a b c im w ho a0 a1 b0 b1 c0 c1 i0 i1
    · rw [ho]; exact compute39_10 x a b c im w ho a0 a1 b0 b1 c0 c1 i0 i1
    · rw [ho]; exact compute39_11 x a b c im w ho a0 a1 b0 b1 c0 c1 i0 i1
    · rw [ho]; exact compute39_12 x a b c im w ho a0 a1 b0 b1 c0 c1 i0 i1
    · rw [ho]; exact compute39_13 x a b c im w ho a0 a1 b0 b1 c0 c1 i0 i1
    · rw [ho]; exact compute39_14 x a b c im w ho a0 a1 b0 b1 c0 c1 i0 i1
    · rw [ho]; exact compute39_15 x a b c im w ho a0 a1 b0 b1 c0 c1 i0 i1
    · rw [ho]; exact compute39_16 x a b c im w ho a0 a1 b0 b1 c0 c1 i0 i1
    · rw [ho]; exact compute39_17 x a b c im w ho a0 a1 b0 b1 c0 c1 i0 i1
end Go.Proofs.Ytbllialcfmpkaaa
