/- The facts of numbers in the arithmetic law. (Printed by gen_arith.py.) -/
import Derived.Test.YtbllialcfmpkaaaArith0
import Derived.Test.YtbllialcfmpkaaaAlu
set_option linter.unusedVariables false
set_option linter.unusedSimpArgs false
set_option linter.unusedSectionVars false
namespace Go.Proofs.Ytbllialcfmpkaaa
open Go.RowKit
theorem or_and_same (m n : Nat) : m ||| (m &&& n) = m := by
  apply Nat.eq_of_testBit_eq; intro i; simp only [Nat.testBit_or, Nat.testBit_and]; cases m.testBit i <;> simp
theorem and_or_same (m n : Nat) : m &&& (m ||| n) = m := by
  apply Nat.eq_of_testBit_eq; intro i; simp only [Nat.testBit_or, Nat.testBit_and]; cases m.testBit i <;> simp
theorem and_or_sum (m : Nat) : ∀ n, (m ||| n) + (m &&& n) = m + n := by
  induction m using Nat.strongRecOn with
  | _ m ih =>
    intro n
    by_cases h0 : m = 0
    · subst h0; simp
    have h := ih (m / 2) (by omega) (n / 2)
    have e1 : (m ||| n) / 2 = m / 2 ||| n / 2 := Nat.or_div_two
    have e2 : (m &&& n) / 2 = m / 2 &&& n / 2 := Nat.and_div_two
    have p1 : (m ||| n) % 2 = 1 ↔ m % 2 = 1 ∨ n % 2 = 1 := Nat.or_mod_two_eq_one
    have p2 : (m &&& n) % 2 = 1 ↔ m % 2 = 1 ∧ n % 2 = 1 := Nat.and_mod_two_eq_one
    rw [← e1, ← e2] at h
    omega
theorem xor_or_and (m : Nat) : ∀ n, (m ^^^ n) + (m &&& n) = (m ||| n) := by
  induction m using Nat.strongRecOn with
  | _ m ih =>
    intro n
    by_cases h0 : m = 0
    · subst h0; simp
    have h := ih (m / 2) (by omega) (n / 2)
    have e0 : (m ^^^ n) / 2 = m / 2 ^^^ n / 2 := Nat.xor_div_two
    have e1 : (m ||| n) / 2 = m / 2 ||| n / 2 := Nat.or_div_two
    have e2 : (m &&& n) / 2 = m / 2 &&& n / 2 := Nat.and_div_two
    have p0 : (m ^^^ n) % 2 = 1 ↔ ¬ (m % 2 = 1 ↔ n % 2 = 1) := Nat.xor_mod_two_eq_one
    have p1 : (m ||| n) % 2 = 1 ↔ m % 2 = 1 ∨ n % 2 = 1 := Nat.or_mod_two_eq_one
    have p2 : (m &&& n) % 2 = 1 ↔ m % 2 = 1 ∧ n % 2 = 1 := Nat.and_mod_two_eq_one
    rw [← e0, ← e1, ← e2] at h
    omega
theorem emod_le_self' (b c : Int) (h : 0 ≤ b) (hc : 0 ≤ c) : b % c ≤ b := by
  have h1 : 0 ≤ c * (b / c) := Int.mul_nonneg hc (Int.ediv_nonneg h hc)
  rw [Int.emod_def]; omega
def ar_s (b : Int) (q n : Nat) : Int := b / 2 ^ (q - n)
theorem ar_s_0 (b : Int) (q : Nat) : ar_s b q q = b := by unfold ar_s; rw [Nat.sub_self]; simp
theorem ar_s_1 (b : Int) (q n : Nat) (h : n + 1 ≤ q) : ar_s b q (n + 1) / 2 = ar_s b q n := by
  unfold ar_s
  rw [show q - n = (q - (n + 1)) + 1 from by omega, Int.pow_succ, Int.ediv_ediv_of_nonneg (Int.le_of_lt (Int.pow_pos (by decide)))]
def ar32_l (b : Int) (q n : Nat) : Int := b * 2 ^ (q - n) % 4294967296
theorem ar32_l_0 (b : Int) (q : Nat) (b0 : 0 ≤ b) (b1 : b < 4294967296) : ar32_l b q q = b := by unfold ar32_l; rw [Nat.sub_self]; simp; omega
theorem ar32_l_1 (b : Int) (q n : Nat) (h : n + 1 ≤ q) : ar32_l b q (n + 1) * 2 % 4294967296 = ar32_l b q n := by
  unfold ar32_l
  rw [show q - n = (q - (n + 1)) + 1 from by omega, Int.pow_succ, ← Int.mul_assoc]
  generalize b * 2 ^ (q - (n + 1)) = z
  omega
def ar39_l (b : Int) (q n : Nat) : Int := b * 2 ^ (q - n) % 549755813888
theorem ar39_l_0 (b : Int) (q : Nat) (b0 : 0 ≤ b) (b1 : b < 549755813888) : ar39_l b q q = b := by unfold ar39_l; rw [Nat.sub_self]; simp; omega
theorem ar39_l_1 (b : Int) (q n : Nat) (h : n + 1 ≤ q) : ar39_l b q (n + 1) * 2 % 549755813888 = ar39_l b q n := by
  unfold ar39_l
  rw [show q - n = (q - (n + 1)) + 1 from by omega, Int.pow_succ, ← Int.mul_assoc]
  generalize b * 2 ^ (q - (n + 1)) = z
  omega
theorem sgn32_a (b : Int) (b0 : 0 ≤ b) (b1 : b < 4294967296) : (decide (signed 32 b < 0) == (b / 2147483648 == 1)) = true := by
  have hs : signed 32 b = if 2147483648 ≤ b then b - 4294967296 else b := by
    unfold signed; rw [show wide 32 = true from rfl, if_pos rfl, show pw2 32 = 4294967296 from rfl, Int.emod_eq_of_lt b0 b1]; split <;> split <;> omega
  rw [hs]
  by_cases h : 2147483648 ≤ b
  · rw [if_pos h, decide_eq_true (by omega), beq_iff_eq.2 (show b / 2147483648 = 1 by omega)]; rfl
  · rw [if_neg h, decide_eq_false (by omega), beq_eq_false_iff_ne.2 (show b / 2147483648 ≠ 1 by omega)]; rfl
theorem sgn32_b (b : Int) (b0 : 0 ≤ b) (b1 : b < 4294967296) : bits BinOp.and IntKind.u64 (IntKind.u64.wrap (signed 32 b)) 4294967295 = b := by
  have hs : signed 32 b = if 2147483648 ≤ b then b - 4294967296 else b := by
    unfold signed; rw [show wide 32 = true from rfl, if_pos rfl, show pw2 32 = 4294967296 from rfl, Int.emod_eq_of_lt b0 b1]; split <;> split <;> omega
  rw [mask32 _ (wrap_u64_bd _).1 (wrap_u64_bd _).2, IntKind.wrap_u64, hs]
  split <;> omega
theorem ar32_add (b c r : Int) (b0 : 0 ≤ b) (b1 : b < 4294967296) (c0 : 0 ≤ c) (c1 : c < 4294967296) (hr : r = compute 32 4 0 b c 0 % pw2 32) : bits BinOp.and IntKind.u64 (r + 4294967296 - b) 4294967295 = c := by
  have hr : r = (b + c) % 4294967296 := hr
  rw [mask32 _ (by omega) (by omega)]; omega
theorem ar32_sub (b c r : Int) (b0 : 0 ≤ b) (b1 : b < 4294967296) (c0 : 0 ≤ c) (c1 : c < 4294967296) (hr : r = compute 32 5 0 b c 0 % pw2 32) : bits BinOp.and IntKind.u64 (r + c) 4294967295 = b := by
  have hr : r = (b - c) % 4294967296 := hr
  rw [mask32 _ (by omega) (by omega)]; omega
theorem ar32_mul (b c r : Int) (b0 : 0 ≤ b) (b1 : b < 4294967296) (c0 : 0 ≤ c) (c1 : c < 4294967296) (hr : r = compute 32 6 0 b c 0 % pw2 32) : ∃ lo, bits BinOp.and IntKind.u64 b 65535 = lo ∧ bits BinOp.and IntKind.u64 (IntKind.u64.wrap (IntKind.u64.wrap (lo * c) + IntKind.u64.wrap (IntKind.u64.wrap (b / 65536 * c) * 65536))) 4294967295 = r := by
  have hr : r = (b * c) % 4294967296 := hr
  refine ⟨b % 65536, ?_, ?_⟩
  · obtain ⟨n, rfl⟩ := Int.eq_ofNat_of_zero_le b0
    rw [show (65535 : Int) = ((65535 : Nat) : Int) from rfl, bits_and_u64_nat n 65535 (by omega) (by decide), show 65535 = 2 ^ 16 - 1 from rfl, Nat.and_two_pow_sub_one_eq_mod]; rfl
  · rw [mask32 _ (wrap_u64_bd _).1 (wrap_u64_bd _).2, hr]
    have e : b * c = b % 65536 * c + b / 65536 * c * 65536 := by
      have := Int.emod_add_mul_ediv b 65536
      conv => lhs; rw [← this]
      rw [Int.add_mul]
      congr 1
      rw [Int.mul_comm 65536 (b / 65536), Int.mul_assoc, Int.mul_comm 65536 c, ← Int.mul_assoc]
    rw [e]
    generalize b % 65536 * c = p
    generalize b / 65536 * c = q
    simp only [IntKind.wrap_u64]
    omega
theorem ar32_div (b c r : Int) (b0 : 0 ≤ b) (b1 : b < 4294967296) (c0 : 0 ≤ c) (c1 : c < 4294967296) (hz : ¬ c = 0) (hr : r = compute 32 7 0 b c 0 % pw2 32) : ∃ q, IntKind.u64.wrap (r * c) = q ∧ 0 ≤ q ∧ q ≤ b ∧ b - q < c := by
  have hr' : r = b / c := by
    have : r = b / c % 4294967296 := hr
    rw [this, Int.emod_eq_of_lt (Int.ediv_nonneg b0 c0) (Int.lt_of_le_of_lt (Int.ediv_le_self c b0) b1)]
  have h1 := Int.mul_ediv_self_le (x := b) (k := c) hz
  have h2 := Int.lt_mul_ediv_self_add (x := b) (k := c) (by omega)
  have h3 : r * c = c * (b / c) := by rw [hr', Int.mul_comm]
  have h4 : 0 ≤ c * (b / c) := Int.mul_nonneg c0 (Int.ediv_nonneg b0 c0)
  rw [h3]
  generalize c * (b / c) = z at *
  exact ⟨z, by rw [IntKind.wrap_u64]; omega, h4, h1, by omega⟩
theorem ar32_rem (b c r : Int) (b0 : 0 ≤ b) (b1 : b < 4294967296) (c0 : 0 ≤ c) (c1 : c < 4294967296) (hz : ¬ c = 0) (hr : r = compute 32 8 0 b c 0 % pw2 32) : r < c ∧ r ≤ b ∧ (b - r) % c = 0 := by
  have h0 := Int.emod_nonneg b hz
  have h1 := Int.emod_lt_of_pos b (show 0 < c by omega)
  have hr' : r = b % c := by
    have : r = b % c % 4294967296 := hr
    rw [this, Int.emod_eq_of_lt h0 (by omega)]
  have h2 : b % c ≤ b := emod_le_self' b c b0 c0
  rw [hr']
  exact ⟨h1, h2, by rw [Int.sub_emod, Int.emod_emod_of_dvd _ (Int.dvd_refl c), Int.sub_self, Int.zero_emod]⟩
theorem ar32_and (b c r : Int) (b0 : 0 ≤ b) (b1 : b < 4294967296) (c0 : 0 ≤ c) (c1 : c < 4294967296) (hr : r = compute 32 9 0 b c 0 % pw2 32) : ∃ o, bits BinOp.or IntKind.u64 r b = b ∧ bits BinOp.or IntKind.u64 r c = c ∧ bits BinOp.or IntKind.u64 b c = o ∧ (o + r == b + c) = true ∧ 0 ≤ o ∧ o < 4294967296 := by
  obtain ⟨m, rfl⟩ := Int.eq_ofNat_of_zero_le b0
  obtain ⟨n, rfl⟩ := Int.eq_ofNat_of_zero_le c0
  have hl : (m &&& n) ≤ m := Nat.and_le_left
  have ho : (m ||| n) < 2 ^ 32 := Nat.or_lt_two_pow (by omega) (by omega)
  have hr' : r = ((m &&& n : Nat) : Int) := by
    have : r = ((m &&& n : Nat) : Int) % 4294967296 := hr
    rw [this, Int.emod_eq_of_lt (by omega) (by omega)]
  subst hr'
  have hs := and_or_sum m n
  refine ⟨((m ||| n : Nat) : Int), ?_, ?_, ?_, by rw [beq_iff_eq]; omega, by omega, by omega⟩
  · rw [bits_or_u64_nat _ _ (by omega) (by omega), Nat.or_comm, or_and_same]
  · rw [bits_or_u64_nat _ _ (by omega) (by omega), Nat.or_comm, Nat.and_comm, or_and_same]
  · rw [bits_or_u64_nat _ _ (by omega) (by omega)]
theorem ar32_or (b c r : Int) (b0 : 0 ≤ b) (b1 : b < 4294967296) (c0 : 0 ≤ c) (c1 : c < 4294967296) (hr : r = compute 32 10 0 b c 0 % pw2 32) : ∃ o, bits BinOp.and IntKind.u64 r b = b ∧ bits BinOp.and IntKind.u64 r c = c ∧ bits BinOp.and IntKind.u64 b c = o ∧ (r + o == b + c) = true ∧ 0 ≤ o ∧ o < 4294967296 := by
  obtain ⟨m, rfl⟩ := Int.eq_ofNat_of_zero_le b0
  obtain ⟨n, rfl⟩ := Int.eq_ofNat_of_zero_le c0
  have hl : (m &&& n) ≤ m := Nat.and_le_left
  have ho : (m ||| n) < 2 ^ 32 := Nat.or_lt_two_pow (by omega) (by omega)
  have hr' : r = ((m ||| n : Nat) : Int) := by
    have : r = ((m ||| n : Nat) : Int) % 4294967296 := hr
    rw [this, Int.emod_eq_of_lt (by omega) (by omega)]
  subst hr'
  have hs := and_or_sum m n
  refine ⟨((m &&& n : Nat) : Int), ?_, ?_, ?_, by rw [beq_iff_eq]; omega, by omega, by omega⟩
  · rw [bits_and_u64_nat _ _ (by omega) (by omega), Nat.and_comm, and_or_same]
  · rw [bits_and_u64_nat _ _ (by omega) (by omega), Nat.and_comm, Nat.or_comm, and_or_same]
  · rw [bits_and_u64_nat _ _ (by omega) (by omega)]
theorem ar32_xor (b c r : Int) (b0 : 0 ≤ b) (b1 : b < 4294967296) (c0 : 0 ≤ c) (c1 : c < 4294967296) (hr : r = compute 32 11 0 b c 0 % pw2 32) : ∃ o q, bits BinOp.or IntKind.u64 b c = o ∧ bits BinOp.and IntKind.u64 b c = q ∧ (r == o - q) = true ∧ 0 ≤ q ∧ q ≤ o ∧ o < 4294967296 := by
  obtain ⟨m, rfl⟩ := Int.eq_ofNat_of_zero_le b0
  obtain ⟨n, rfl⟩ := Int.eq_ofNat_of_zero_le c0
  have hx : (m ^^^ n) < 2 ^ 32 := Nat.xor_lt_two_pow (by omega) (by omega)
  have ho : (m ||| n) < 2 ^ 32 := Nat.or_lt_two_pow (by omega) (by omega)
  have hr' : r = ((m ^^^ n : Nat) : Int) := by
    have : r = ((m ^^^ n : Nat) : Int) % 4294967296 := hr
    rw [this, Int.emod_eq_of_lt (by omega) (by omega)]
  subst hr'
  have hs := xor_or_and m n
  refine ⟨((m ||| n : Nat) : Int), ((m &&& n : Nat) : Int), ?_, ?_, by rw [beq_iff_eq]; omega, by omega, by omega, by omega⟩
  · rw [bits_or_u64_nat _ _ (by omega) (by omega)]
  · rw [bits_and_u64_nat _ _ (by omega) (by omega)]
theorem sgn39_a (b : Int) (b0 : 0 ≤ b) (b1 : b < 549755813888) : (decide (signed 39 b < 0) == (b / 274877906944 == 1)) = true := by
  have hs : signed 39 b = if 274877906944 ≤ b then b - 549755813888 else b := by
    unfold signed; rw [show wide 39 = true from rfl, if_pos rfl, show pw2 39 = 549755813888 from rfl, Int.emod_eq_of_lt b0 b1]; split <;> split <;> omega
  rw [hs]
  by_cases h : 274877906944 ≤ b
  · rw [if_pos h, decide_eq_true (by omega), beq_iff_eq.2 (show b / 274877906944 = 1 by omega)]; rfl
  · rw [if_neg h, decide_eq_false (by omega), beq_eq_false_iff_ne.2 (show b / 274877906944 ≠ 1 by omega)]; rfl
theorem sgn39_b (b : Int) (b0 : 0 ≤ b) (b1 : b < 549755813888) : bits BinOp.and IntKind.u64 (IntKind.u64.wrap (signed 39 b)) 549755813887 = b := by
  have hs : signed 39 b = if 274877906944 ≤ b then b - 549755813888 else b := by
    unfold signed; rw [show wide 39 = true from rfl, if_pos rfl, show pw2 39 = 549755813888 from rfl, Int.emod_eq_of_lt b0 b1]; split <;> split <;> omega
  rw [mask39 _ (wrap_u64_bd _).1 (wrap_u64_bd _).2, IntKind.wrap_u64, hs]
  split <;> omega
theorem ar39_add (b c r : Int) (b0 : 0 ≤ b) (b1 : b < 549755813888) (c0 : 0 ≤ c) (c1 : c < 549755813888) (hr : r = compute 39 4 0 b c 0 % pw2 39) : bits BinOp.and IntKind.u64 (r + 549755813888 - b) 549755813887 = c := by
  have hr : r = (b + c) % 549755813888 := hr
  rw [mask39 _ (by omega) (by omega)]; omega
theorem ar39_sub (b c r : Int) (b0 : 0 ≤ b) (b1 : b < 549755813888) (c0 : 0 ≤ c) (c1 : c < 549755813888) (hr : r = compute 39 5 0 b c 0 % pw2 39) : bits BinOp.and IntKind.u64 (r + c) 549755813887 = b := by
  have hr : r = (b - c) % 549755813888 := hr
  rw [mask39 _ (by omega) (by omega)]; omega
theorem ar39_mul (b c r : Int) (b0 : 0 ≤ b) (b1 : b < 549755813888) (c0 : 0 ≤ c) (c1 : c < 549755813888) (hr : r = compute 39 6 0 b c 0 % pw2 39) : ∃ lo, bits BinOp.and IntKind.u64 b 65535 = lo ∧ bits BinOp.and IntKind.u64 (IntKind.u64.wrap (IntKind.u64.wrap (lo * c) + IntKind.u64.wrap (IntKind.u64.wrap (b / 65536 * c) * 65536))) 549755813887 = r := by
  have hr : r = (b * c) % 549755813888 := hr
  refine ⟨b % 65536, ?_, ?_⟩
  · obtain ⟨n, rfl⟩ := Int.eq_ofNat_of_zero_le b0
    rw [show (65535 : Int) = ((65535 : Nat) : Int) from rfl, bits_and_u64_nat n 65535 (by omega) (by decide), show 65535 = 2 ^ 16 - 1 from rfl, Nat.and_two_pow_sub_one_eq_mod]; rfl
  · rw [mask39 _ (wrap_u64_bd _).1 (wrap_u64_bd _).2, hr]
    have e : b * c = b % 65536 * c + b / 65536 * c * 65536 := by
      have := Int.emod_add_mul_ediv b 65536
      conv => lhs; rw [← this]
      rw [Int.add_mul]
      congr 1
      rw [Int.mul_comm 65536 (b / 65536), Int.mul_assoc, Int.mul_comm 65536 c, ← Int.mul_assoc]
    rw [e]
    generalize b % 65536 * c = p
    generalize b / 65536 * c = q
    simp only [IntKind.wrap_u64]
    omega
theorem ar39_div (b c r : Int) (b0 : 0 ≤ b) (b1 : b < 549755813888) (c0 : 0 ≤ c) (c1 : c < 549755813888) (hz : ¬ c = 0) (hr : r = compute 39 7 0 b c 0 % pw2 39) : ∃ q, IntKind.u64.wrap (r * c) = q ∧ 0 ≤ q ∧ q ≤ b ∧ b - q < c := by
  have hr' : r = b / c := by
    have : r = b / c % 549755813888 := hr
    rw [this, Int.emod_eq_of_lt (Int.ediv_nonneg b0 c0) (Int.lt_of_le_of_lt (Int.ediv_le_self c b0) b1)]
  have h1 := Int.mul_ediv_self_le (x := b) (k := c) hz
  have h2 := Int.lt_mul_ediv_self_add (x := b) (k := c) (by omega)
  have h3 : r * c = c * (b / c) := by rw [hr', Int.mul_comm]
  have h4 : 0 ≤ c * (b / c) := Int.mul_nonneg c0 (Int.ediv_nonneg b0 c0)
  rw [h3]
  generalize c * (b / c) = z at *
  exact ⟨z, by rw [IntKind.wrap_u64]; omega, h4, h1, by omega⟩
theorem ar39_rem (b c r : Int) (b0 : 0 ≤ b) (b1 : b < 549755813888) (c0 : 0 ≤ c) (c1 : c < 549755813888) (hz : ¬ c = 0) (hr : r = compute 39 8 0 b c 0 % pw2 39) : r < c ∧ r ≤ b ∧ (b - r) % c = 0 := by
  have h0 := Int.emod_nonneg b hz
  have h1 := Int.emod_lt_of_pos b (show 0 < c by omega)
  have hr' : r = b % c := by
    have : r = b % c % 549755813888 := hr
    rw [this, Int.emod_eq_of_lt h0 (by omega)]
  have h2 : b % c ≤ b := emod_le_self' b c b0 c0
  rw [hr']
  exact ⟨h1, h2, by rw [Int.sub_emod, Int.emod_emod_of_dvd _ (Int.dvd_refl c), Int.sub_self, Int.zero_emod]⟩
theorem ar39_and (b c r : Int) (b0 : 0 ≤ b) (b1 : b < 549755813888) (c0 : 0 ≤ c) (c1 : c < 549755813888) (hr : r = compute 39 9 0 b c 0 % pw2 39) : ∃ o, bits BinOp.or IntKind.u64 r b = b ∧ bits BinOp.or IntKind.u64 r c = c ∧ bits BinOp.or IntKind.u64 b c = o ∧ (o + r == b + c) = true ∧ 0 ≤ o ∧ o < 549755813888 := by
  obtain ⟨m, rfl⟩ := Int.eq_ofNat_of_zero_le b0
  obtain ⟨n, rfl⟩ := Int.eq_ofNat_of_zero_le c0
  have hl : (m &&& n) ≤ m := Nat.and_le_left
  have ho : (m ||| n) < 2 ^ 39 := Nat.or_lt_two_pow (by omega) (by omega)
  have hr' : r = ((m &&& n : Nat) : Int) := by
    have : r = ((m &&& n : Nat) : Int) % 549755813888 := hr
    rw [this, Int.emod_eq_of_lt (by omega) (by omega)]
  subst hr'
  have hs := and_or_sum m n
  refine ⟨((m ||| n : Nat) : Int), ?_, ?_, ?_, by rw [beq_iff_eq]; omega, by omega, by omega⟩
  · rw [bits_or_u64_nat _ _ (by omega) (by omega), Nat.or_comm, or_and_same]
  · rw [bits_or_u64_nat _ _ (by omega) (by omega), Nat.or_comm, Nat.and_comm, or_and_same]
  · rw [bits_or_u64_nat _ _ (by omega) (by omega)]
theorem ar39_or (b c r : Int) (b0 : 0 ≤ b) (b1 : b < 549755813888) (c0 : 0 ≤ c) (c1 : c < 549755813888) (hr : r = compute 39 10 0 b c 0 % pw2 39) : ∃ o, bits BinOp.and IntKind.u64 r b = b ∧ bits BinOp.and IntKind.u64 r c = c ∧ bits BinOp.and IntKind.u64 b c = o ∧ (r + o == b + c) = true ∧ 0 ≤ o ∧ o < 549755813888 := by
  obtain ⟨m, rfl⟩ := Int.eq_ofNat_of_zero_le b0
  obtain ⟨n, rfl⟩ := Int.eq_ofNat_of_zero_le c0
  have hl : (m &&& n) ≤ m := Nat.and_le_left
  have ho : (m ||| n) < 2 ^ 39 := Nat.or_lt_two_pow (by omega) (by omega)
  have hr' : r = ((m ||| n : Nat) : Int) := by
    have : r = ((m ||| n : Nat) : Int) % 549755813888 := hr
    rw [this, Int.emod_eq_of_lt (by omega) (by omega)]
  subst hr'
  have hs := and_or_sum m n
  refine ⟨((m &&& n : Nat) : Int), ?_, ?_, ?_, by rw [beq_iff_eq]; omega, by omega, by omega⟩
  · rw [bits_and_u64_nat _ _ (by omega) (by omega), Nat.and_comm, and_or_same]
  · rw [bits_and_u64_nat _ _ (by omega) (by omega), Nat.and_comm, Nat.or_comm, and_or_same]
  · rw [bits_and_u64_nat _ _ (by omega) (by omega)]
theorem ar39_xor (b c r : Int) (b0 : 0 ≤ b) (b1 : b < 549755813888) (c0 : 0 ≤ c) (c1 : c < 549755813888) (hr : r = compute 39 11 0 b c 0 % pw2 39) : ∃ o q, bits BinOp.or IntKind.u64 b c = o ∧ bits BinOp.and IntKind.u64 b c = q ∧ (r == o - q) = true ∧ 0 ≤ q ∧ q ≤ o ∧ o < 549755813888 := by
  obtain ⟨m, rfl⟩ := Int.eq_ofNat_of_zero_le b0
  obtain ⟨n, rfl⟩ := Int.eq_ofNat_of_zero_le c0
  have hx : (m ^^^ n) < 2 ^ 39 := Nat.xor_lt_two_pow (by omega) (by omega)
  have ho : (m ||| n) < 2 ^ 39 := Nat.or_lt_two_pow (by omega) (by omega)
  have hr' : r = ((m ^^^ n : Nat) : Int) := by
    have : r = ((m ^^^ n : Nat) : Int) % 549755813888 := hr
    rw [this, Int.emod_eq_of_lt (by omega) (by omega)]
  subst hr'
  have hs := xor_or_and m n
  refine ⟨((m ||| n : Nat) : Int), ((m &&& n : Nat) : Int), ?_, ?_, by rw [beq_iff_eq]; omega, by omega, by omega, by omega⟩
  · rw [bits_or_u64_nat _ _ (by omega) (by omega)]
  · rw [bits_and_u64_nat _ _ (by omega) (by omega)]
end Go.Proofs.Ytbllialcfmpkaaa
