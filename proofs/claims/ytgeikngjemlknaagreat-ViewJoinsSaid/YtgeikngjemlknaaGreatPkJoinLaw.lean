/- ViewJoins answers true: all its cases, computed one by one. -/
import Derived.Test.YtgeikngjemlknaaGreatPkJR1
import Derived.Test.YtgeikngjemlknaaGreatPkJR2a
import Derived.Test.YtgeikngjemlknaaGreatPkJR2b
import Derived.Test.YtgeikngjemlknaaGreatPkJR2c
import Derived.Test.YtgeikngjemlknaaGreatPkJR300
import Derived.Test.YtgeikngjemlknaaGreatPkJR301
import Derived.Test.YtgeikngjemlknaaGreatPkJR302
import Derived.Test.YtgeikngjemlknaaGreatPkJR303
import Derived.Test.YtgeikngjemlknaaGreatPkJR310
import Derived.Test.YtgeikngjemlknaaGreatPkJR311
import Derived.Test.YtgeikngjemlknaaGreatPkJR312
import Derived.Test.YtgeikngjemlknaaGreatPkJR313
import Derived.Test.YtgeikngjemlknaaGreatPkJR320
import Derived.Test.YtgeikngjemlknaaGreatPkJR321
import Derived.Test.YtgeikngjemlknaaGreatPkJR322
import Derived.Test.YtgeikngjemlknaaGreatPkJR323
import Derived.Test.YtgeikngjemlknaaGreatPkJR400
import Derived.Test.YtgeikngjemlknaaGreatPkJR401
import Derived.Test.YtgeikngjemlknaaGreatPkJR402
import Derived.Test.YtgeikngjemlknaaGreatPkJR403
import Derived.Test.YtgeikngjemlknaaGreatPkJR404
import Derived.Test.YtgeikngjemlknaaGreatPkJR410
import Derived.Test.YtgeikngjemlknaaGreatPkJR411
import Derived.Test.YtgeikngjemlknaaGreatPkJR412
import Derived.Test.YtgeikngjemlknaaGreatPkJR413
import Derived.Test.YtgeikngjemlknaaGreatPkJR414
import Derived.Test.YtgeikngjemlknaaGreatPkJR420
import Derived.Test.YtgeikngjemlknaaGreatPkJR421
import Derived.Test.YtgeikngjemlknaaGreatPkJR422
import Derived.Test.YtgeikngjemlknaaGreatPkJR423
import Derived.Test.YtgeikngjemlknaaGreatPkJR424
import Derived.Test.YtgeikngjemlknaaGreatPkJR430
import Derived.Test.YtgeikngjemlknaaGreatPkJR431
import Derived.Test.YtgeikngjemlknaaGreatPkJR432
import Derived.Test.YtgeikngjemlknaaGreatPkJR433
import Derived.Test.YtgeikngjemlknaaGreatPkJR434
set_option linter.unusedVariables false
set_option linter.unusedSimpArgs false
set_option linter.unusedSectionVars false
namespace Go.Proofs.YtgeikngjemlknaaGreat
open Go Go.RowKit Go.BigFrame
theorem mod_cases (x : Int) (m : Nat) (hm : 0 < m) : ∃ r : Nat, r < m ∧ x % (m : Int) = (r : Int) := by
  have h0 := Int.emod_nonneg x (show (m : Int) ≠ 0 by omega)
  have h1 := Int.emod_lt_of_pos x (show (0 : Int) < m by omega)
  exact ⟨(x % (m : Int)).toNat, by omega, by omega⟩
theorem joins1 (c s m r : Int) (hc : IntKind.i64.wrap c = c) (hs : IntKind.i64.wrap s = s) (hm : IntKind.i64.wrap m = m) (hr : IntKind.i64.wrap r = r) (e1 : c % (4 : Nat) = ((1 - 1 : Nat) : Int)) (w : World) :
    Calls Tryz.prog 4 #[.int .i64 c, .int .i64 s, .int .i64 m, .int .i64 r] w fun e w' => e = .returned (.bool true) ∧ Below w.heap.size w w' := by
  obtain ⟨k, hk, e2⟩ := mod_cases s 1 (by omega)
  obtain ⟨j, hj, e3⟩ := mod_cases m 2 (by omega)
  obtain ⟨q, hq, e4⟩ := mod_cases r 2 (by omega)
  match k, hk, j, hj, q, hq, e2, e3, e4 with
  | 0, _, 0, _, 0, _, e2, e3, e4 => exact joins_of4 join1000 c s m r hc hs hm hr e1 e2 e3 e4 w
  | 0, _, 0, _, 1, _, e2, e3, e4 => exact joins_of4 join1001 c s m r hc hs hm hr e1 e2 e3 e4 w
  | 0, _, 1, _, 0, _, e2, e3, e4 => exact joins_of4 join1010 c s m r hc hs hm hr e1 e2 e3 e4 w
  | 0, _, 1, _, 1, _, e2, e3, e4 => exact joins_of4 join1011 c s m r hc hs hm hr e1 e2 e3 e4 w
  | k + 1, hk, _, _, _, _, _, _, _ => omega
  | _, _, j + 2, hj, _, _, _, _, _ => omega
  | _, _, _, _, q + 2, hq, _, _, _ => omega
theorem joins2 (c s m r : Int) (hc : IntKind.i64.wrap c = c) (hs : IntKind.i64.wrap s = s) (hm : IntKind.i64.wrap m = m) (hr : IntKind.i64.wrap r = r) (e1 : c % (4 : Nat) = ((2 - 1 : Nat) : Int)) (w : World) :
    Calls Tryz.prog 4 #[.int .i64 c, .int .i64 s, .int .i64 m, .int .i64 r] w fun e w' => e = .returned (.bool true) ∧ Below w.heap.size w w' := by
  obtain ⟨k, hk, e2⟩ := mod_cases s 2 (by omega)
  obtain ⟨j, hj, e3⟩ := mod_cases m 3 (by omega)
  obtain ⟨q, hq, e4⟩ := mod_cases r 2 (by omega)
  match k, hk, j, hj, q, hq, e2, e3, e4 with
  | 0, _, 0, _, 0, _, e2, e3, e4 => exact joins_of4 join2000 c s m r hc hs hm hr e1 e2 e3 e4 w
  | 0, _, 0, _, 1, _, e2, e3, e4 => exact joins_of4 join2001 c s m r hc hs hm hr e1 e2 e3 e4 w
  | 0, _, 1, _, 0, _, e2, e3, e4 => exact joins_of4 join2010 c s m r hc hs hm hr e1 e2 e3 e4 w
  | 0, _, 1, _, 1, _, e2, e3, e4 => exact joins_of4 join2011 c s m r hc hs hm hr e1 e2 e3 e4 w
  | 0, _, 2, _, 0, _, e2, e3, e4 => exact joins_of4 join2020 c s m r hc hs hm hr e1 e2 e3 e4 w
  | 0, _, 2, _, 1, _, e2, e3, e4 => exact joins_of4 join2021 c s m r hc hs hm hr e1 e2 e3 e4 w
  | 1, _, 0, _, 0, _, e2, e3, e4 => exact joins_of4 join2100 c s m r hc hs hm hr e1 e2 e3 e4 w
  | 1, _, 0, _, 1, _, e2, e3, e4 => exact joins_of4 join2101 c s m r hc hs hm hr e1 e2 e3 e4 w
  | 1, _, 1, _, 0, _, e2, e3, e4 => exact joins_of4 join2110 c s m r hc hs hm hr e1 e2 e3 e4 w
  | 1, _, 1, _, 1, _, e2, e3, e4 => exact joins_of4 join2111 c s m r hc hs hm hr e1 e2 e3 e4 w
  | 1, _, 2, _, 0, _, e2, e3, e4 => exact joins_of4 join2120 c s m r hc hs hm hr e1 e2 e3 e4 w
  | 1, _, 2, _, 1, _, e2, e3, e4 => exact joins_of4 join2121 c s m r hc hs hm hr e1 e2 e3 e4 w
  | k + 2, hk, _, _, _, _, _, _, _ => omega
  | _, _, j + 3, hj, _, _, _, _, _ => omega
  | _, _, _, _, q + 2, hq, _, _, _ => omega
theorem joins3 (c s m r : Int) (hc : IntKind.i64.wrap c = c) (hs : IntKind.i64.wrap s = s) (hm : IntKind.i64.wrap m = m) (hr : IntKind.i64.wrap r = r) (e1 : c % (4 : Nat) = ((3 - 1 : Nat) : Int)) (w : World) :
    Calls Tryz.prog 4 #[.int .i64 c, .int .i64 s, .int .i64 m, .int .i64 r] w fun e w' => e = .returned (.bool true) ∧ Below w.heap.size w w' := by
  obtain ⟨k, hk, e2⟩ := mod_cases s 3 (by omega)
  obtain ⟨j, hj, e3⟩ := mod_cases m 4 (by omega)
  obtain ⟨q, hq, e4⟩ := mod_cases r 2 (by omega)
  match k, hk, j, hj, q, hq, e2, e3, e4 with
  | 0, _, 0, _, 0, _, e2, e3, e4 => exact joins_of4 join3000 c s m r hc hs hm hr e1 e2 e3 e4 w
  | 0, _, 0, _, 1, _, e2, e3, e4 => exact joins_of4 join3001 c s m r hc hs hm hr e1 e2 e3 e4 w
  | 0, _, 1, _, 0, _, e2, e3, e4 => exact joins_of4 join3010 c s m r hc hs hm hr e1 e2 e3 e4 w
  | 0, _, 1, _, 1, _, e2, e3, e4 => exact joins_of4 join3011 c s m r hc hs hm hr e1 e2 e3 e4 w
  | 0, _, 2, _, 0, _, e2, e3, e4 => exact joins_of4 join3020 c s m r hc hs hm hr e1 e2 e3 e4 w
  | 0, _, 2, _, 1, _, e2, e3, e4 => exact joins_of4 join3021 c s m r hc hs hm hr e1 e2 e3 e4 w
  | 0, _, 3, _, 0, _, e2, e3, e4 => exact joins_of4 join3030 c s m r hc hs hm hr e1 e2 e3 e4 w
  | 0, _, 3, _, 1, _, e2, e3, e4 => exact joins_of4 join3031 c s m r hc hs hm hr e1 e2 e3 e4 w
  | 1, _, 0, _, 0, _, e2, e3, e4 => exact joins_of4 join3100 c s m r hc hs hm hr e1 e2 e3 e4 w
  | 1, _, 0, _, 1, _, e2, e3, e4 => exact joins_of4 join3101 c s m r hc hs hm hr e1 e2 e3 e4 w
  | 1, _, 1, _, 0, _, e2, e3, e4 => exact joins_of4 join3110 c s m r hc hs hm hr e1 e2 e3 e4 w
  | 1, _, 1, _, 1, _, e2, e3, e4 => exact joins_of4 join3111 c s m r hc hs hm hr e1 e2 e3 e4 w
  | 1, _, 2, _, 0, _, e2, e3, e4 => exact joins_of4 join3120 c s m r hc hs hm hr e1 e2 e3 e4 w
  | 1, _, 2, _, 1, _, e2, e3, e4 => exact joins_of4 join3121 c s m r hc hs hm hr e1 e2 e3 e4 w
  | 1, _, 3, _, 0, _, e2, e3, e4 => exact joins_of4 join3130 c s m r hc hs hm hr e1 e2 e3 e4 w
  | 1, _, 3, _, 1, _, e2, e3, e4 => exact joins_of4 join3131 c s m r hc hs hm hr e1 e2 e3 e4 w
  | 2, _, 0, _, 0, _, e2, e3, e4 => exact joins_of4 join3200 c s m r hc hs hm hr e1 e2 e3 e4 w
  | 2, _, 0, _, 1, _, e2, e3, e4 => exact joins_of4 join3201 c s m r hc hs hm hr e1 e2 e3 e4 w
  | 2, _, 1, _, 0, _, e2, e3, e4 => exact joins_of4 join3210 c s m r hc hs hm hr e1 e2 e3 e4 w
  | 2, _, 1, _, 1, _, e2, e3, e4 => exact joins_of4 join3211 c s m r hc hs hm hr e1 e2 e3 e4 w
  | 2, _, 2, _, 0, _, e2, e3, e4 => exact joins_of4 join3220 c s m r hc hs hm hr e1 e2 e3 e4 w
  | 2, _, 2, _, 1, _, e2, e3, e4 => exact joins_of4 join3221 c s m r hc hs hm hr e1 e2 e3 e4 w
  | 2, _, 3, _, 0, _, e2, e3, e4 => exact joins_of4 join3230 c s m r hc hs hm hr e1 e2 e3 e4 w
  | 2, _, 3, _, 1, _, e2, e3, e4 => exact joins_of4 join3231 c s m r hc hs hm hr e1 e2 e3 e4 w
  | k + 3, hk, _, _, _, _, _, _, _ => omega
  | _, _, j + 4, hj, _, _, _, _, _ => omega
  | _, _, _, _, q + 2, hq, _, _, _ => omega
theorem joins4 (c s m r : Int) (hc : IntKind.i64.wrap c = c) (hs : IntKind.i64.wrap s = s) (hm : IntKind.i64.wrap m = m) (hr : IntKind.i64.wrap r = r) (e1 : c % (4 : Nat) = ((4 - 1 : Nat) : Int)) (w : World) :
    Calls Tryz.prog 4 #[.int .i64 c, .int .i64 s, .int .i64 m, .int .i64 r] w fun e w' => e = .returned (.bool true) ∧ Below w.heap.size w w' := by
  obtain ⟨k, hk, e2⟩ := mod_cases s 4 (by omega)
  obtain ⟨j, hj, e3⟩ := mod_cases m 5 (by omega)
  obtain ⟨q, hq, e4⟩ := mod_cases r 2 (by omega)
  match k, hk, j, hj, q, hq, e2, e3, e4 with
  | 0, _, 0, _, 0, _, e2, e3, e4 => exact joins_of4 join4000 c s m r hc hs hm hr e1 e2 e3 e4 w
  | 0, _, 0, _, 1, _, e2, e3, e4 => exact joins_of4 join4001 c s m r hc hs hm hr e1 e2 e3 e4 w
  | 0, _, 1, _, 0, _, e2, e3, e4 => exact joins_of4 join4010 c s m r hc hs hm hr e1 e2 e3 e4 w
  | 0, _, 1, _, 1, _, e2, e3, e4 => exact joins_of4 join4011 c s m r hc hs hm hr e1 e2 e3 e4 w
  | 0, _, 2, _, 0, _, e2, e3, e4 => exact joins_of4 join4020 c s m r hc hs hm hr e1 e2 e3 e4 w
  | 0, _, 2, _, 1, _, e2, e3, e4 => exact joins_of4 join4021 c s m r hc hs hm hr e1 e2 e3 e4 w
  | 0, _, 3, _, 0, _, e2, e3, e4 => exact joins_of4 join4030 c s m r hc hs hm hr e1 e2 e3 e4 w
  | 0, _, 3, _, 1, _, e2, e3, e4 => exact joins_of4 join4031 c s m r hc hs hm hr e1 e2 e3 e4 w
  | 0, _, 4, _, 0, _, e2, e3, e4 => exact joins_of4 join4040 c s m r hc hs hm hr e1 e2 e3 e4 w
  | 0, _, 4, _, 1, _, e2, e3, e4 => exact joins_of4 join4041 c s m r hc hs hm hr e1 e2 e3 e4 w
  | 1, _, 0, _, 0, _, e2, e3, e4 => exact joins_of4 join4100 c s m r hc hs hm hr e1 e2 e3 e4 w
  | 1, _, 0, _, 1, _, e2, e3, e4 => exact joins_of4 join4101 c s m r hc hs hm hr e1 e2 e3 e4 w
  | 1, _, 1, _, 0, _, e2, e3, e4 => exact joins_of4 join4110 c s m r hc hs hm hr e1 e2 e3 e4 w
  | 1, _, 1, _, 1, _, e2, e3, e4 => exact joins_of4 join4111 c s m r hc hs hm hr e1 e2 e3 e4 w
  | 1, _, 2, _, 0, _, e2, e3, e4 => exact joins_of4 join4120 c s m r hc hs hm hr e1 e2 e3 e4 w
  | 1, _, 2, _, 1, _, e2, e3, e4 => exact joins_of4 join4121 c s m r hc hs hm hr e1 e2 e3 e4 w
  | 1, _, 3, _, 0, _, e2, e3, e4 => exact joins_of4 join4130 c s m r hc hs hm hr e1 e2 e3 e4 w
  | 1, _, 3, _, 1, _, e2, e3, e4 => exact joins_of4 join4131 c s m r hc hs hm hr e1 e2 e3 e4 w
  | 1, _, 4, _, 0, _, e2, e3, e4 => exact joins_of4 join4140 c s m r hc hs hm hr e1 e2 e3 e4 w
  | 1, _, 4, _, 1, _, e2, e3, e4 => exact joins_of4 join4141 c s m r hc hs hm hr e1 e2 e3 e4 w
  | 2, _, 0, _, 0, _, e2, e3, e4 => exact joins_of4 join4200 c s m r hc hs hm hr e1 e2 e3 e4 w
  | 2, _, 0, _, 1, _, e2, e3, e4 => exact joins_of4 join4201 c s m r hc hs hm hr e1 e2 e3 e4 w
  | 2, _, 1, _, 0, _, e2, e3, e4 => exact joins_of4 join4210 c s m r hc hs hm hr e1 e2 e3 e4 w
  | 2, _, 1, _, 1, _, e2, e3, e4 => exact joins_of4 join4211 c s m r hc hs hm hr e1 e2 e3 e4 w
  | 2, _, 2, _, 0, _, e2, e3, e4 => exact joins_of4 join4220 c s m r hc hs hm hr e1 e2 e3 e4 w
  | 2, _, 2, _, 1, _, e2, e3, e4 => exact joins_of4 join4221 c s m r hc hs hm hr e1 e2 e3 e4 w
  | 2, _, 3, _, 0, _, e2, e3, e4 => exact joins_of4 join4230 c s m r hc hs hm hr e1 e2 e3 e4 w
  | 2, _, 3, _, 1, _, e2, e3, e4 => exact joins_of4 join4231 c s m r hc hs hm hr e1 e2 e3 e4 w
  | 2, _, 4, _, 0, _, e2, e3, e4 => exact joins_of4 join4240 c s m r hc hs hm hr e1 e2 e3 e4 w
  | 2, _, 4, _, 1, _, e2, e3, e4 => exact joins_of4 join4241 c s m r hc hs hm hr e1 e2 e3 e4 w
  | 3, _, 0, _, 0, _, e2, e3, e4 => exact joins_of4 join4300 c s m r hc hs hm hr e1 e2 e3 e4 w
  | 3, _, 0, _, 1, _, e2, e3, e4 => exact joins_of4 join4301 c s m r hc hs hm hr e1 e2 e3 e4 w
  | 3, _, 1, _, 0, _, e2, e3, e4 => exact joins_of4 join4310 c s m r hc hs hm hr e1 e2 e3 e4 w
  | 3, _, 1, _, 1, _, e2, e3, e4 => exact joins_of4 join4311 c s m r hc hs hm hr e1 e2 e3 e4 w
  | 3, _, 2, _, 0, _, e2, e3, e4 => exact joins_of4 join4320 c s m r hc hs hm hr e1 e2 e3 e4 w
  | 3, _, 2, _, 1, _, e2, e3, e4 => exact joins_of4 join4321 c s m r hc hs hm hr e1 e2 e3 e4 w
  | 3, _, 3, _, 0, _, e2, e3, e4 => exact joins_of4 join4330 c s m r hc hs hm hr e1 e2 e3 e4 w
  | 3, _, 3, _, 1, _, e2, e3, e4 => exact joins_of4 join4331 c s m r hc hs hm hr e1 e2 e3 e4 w
  | 3, _, 4, _, 0, _, e2, e3, e4 => exact joins_of4 join4340 c s m r hc hs hm hr e1 e2 e3 e4 w
  | 3, _, 4, _, 1, _, e2, e3, e4 => exact joins_of4 join4341 c s m r hc hs hm hr e1 e2 e3 e4 w
  | k + 4, hk, _, _, _, _, _, _, _ => omega
  | _, _, j + 5, hj, _, _, _, _, _ => omega
  | _, _, _, _, q + 2, hq, _, _, _ => omega
/-- The law, for any ints. -/
theorem viewJoins_any (c s m r : Int) (w : World) (c0 : -9223372036854775808 ≤ c) (c1 : c ≤ 9223372036854775807) (s0 : -9223372036854775808 ≤ s) (s1 : s ≤ 9223372036854775807) (m0 : -9223372036854775808 ≤ m) (m1 : m ≤ 9223372036854775807) (r0 : -9223372036854775808 ≤ r) (r1 : r ≤ 9223372036854775807) :
    Calls Tryz.prog 4 #[.int .i64 c, .int .i64 s, .int .i64 m, .int .i64 r] w fun e w' => e = .returned (.bool true) ∧ Below w.heap.size w w' := by
  have hw : ∀ x : Int, -9223372036854775808 ≤ x → x ≤ 9223372036854775807 → IntKind.i64.wrap x = x := fun x h1 h2 => by
    simp only [IntKind.wrap, IntKind.bits, IntKind.signed]
    simp
    omega
  obtain ⟨q, hq, e⟩ := mod_cases c 4 (by omega)
  match q, hq, e with
  | 0, _, e => exact joins1 c s m r (hw _ c0 c1) (hw _ s0 s1) (hw _ m0 m1) (hw _ r0 r1) e w
  | 1, _, e => exact joins2 c s m r (hw _ c0 c1) (hw _ s0 s1) (hw _ m0 m1) (hw _ r0 r1) e w
  | 2, _, e => exact joins3 c s m r (hw _ c0 c1) (hw _ s0 s1) (hw _ m0 m1) (hw _ r0 r1) e w
  | 3, _, e => exact joins4 c s m r (hw _ c0 c1) (hw _ s0 s1) (hw _ m0 m1) (hw _ r0 r1) e w
  | q + 4, hq, _ => omega
end Go.Proofs.YtgeikngjemlknaaGreat
