/- VmArithmetic. (Printed by gen_arith.py.) -/
import Derived.Test.YtbllialcfmpkaaaArithA
import Derived.Test.YtbllialcfmpkaaaArithB
import Derived.Test.YtbllialcfmpkaaaArithC
import Derived.Test.YtbllialcfmpkaaaArithD
import Derived.Test.YtbllialcfmpkaaaArithE
import Derived.Test.YtbllialcfmpkaaaArithF
set_option linter.unusedVariables false
set_option linter.unusedSimpArgs false
set_option linter.unusedSectionVars false
namespace Go.Proofs.Ytbllialcfmpkaaa
open Go.RowKit
theorem arith_any (wide : Bool) (b0 c0 op : Int) (w : World) (x0 : 0 ≤ b0) (x1 : b0 ≤ 18446744073709551615) (y0 : 0 ≤ c0) (y1 : c0 ≤ 18446744073709551615) (p0 : -9223372036854775808 ≤ op) (p1 : op ≤ 9223372036854775807) :
    Calls Try.prog 4 #[.bool wide, .int .u64 b0, .int .u64 c0, .int .i64 op] w fun e w' => e = .returned (.bool true) ∧ Below w.heap.size w w' := by
  have hj : op % 10 = 0 ∨ op % 10 = 1 ∨ op % 10 = 2 ∨ op % 10 = 3 ∨ op % 10 = 4 ∨ op % 10 = 5 ∨ op % 10 = 6 ∨ op % 10 = 7 ∨ op % 10 = 8 ∨ op % 10 = 9 := by omega
  cases wide with
  | false =>
    rcases hj with h | h | h | h | h | h | h | h | h | h
    · exact arith32_add b0 c0 op _ _ w rfl rfl x0 x1 y0 y1 h p0 p1
    · exact arith32_sub b0 c0 op _ _ w rfl rfl x0 x1 y0 y1 h p0 p1
    · exact arith32_mul b0 c0 op _ _ w rfl rfl x0 x1 y0 y1 h p0 p1
    · by_cases hz : c0 % 4294967296 = 0
      · exact arith32_div0 b0 c0 op _ _ w rfl rfl x0 x1 y0 y1 h p0 p1 hz
      · exact arith32_div b0 c0 op _ _ w rfl rfl x0 x1 y0 y1 h p0 p1 hz
    · by_cases hz : c0 % 4294967296 = 0
      · exact arith32_rem0 b0 c0 op _ _ w rfl rfl x0 x1 y0 y1 h p0 p1 hz
      · exact arith32_rem b0 c0 op _ _ w rfl rfl x0 x1 y0 y1 h p0 p1 hz
    · exact arith32_and b0 c0 op _ _ w rfl rfl x0 x1 y0 y1 h p0 p1
    · exact arith32_or b0 c0 op _ _ w rfl rfl x0 x1 y0 y1 h p0 p1
    · exact arith32_xor b0 c0 op _ _ w rfl rfl x0 x1 y0 y1 h p0 p1
    · exact arith32_shl b0 c0 op _ _ w rfl rfl x0 x1 y0 y1 h p0 p1
    · exact arith32_shr b0 c0 op _ _ w rfl rfl x0 x1 y0 y1 h p0 p1
  | true =>
    rcases hj with h | h | h | h | h | h | h | h | h | h
    · exact arith39_add b0 c0 op _ _ w rfl rfl x0 x1 y0 y1 h p0 p1
    · exact arith39_sub b0 c0 op _ _ w rfl rfl x0 x1 y0 y1 h p0 p1
    · exact arith39_mul b0 c0 op _ _ w rfl rfl x0 x1 y0 y1 h p0 p1
    · by_cases hz : c0 % 549755813888 = 0
      · exact arith39_div0 b0 c0 op _ _ w rfl rfl x0 x1 y0 y1 h p0 p1 hz
      · exact arith39_div b0 c0 op _ _ w rfl rfl x0 x1 y0 y1 h p0 p1 hz
    · by_cases hz : c0 % 549755813888 = 0
      · exact arith39_rem0 b0 c0 op _ _ w rfl rfl x0 x1 y0 y1 h p0 p1 hz
      · exact arith39_rem b0 c0 op _ _ w rfl rfl x0 x1 y0 y1 h p0 p1 hz
    · exact arith39_and b0 c0 op _ _ w rfl rfl x0 x1 y0 y1 h p0 p1
    · exact arith39_or b0 c0 op _ _ w rfl rfl x0 x1 y0 y1 h p0 p1
    · exact arith39_xor b0 c0 op _ _ w rfl rfl x0 x1 y0 y1 h p0 p1
    · exact arith39_shl b0 c0 op _ _ w rfl rfl x0 x1 y0 y1 h p0 p1
    · exact arith39_shr b0 c0 op _ _ w rfl rfl x0 x1 y0 y1 h p0 p1
end Go.Proofs.Ytbllialcfmpkaaa
