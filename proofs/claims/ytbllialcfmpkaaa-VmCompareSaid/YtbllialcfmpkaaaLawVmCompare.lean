/- VmCompare. (Printed by gen_cmp.py.) -/
import Derived.Test.YtbllialcfmpkaaaCmpA
import Derived.Test.YtbllialcfmpkaaaCmpB
import Derived.Test.YtbllialcfmpkaaaCmpC
import Derived.Test.YtbllialcfmpkaaaCmpD
import Derived.Test.YtbllialcfmpkaaaCmpE
set_option linter.unusedVariables false
set_option linter.unusedSimpArgs false
set_option linter.unusedSectionVars false
namespace Go.Proofs.Ytbllialcfmpkaaa
open Go.RowKit
theorem compare_any (wide : Bool) (b0 c0 : Int) (w : World) (x0 : 0 ≤ b0) (x1 : b0 ≤ 18446744073709551615) (y0 : 0 ≤ c0) (y1 : c0 ≤ 18446744073709551615) :
    Calls Try.prog 6 #[.bool wide, .int .u64 b0, .int .u64 c0] w fun e w' => e = .returned (.bool true) ∧ Below w.heap.size w w' := by
  cases wide with
  | false =>
    by_cases he : b0 % 4294967296 = c0 % 4294967296
    · exact cmp32_eq b0 c0 _ _ w rfl rfl x0 x1 y0 y1 he (by rw [he])
    by_cases hl : b0 % 4294967296 < c0 % 4294967296
    · by_cases hs : b0 % 4294967296 / 2147483648 = c0 % 4294967296 / 2147483648
      · exact cmp32_lts b0 c0 _ _ w rfl rfl x0 x1 y0 y1 hl hs
      · exact cmp32_ltd b0 c0 _ _ w rfl rfl x0 x1 y0 y1 hl hs
    · by_cases hs : b0 % 4294967296 / 2147483648 = c0 % 4294967296 / 2147483648
      · exact cmp32_gts b0 c0 _ _ w rfl rfl x0 x1 y0 y1 (by omega) hs
      · exact cmp32_gtd b0 c0 _ _ w rfl rfl x0 x1 y0 y1 (by omega) hs
  | true =>
    by_cases he : b0 % 549755813888 = c0 % 549755813888
    · exact cmp39_eq b0 c0 _ _ w rfl rfl x0 x1 y0 y1 he (by rw [he])
    by_cases hl : b0 % 549755813888 < c0 % 549755813888
    · by_cases hs : b0 % 549755813888 / 274877906944 = c0 % 549755813888 / 274877906944
      · exact cmp39_lts b0 c0 _ _ w rfl rfl x0 x1 y0 y1 hl hs
      · exact cmp39_ltd b0 c0 _ _ w rfl rfl x0 x1 y0 y1 hl hs
    · by_cases hs : b0 % 549755813888 / 274877906944 = c0 % 549755813888 / 274877906944
      · exact cmp39_gts b0 c0 _ _ w rfl rfl x0 x1 y0 y1 (by omega) hs
      · exact cmp39_gtd b0 c0 _ _ w rfl rfl x0 x1 y0 y1 (by omega) hs
end Go.Proofs.Ytbllialcfmpkaaa
