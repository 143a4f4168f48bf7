/- strings.IndexByte and strings.HasSuffix at one byte. -/
import Derived.Test.YtmeicjndfblglaaDoorProg
import Derived.Test.YtmeicjndfblglaaDoorStr
import Derived.Test.YtmeicjndfblglaaDoorRet
import Derived.WalkKit
import Derived.WalkLawsBesides
import Derived.WalkSpells
import Derived.Outline
import Derived.Lib.Hide
import Derived.Lib.IndexBytes
import Derived.KernelRfl
set_option linter.unusedVariables false
set_option linter.unusedSimpArgs false
set_option linter.unusedSectionVars false
namespace Go.Proofs.YtmeicjndfblglaaDoor
open Go.RowKit

theorem callFunc_ib (s : ByteArray) (n : Int) (w : World) :
    (callFunc 50 #[.string s, .int .u8 n]).run Tryd.prog w = .ok (.value (.int .i64 (Lib.indexByte s.data.toList n.toNat.toUInt8))) w := by
  rw [run_callFunc_extern (P := Tryd.prog) Tryd.func50 (by kernel_rfl) (by kernel_rfl) (by kernel_rfl) (e := Extern.BytealgIndexByte.indexByte) (by kernel_rfl), Lib.run_indexByteString]
  rfl
theorem IndexByte_any (s : ByteArray) (n : Int) (w : World) :
    Calls Tryd.prog 31 #[.string s, .int .u8 n] w fun e w' => e = .returned (.int .i64 (Lib.indexByte s.data.toList n.toNat.toUInt8)) ∧ w = w' := by
  have hib := callFunc_ib s n w
  go_enter Tryd.func31, Tryd.ntmps31
  go_wp2
  go_ret
  exact ⟨rfl, rfl⟩
theorem IndexByte_u8 (s : ByteArray) (c : UInt8) (w : World) :
    Calls Tryd.prog 31 #[.string s, .int .u8 c.toNat] w fun e w' => e = .returned (.int .i64 (Lib.indexByte s.data.toList c)) ∧ w = w' := by
  have h := IndexByte_any s (c.toNat : Int) w
  rw [show ((c.toNat : Int)).toNat.toUInt8 = c from by simp] at h
  exact h
end Go.Proofs.YtmeicjndfblglaaDoor
