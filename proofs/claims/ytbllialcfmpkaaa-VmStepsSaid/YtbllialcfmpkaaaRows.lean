/-
  No cell of these rows narrows 'for every input' (looked for: loops, veiled, ifaces, maps, wideKeys, modest, calm, conditions, laid).
  DERIVED. THE GIVEN ROWS OF THIS SEAT. 6 by the template 'for every input the law returns true; each argument reads behind the call as it read before'; 0 by the template 'total and deterministic' (their statements: YtbllialcfmpkaaaTotals.lean).
  GIVEN WITH THE SEED: the statements are not yours to turn. If you find one false, say at which input.
  Laid BY PROGRAM, IN A SANDBOX (cutbox-rows.mjs): the forced cells as the released guide's own fill.sh prints them over the translation e631fda4c7738415… (all of the seat's roots in one cut). By AI agents, Wed Nov 11 2026. No macro, syntax, notation, axiom, sorry.
-/
import Derived.Test.YtbllialcfmpkaaaChecked
import GoSem.Claim
import GoSem.ClaimJoined
import GoSem.ClaimMapViews
import Derived.JoinedTies
import Derived.KernelRfl
namespace Go.Proofs.Ytbllialcfmpkaaa
/- THE CELL 'sum', in the pinned program and in every row, IS THE sha256 OF THE DUMP (.gsa) THAT YtbllialcfmpkaaaProg.lean LOADS. Nothing in Lean hashes anything: it is a label: what it is worth is what the hold of that sum in a sandbox is worth. -/
noncomputable def Try.pinned : Pinned := { name := "ytbllialcfmpkaaa", sum := "e631fda4c7738415a2a7d48852836243a706bbbcbcc633c26371582428018d1a", checked := Try.checked }
namespace Rows
def none {H : Type} : Left H := { results := [], args := [] }

/-- 'multikernellaw38.VmWidths': WHATEVER THE INPUT: true; the input reads as it did. -/
def vmWidthsSpec : ChangeSpec := { name := "vmWidths", fn := fun _ => fun
  | [d1, d2, d3] => { results := [.lit (.bool true)], args := [d1, d2, d3] }
  | _ => none }
def vmWidthsRow : OpenClaim := { program := "ytbllialcfmpkaaa", sum := "e631fda4c7738415a2a7d48852836243a706bbbcbcc633c26371582428018d1a", func := "multikernel/multikernellaw38.VmWidths", spec := "vmWidths", inPlace := ["internal/bytealg.IndexByteString"], unfollowed := true, recurses := true, named := ["math/bits.divideError", "math/bits.overflowError"], apart := false }
def VmWidthsSaid : Prop := vmWidthsRow.holds Try.pinned (OpenSpec.ofChange vmWidthsSpec)

/-- ITS FALSE NEIGHBOUR: 'it returns false'. Refute it at one input. -/
def vmWidthsWrong : ChangeSpec := { name := "vmWidths", fn := fun _ => fun
  | [d1, d2, d3] => { results := [.lit (.bool false)], args := [d1, d2, d3] }
  | _ => none }
def VmWidthsWrongFalsely : Prop := vmWidthsRow.holds Try.pinned (OpenSpec.ofChange vmWidthsWrong)

/-- 'multikernellaw38.VmArithmetic': WHATEVER THE INPUT: true; the input reads as it did. -/
def vmArithmeticSpec : ChangeSpec := { name := "vmArithmetic", fn := fun _ => fun
  | [d1, d2, d3, d4] => { results := [.lit (.bool true)], args := [d1, d2, d3, d4] }
  | _ => none }
def vmArithmeticRow : OpenClaim := { program := "ytbllialcfmpkaaa", sum := "e631fda4c7738415a2a7d48852836243a706bbbcbcc633c26371582428018d1a", func := "multikernel/multikernellaw38.VmArithmetic", spec := "vmArithmetic", inPlace := ["internal/bytealg.IndexByteString"], unfollowed := true, recurses := true, named := ["math/bits.divideError", "math/bits.overflowError"], apart := false }
def VmArithmeticSaid : Prop := vmArithmeticRow.holds Try.pinned (OpenSpec.ofChange vmArithmeticSpec)

/-- ITS FALSE NEIGHBOUR: 'it returns false'. Refute it at one input. -/
def vmArithmeticWrong : ChangeSpec := { name := "vmArithmetic", fn := fun _ => fun
  | [d1, d2, d3, d4] => { results := [.lit (.bool false)], args := [d1, d2, d3, d4] }
  | _ => none }
def VmArithmeticWrongFalsely : Prop := vmArithmeticRow.holds Try.pinned (OpenSpec.ofChange vmArithmeticWrong)

/-- 'multikernellaw38.VmRun': WHATEVER THE INPUT: true; the input reads as it did. -/
def vmRunSpec : ChangeSpec := { name := "vmRun", fn := fun _ => fun
  | [d1, d2, d3, d4, d5] => { results := [.lit (.bool true)], args := [d1, d2, d3, d4, d5] }
  | _ => none }
def vmRunRow : OpenClaim := { program := "ytbllialcfmpkaaa", sum := "e631fda4c7738415a2a7d48852836243a706bbbcbcc633c26371582428018d1a", func := "multikernel/multikernellaw38.VmRun", spec := "vmRun", inPlace := ["internal/bytealg.IndexByteString"], unfollowed := true, recurses := true, named := ["math/bits.divideError", "math/bits.overflowError"], apart := false }
def VmRunSaid : Prop := vmRunRow.holds Try.pinned (OpenSpec.ofChange vmRunSpec)

/-- ITS FALSE NEIGHBOUR: 'it returns false'. Refute it at one input. -/
def vmRunWrong : ChangeSpec := { name := "vmRun", fn := fun _ => fun
  | [d1, d2, d3, d4, d5] => { results := [.lit (.bool false)], args := [d1, d2, d3, d4, d5] }
  | _ => none }
def VmRunWrongFalsely : Prop := vmRunRow.holds Try.pinned (OpenSpec.ofChange vmRunWrong)

/-- 'multikernellaw38.VmCompare': WHATEVER THE INPUT: true; the input reads as it did. -/
def vmCompareSpec : ChangeSpec := { name := "vmCompare", fn := fun _ => fun
  | [d1, d2, d3] => { results := [.lit (.bool true)], args := [d1, d2, d3] }
  | _ => none }
def vmCompareRow : OpenClaim := { program := "ytbllialcfmpkaaa", sum := "e631fda4c7738415a2a7d48852836243a706bbbcbcc633c26371582428018d1a", func := "multikernel/multikernellaw38.VmCompare", spec := "vmCompare", inPlace := ["internal/bytealg.IndexByteString"], unfollowed := true, recurses := true, named := ["math/bits.divideError", "math/bits.overflowError"], apart := false }
def VmCompareSaid : Prop := vmCompareRow.holds Try.pinned (OpenSpec.ofChange vmCompareSpec)

/-- ITS FALSE NEIGHBOUR: 'it returns false'. Refute it at one input. -/
def vmCompareWrong : ChangeSpec := { name := "vmCompare", fn := fun _ => fun
  | [d1, d2, d3] => { results := [.lit (.bool false)], args := [d1, d2, d3] }
  | _ => none }
def VmCompareWrongFalsely : Prop := vmCompareRow.holds Try.pinned (OpenSpec.ofChange vmCompareWrong)

/-- 'multikernellaw38.VmSteps': WHATEVER THE INPUT: true; the input reads as it did. -/
def vmStepsSpec : ChangeSpec := { name := "vmSteps", fn := fun _ => fun
  | [d1, d2, d3, d4] => { results := [.lit (.bool true)], args := [d1, d2, d3, d4] }
  | _ => none }
def vmStepsRow : OpenClaim := { program := "ytbllialcfmpkaaa", sum := "e631fda4c7738415a2a7d48852836243a706bbbcbcc633c26371582428018d1a", func := "multikernel/multikernellaw38.VmSteps", spec := "vmSteps", inPlace := ["internal/bytealg.IndexByteString"], unfollowed := true, recurses := true, named := ["math/bits.divideError", "math/bits.overflowError"], apart := false }
def VmStepsSaid : Prop := vmStepsRow.holds Try.pinned (OpenSpec.ofChange vmStepsSpec)

/-- ITS FALSE NEIGHBOUR: 'it returns false'. Refute it at one input. -/
def vmStepsWrong : ChangeSpec := { name := "vmSteps", fn := fun _ => fun
  | [d1, d2, d3, d4] => { results := [.lit (.bool false)], args := [d1, d2, d3, d4] }
  | _ => none }
def VmStepsWrongFalsely : Prop := vmStepsRow.holds Try.pinned (OpenSpec.ofChange vmStepsWrong)

/-- 'multikernellaw38.VmExact': WHATEVER THE INPUT: true; the input reads as it did. -/
def vmExactSpec : ChangeSpec := { name := "vmExact", fn := fun _ => fun
  | [d1, d2, d3, d4, d5, d6, d7] => { results := [.lit (.bool true)], args := [d1, d2, d3, d4, d5, d6, d7] }
  | _ => none }
def vmExactRow : OpenClaim := { program := "ytbllialcfmpkaaa", sum := "e631fda4c7738415a2a7d48852836243a706bbbcbcc633c26371582428018d1a", func := "multikernel/multikernellaw38.VmExact", spec := "vmExact", inPlace := ["internal/bytealg.IndexByteString"], unfollowed := true, recurses := true, named := ["math/bits.divideError", "math/bits.overflowError"], apart := false }
def VmExactSaid : Prop := vmExactRow.holds Try.pinned (OpenSpec.ofChange vmExactSpec)

/-- ITS FALSE NEIGHBOUR: 'it returns false'. Refute it at one input. -/
def vmExactWrong : ChangeSpec := { name := "vmExact", fn := fun _ => fun
  | [d1, d2, d3, d4, d5, d6, d7] => { results := [.lit (.bool false)], args := [d1, d2, d3, d4, d5, d6, d7] }
  | _ => none }
def VmExactWrongFalsely : Prop := vmExactRow.holds Try.pinned (OpenSpec.ofChange vmExactWrong)

/- THE SECOND FORM. 'bulk': how many values and letters a reading holds, each counted each time it is reached (what is shared counts as often as it is met; a slice's spare places count too). A statement '..UptoSaid' is the law's where the arguments, and the package variables that the reading takes, are together of bulk at most 1048576: NARROWER than '..Said'. Prove '..Said' where nothing that the law and all that it calls make is longer than what came in: it says more and counts as full. Else prove '..UptoSaid'. A law counts once. -/
mutual
def uptoBulk {H : Type} : DataW H → Nat
  | .lit (.string bytes) => bytes.length + 1
  | .lit _ => 1
  | .nil => 1
  | .ptr d => uptoBulk d + 1
  | .slice elems spare => uptoBulkAll elems + uptoBulkAll spare + 1
  | .agg parts => uptoBulkAll parts + 1
  | .iface _ d => uptoBulk d + 1
  | .map entries => uptoBulkEntries entries + 1
  | .held _ => 1
def uptoBulkAll {H : Type} : List (DataW H) → Nat
  | [] => 0
  | d :: r => uptoBulk d + uptoBulkAll r
def uptoBulkEntries {H : Type} : List (Lit × DataW H) → Nat
  | [] => 0
  | x :: r => uptoBulkEntry x + uptoBulkEntries r
def uptoBulkEntry {H : Type} : Lit × DataW H → Nat
  | (.string bytes, d) => bytes.length + uptoBulk d + 1
  | (_, d) => uptoBulk d + 1
 end
def uptoSmall : (H : Type) → List (DataW H) → Bool := fun _ ds => decide (uptoBulkAll ds ≤ 1048576)
def OpenSpec.upto (s : _root_.Go.ChangeSpec) : _root_.Go.OpenSpec := { _root_.Go.OpenSpec.ofChange s with cond := some uptoSmall }

/-- 'multikernellaw38.VmWidths', WHERE WHAT IT READS IS OF BULK AT MOST 1048576: true; the input reads as it did. -/
def vmWidthsUptoRow : OpenClaim := { program := "ytbllialcfmpkaaa", sum := "e631fda4c7738415a2a7d48852836243a706bbbcbcc633c26371582428018d1a", func := "multikernel/multikernellaw38.VmWidths", spec := "vmWidths", inPlace := ["internal/bytealg.IndexByteString"], unfollowed := true, recurses := true, named := ["math/bits.divideError", "math/bits.overflowError"], apart := false, narrowed := true }
def VmWidthsUptoSaid : Prop := vmWidthsUptoRow.holds Try.pinned (OpenSpec.upto vmWidthsSpec)

/-- 'multikernellaw38.VmArithmetic', WHERE WHAT IT READS IS OF BULK AT MOST 1048576: true; the input reads as it did. -/
def vmArithmeticUptoRow : OpenClaim := { program := "ytbllialcfmpkaaa", sum := "e631fda4c7738415a2a7d48852836243a706bbbcbcc633c26371582428018d1a", func := "multikernel/multikernellaw38.VmArithmetic", spec := "vmArithmetic", inPlace := ["internal/bytealg.IndexByteString"], unfollowed := true, recurses := true, named := ["math/bits.divideError", "math/bits.overflowError"], apart := false, narrowed := true }
def VmArithmeticUptoSaid : Prop := vmArithmeticUptoRow.holds Try.pinned (OpenSpec.upto vmArithmeticSpec)

/-- 'multikernellaw38.VmRun', WHERE WHAT IT READS IS OF BULK AT MOST 1048576: true; the input reads as it did. -/
def vmRunUptoRow : OpenClaim := { program := "ytbllialcfmpkaaa", sum := "e631fda4c7738415a2a7d48852836243a706bbbcbcc633c26371582428018d1a", func := "multikernel/multikernellaw38.VmRun", spec := "vmRun", inPlace := ["internal/bytealg.IndexByteString"], unfollowed := true, recurses := true, named := ["math/bits.divideError", "math/bits.overflowError"], apart := false, narrowed := true }
def VmRunUptoSaid : Prop := vmRunUptoRow.holds Try.pinned (OpenSpec.upto vmRunSpec)

/-- 'multikernellaw38.VmCompare', WHERE WHAT IT READS IS OF BULK AT MOST 1048576: true; the input reads as it did. -/
def vmCompareUptoRow : OpenClaim := { program := "ytbllialcfmpkaaa", sum := "e631fda4c7738415a2a7d48852836243a706bbbcbcc633c26371582428018d1a", func := "multikernel/multikernellaw38.VmCompare", spec := "vmCompare", inPlace := ["internal/bytealg.IndexByteString"], unfollowed := true, recurses := true, named := ["math/bits.divideError", "math/bits.overflowError"], apart := false, narrowed := true }
def VmCompareUptoSaid : Prop := vmCompareUptoRow.holds Try.pinned (OpenSpec.upto vmCompareSpec)

/-- 'multikernellaw38.VmSteps', WHERE WHAT IT READS IS OF BULK AT MOST 1048576: true; the input reads as it did. -/
def vmStepsUptoRow : OpenClaim := { program := "ytbllialcfmpkaaa", sum := "e631fda4c7738415a2a7d48852836243a706bbbcbcc633c26371582428018d1a", func := "multikernel/multikernellaw38.VmSteps", spec := "vmSteps", inPlace := ["internal/bytealg.IndexByteString"], unfollowed := true, recurses := true, named := ["math/bits.divideError", "math/bits.overflowError"], apart := false, narrowed := true }
def VmStepsUptoSaid : Prop := vmStepsUptoRow.holds Try.pinned (OpenSpec.upto vmStepsSpec)

/-- 'multikernellaw38.VmExact', WHERE WHAT IT READS IS OF BULK AT MOST 1048576: true; the input reads as it did. -/
def vmExactUptoRow : OpenClaim := { program := "ytbllialcfmpkaaa", sum := "e631fda4c7738415a2a7d48852836243a706bbbcbcc633c26371582428018d1a", func := "multikernel/multikernellaw38.VmExact", spec := "vmExact", inPlace := ["internal/bytealg.IndexByteString"], unfollowed := true, recurses := true, named := ["math/bits.divideError", "math/bits.overflowError"], apart := false, narrowed := true }
def VmExactUptoSaid : Prop := vmExactUptoRow.holds Try.pinned (OpenSpec.upto vmExactSpec)

end Rows
end Go.Proofs.Ytbllialcfmpkaaa
