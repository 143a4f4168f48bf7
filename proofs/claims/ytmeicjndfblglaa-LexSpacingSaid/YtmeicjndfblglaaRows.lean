/-
  No cell of these rows narrows 'for every input' (looked for: loops, veiled, ifaces, maps, wideKeys, modest, calm, conditions, laid).
  DERIVED. THE GIVEN ROWS OF THIS SEAT. 6 by the template 'for every input the law returns true; each argument reads behind the call as it read before'; 0 by the template 'total and deterministic' (their statements: YtmeicjndfblglaaTotals.lean).
  GIVEN WITH THE SEED: the statements are not yours to turn. If you find one false, say at which input.
  Laid BY PROGRAM, IN A SANDBOX (cutbox-rows.mjs): the forced cells as the released guide's own fill.sh prints them over the translation d9e2ba00b84b5901… (all of the seat's roots in one cut). By AI agents, Wed Nov 11 2026. No macro, syntax, notation, axiom, sorry.
-/
import Derived.Test.YtmeicjndfblglaaChecked
import GoSem.Claim
import GoSem.ClaimJoined
import GoSem.ClaimMapViews
import Derived.JoinedTies
import Derived.KernelRfl
namespace Go.Proofs.Ytmeicjndfblglaa
/- THE CELL 'sum', in the pinned program and in every row, IS THE sha256 OF THE DUMP (.gsa) THAT YtmeicjndfblglaaProg.lean LOADS. Nothing in Lean hashes anything: it is a label: what it is worth is what the hold of that sum in a sandbox is worth. -/
noncomputable def Try.pinned : Pinned := { name := "ytmeicjndfblglaa", sum := "d9e2ba00b84b5901fb0d73371944fd740ea86a52ff5383333f710038370ab32d", checked := Try.checked }
namespace Rows
def none {H : Type} : Left H := { results := [], args := [] }

/-- 'multikernellaw02.LexSpacing': WHATEVER THE INPUT: true; the input reads as it did. -/
def lexSpacingSpec : ChangeSpec := { name := "lexSpacing", fn := fun _ => fun
  | [d1, d2] => { results := [.lit (.bool true)], args := [d1, d2] }
  | _ => none }
def lexSpacingRow : OpenClaim := { program := "ytmeicjndfblglaa", sum := "d9e2ba00b84b5901fb0d73371944fd740ea86a52ff5383333f710038370ab32d", func := "multikernel/multikernellaw02.LexSpacing", spec := "lexSpacing", inPlace := ["internal/bytealg.IndexByteString"], apart := false }
def LexSpacingSaid : Prop := lexSpacingRow.holds Try.pinned (OpenSpec.ofChange lexSpacingSpec)

/-- ITS FALSE NEIGHBOUR: 'it returns false'. Refute it at one input. -/
def lexSpacingWrong : ChangeSpec := { name := "lexSpacing", fn := fun _ => fun
  | [d1, d2] => { results := [.lit (.bool false)], args := [d1, d2] }
  | _ => none }
def LexSpacingWrongFalsely : Prop := lexSpacingRow.holds Try.pinned (OpenSpec.ofChange lexSpacingWrong)

/-- 'multikernellaw02.LexPositions': WHATEVER THE INPUT: true; the input reads as it did. -/
def lexPositionsSpec : ChangeSpec := { name := "lexPositions", fn := fun _ => fun
  | [d] => { results := [.lit (.bool true)], args := [d] }
  | _ => none }
def lexPositionsRow : OpenClaim := { program := "ytmeicjndfblglaa", sum := "d9e2ba00b84b5901fb0d73371944fd740ea86a52ff5383333f710038370ab32d", func := "multikernel/multikernellaw02.LexPositions", spec := "lexPositions", inPlace := ["internal/bytealg.IndexByteString"], apart := false }
def LexPositionsSaid : Prop := lexPositionsRow.holds Try.pinned (OpenSpec.ofChange lexPositionsSpec)

/-- ITS FALSE NEIGHBOUR: 'it returns false'. Refute it at one input. -/
def lexPositionsWrong : ChangeSpec := { name := "lexPositions", fn := fun _ => fun
  | [d] => { results := [.lit (.bool false)], args := [d] }
  | _ => none }
def LexPositionsWrongFalsely : Prop := lexPositionsRow.holds Try.pinned (OpenSpec.ofChange lexPositionsWrong)

/-- 'multikernellaw02.LexConcat': WHATEVER THE INPUT: true; the input reads as it did. -/
def lexConcatSpec : ChangeSpec := { name := "lexConcat", fn := fun _ => fun
  | [d1, d2] => { results := [.lit (.bool true)], args := [d1, d2] }
  | _ => none }
def lexConcatRow : OpenClaim := { program := "ytmeicjndfblglaa", sum := "d9e2ba00b84b5901fb0d73371944fd740ea86a52ff5383333f710038370ab32d", func := "multikernel/multikernellaw02.LexConcat", spec := "lexConcat", inPlace := ["internal/bytealg.IndexByteString"], apart := false }
def LexConcatSaid : Prop := lexConcatRow.holds Try.pinned (OpenSpec.ofChange lexConcatSpec)

/-- ITS FALSE NEIGHBOUR: 'it returns false'. Refute it at one input. -/
def lexConcatWrong : ChangeSpec := { name := "lexConcat", fn := fun _ => fun
  | [d1, d2] => { results := [.lit (.bool false)], args := [d1, d2] }
  | _ => none }
def LexConcatWrongFalsely : Prop := lexConcatRow.holds Try.pinned (OpenSpec.ofChange lexConcatWrong)

/-- 'multikernellaw02.LexPrefix': WHATEVER THE INPUT: true; the input reads as it did. -/
def lexPrefixSpec : ChangeSpec := { name := "lexPrefix", fn := fun _ => fun
  | [d] => { results := [.lit (.bool true)], args := [d] }
  | _ => none }
def lexPrefixRow : OpenClaim := { program := "ytmeicjndfblglaa", sum := "d9e2ba00b84b5901fb0d73371944fd740ea86a52ff5383333f710038370ab32d", func := "multikernel/multikernellaw02.LexPrefix", spec := "lexPrefix", inPlace := ["internal/bytealg.IndexByteString"], apart := false }
def LexPrefixSaid : Prop := lexPrefixRow.holds Try.pinned (OpenSpec.ofChange lexPrefixSpec)

/-- ITS FALSE NEIGHBOUR: 'it returns false'. Refute it at one input. -/
def lexPrefixWrong : ChangeSpec := { name := "lexPrefix", fn := fun _ => fun
  | [d] => { results := [.lit (.bool false)], args := [d] }
  | _ => none }
def LexPrefixWrongFalsely : Prop := lexPrefixRow.holds Try.pinned (OpenSpec.ofChange lexPrefixWrong)

/-- 'multikernellaw02.LexNumbers': WHATEVER THE INPUT: true; the input reads as it did. -/
def lexNumbersSpec : ChangeSpec := { name := "lexNumbers", fn := fun _ => fun
  | [d1, d2, d3, d4] => { results := [.lit (.bool true)], args := [d1, d2, d3, d4] }
  | _ => none }
def lexNumbersRow : OpenClaim := { program := "ytmeicjndfblglaa", sum := "d9e2ba00b84b5901fb0d73371944fd740ea86a52ff5383333f710038370ab32d", func := "multikernel/multikernellaw02.LexNumbers", spec := "lexNumbers", inPlace := ["internal/bytealg.IndexByteString"], apart := false }
def LexNumbersSaid : Prop := lexNumbersRow.holds Try.pinned (OpenSpec.ofChange lexNumbersSpec)

/-- ITS FALSE NEIGHBOUR: 'it returns false'. Refute it at one input. -/
def lexNumbersWrong : ChangeSpec := { name := "lexNumbers", fn := fun _ => fun
  | [d1, d2, d3, d4] => { results := [.lit (.bool false)], args := [d1, d2, d3, d4] }
  | _ => none }
def LexNumbersWrongFalsely : Prop := lexNumbersRow.holds Try.pinned (OpenSpec.ofChange lexNumbersWrong)

/-- 'multikernellaw02.LexExact': WHATEVER THE INPUT: true; the input reads as it did. -/
def lexExactSpec : ChangeSpec := { name := "lexExact", fn := fun _ => fun
  | [d] => { results := [.lit (.bool true)], args := [d] }
  | _ => none }
def lexExactRow : OpenClaim := { program := "ytmeicjndfblglaa", sum := "d9e2ba00b84b5901fb0d73371944fd740ea86a52ff5383333f710038370ab32d", func := "multikernel/multikernellaw02.LexExact", spec := "lexExact", inPlace := ["internal/bytealg.IndexByteString"], apart := false }
def LexExactSaid : Prop := lexExactRow.holds Try.pinned (OpenSpec.ofChange lexExactSpec)

/-- ITS FALSE NEIGHBOUR: 'it returns false'. Refute it at one input. -/
def lexExactWrong : ChangeSpec := { name := "lexExact", fn := fun _ => fun
  | [d] => { results := [.lit (.bool false)], args := [d] }
  | _ => none }
def LexExactWrongFalsely : Prop := lexExactRow.holds Try.pinned (OpenSpec.ofChange lexExactWrong)

/- THE SECOND FORM. 'bulk': how many values and letters a reading holds, each counted each time it is reached (what is shared counts as often as it is met; a slice's spare places count too). A statement '..UptoSaid' is the law's where the arguments, and the package variables that the reading takes, are together of bulk at most 1048576: NARROWER than '..Said'. Prove '..Said' where nothing that the law and all that it calls make is longer than what came in: it says more and counts as full. Else prove '..UptoSaid'. A law counts once. -/
mutual
def uptoBulk {H : Type} : DataW H → Nat
  | .lit (.string bytes) => bytes.length + 1
  | .lit _ => 1
  | .nil => 1
  | .ptr d => uptoBulk d + 1
  | .slice elems spare => uptoBulkAll elems + uptoBulkAll spare + 1
  | .agg parts => uptoBulkAll parts + 1
  | .iface _ d => uptoBulk d + 1
  | .map entries => uptoBulkEntries entries + 1
  | .held _ => 1
def uptoBulkAll {H : Type} : List (DataW H) → Nat
  | [] => 0
  | d :: r => uptoBulk d + uptoBulkAll r
def uptoBulkEntries {H : Type} : List (Lit × DataW H) → Nat
  | [] => 0
  | x :: r => uptoBulkEntry x + uptoBulkEntries r
def uptoBulkEntry {H : Type} : Lit × DataW H → Nat
  | (.string bytes, d) => bytes.length + uptoBulk d + 1
  | (_, d) => uptoBulk d + 1
 end
def uptoSmall : (H : Type) → List (DataW H) → Bool := fun _ ds => decide (uptoBulkAll ds ≤ 1048576)
def OpenSpec.upto (s : _root_.Go.ChangeSpec) : _root_.Go.OpenSpec := { _root_.Go.OpenSpec.ofChange s with cond := some uptoSmall }

/-- 'multikernellaw02.LexSpacing', WHERE WHAT IT READS IS OF BULK AT MOST 1048576: true; the input reads as it did. -/
def lexSpacingUptoRow : OpenClaim := { program := "ytmeicjndfblglaa", sum := "d9e2ba00b84b5901fb0d73371944fd740ea86a52ff5383333f710038370ab32d", func := "multikernel/multikernellaw02.LexSpacing", spec := "lexSpacing", inPlace := ["internal/bytealg.IndexByteString"], apart := false, narrowed := true }
def LexSpacingUptoSaid : Prop := lexSpacingUptoRow.holds Try.pinned (OpenSpec.upto lexSpacingSpec)

/-- 'multikernellaw02.LexPositions', WHERE WHAT IT READS IS OF BULK AT MOST 1048576: true; the input reads as it did. -/
def lexPositionsUptoRow : OpenClaim := { program := "ytmeicjndfblglaa", sum := "d9e2ba00b84b5901fb0d73371944fd740ea86a52ff5383333f710038370ab32d", func := "multikernel/multikernellaw02.LexPositions", spec := "lexPositions", inPlace := ["internal/bytealg.IndexByteString"], apart := false, narrowed := true }
def LexPositionsUptoSaid : Prop := lexPositionsUptoRow.holds Try.pinned (OpenSpec.upto lexPositionsSpec)

/-- 'multikernellaw02.LexConcat', WHERE WHAT IT READS IS OF BULK AT MOST 1048576: true; the input reads as it did. -/
def lexConcatUptoRow : OpenClaim := { program := "ytmeicjndfblglaa", sum := "d9e2ba00b84b5901fb0d73371944fd740ea86a52ff5383333f710038370ab32d", func := "multikernel/multikernellaw02.LexConcat", spec := "lexConcat", inPlace := ["internal/bytealg.IndexByteString"], apart := false, narrowed := true }
def LexConcatUptoSaid : Prop := lexConcatUptoRow.holds Try.pinned (OpenSpec.upto lexConcatSpec)

/-- 'multikernellaw02.LexPrefix', WHERE WHAT IT READS IS OF BULK AT MOST 1048576: true; the input reads as it did. -/
def lexPrefixUptoRow : OpenClaim := { program := "ytmeicjndfblglaa", sum := "d9e2ba00b84b5901fb0d73371944fd740ea86a52ff5383333f710038370ab32d", func := "multikernel/multikernellaw02.LexPrefix", spec := "lexPrefix", inPlace := ["internal/bytealg.IndexByteString"], apart := false, narrowed := true }
def LexPrefixUptoSaid : Prop := lexPrefixUptoRow.holds Try.pinned (OpenSpec.upto lexPrefixSpec)

/-- 'multikernellaw02.LexNumbers', WHERE WHAT IT READS IS OF BULK AT MOST 1048576: true; the input reads as it did. -/
def lexNumbersUptoRow : OpenClaim := { program := "ytmeicjndfblglaa", sum := "d9e2ba00b84b5901fb0d73371944fd740ea86a52ff5383333f710038370ab32d", func := "multikernel/multikernellaw02.LexNumbers", spec := "lexNumbers", inPlace := ["internal/bytealg.IndexByteString"], apart := false, narrowed := true }
def LexNumbersUptoSaid : Prop := lexNumbersUptoRow.holds Try.pinned (OpenSpec.upto lexNumbersSpec)

/-- 'multikernellaw02.LexExact', WHERE WHAT IT READS IS OF BULK AT MOST 1048576: true; the input reads as it did. -/
def lexExactUptoRow : OpenClaim := { program := "ytmeicjndfblglaa", sum := "d9e2ba00b84b5901fb0d73371944fd740ea86a52ff5383333f710038370ab32d", func := "multikernel/multikernellaw02.LexExact", spec := "lexExact", inPlace := ["internal/bytealg.IndexByteString"], apart := false, narrowed := true }
def LexExactUptoSaid : Prop := lexExactUptoRow.holds Try.pinned (OpenSpec.upto lexExactSpec)

end Rows
end Go.Proofs.Ytmeicjndfblglaa
