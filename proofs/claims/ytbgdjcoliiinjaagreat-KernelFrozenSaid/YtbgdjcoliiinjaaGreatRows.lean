/-
  No cell of these rows narrows 'for every input' (looked for: loops, veiled, ifaces, maps, wideKeys, modest, calm, conditions, laid).
  DERIVED. THE GIVEN ROWS OF THIS SEAT. 4 by the template 'for every input the law returns true; each argument reads behind the call as it read before'; 0 by the template 'total and deterministic' (their statements: YtbgdjcoliiinjaaGreatTotals.lean).
  GIVEN WITH THE SEED: the statements are not yours to turn. If you find one false, say at which input.
  Laid BY PROGRAM, IN A SANDBOX (cutbox-rows.mjs): the forced cells as the released guide's own fill.sh prints them over the translation 7745765aa173fddf… (all of the seat's roots in one cut). By AI agents, Wed Nov 11 2026. No macro, syntax, notation, axiom, sorry.
-/
import Derived.Test.YtbgdjcoliiinjaaGreatChecked
import GoSem.Claim
import GoSem.ClaimJoined
import GoSem.ClaimMapViews
import Derived.JoinedTies
import Derived.KernelRfl
namespace Go.Proofs.YtbgdjcoliiinjaaGreat
/- THE CELL 'sum', in the pinned program and in every row, IS THE sha256 OF THE DUMP (.gsa) THAT YtbgdjcoliiinjaaGreatProg.lean LOADS. Nothing in Lean hashes anything: it is a label: what it is worth is what the hold of that sum in a sandbox is worth. -/
noncomputable def Tryz.pinned : Pinned := { name := "ytbgdjcoliiinjaagreat", sum := "7745765aa173fddf0ac3ea60a7210b041c9ddfa0af0b23396f01c56914aba827", checked := Tryz.checked }
namespace Rows
def none {H : Type} : Left H := { results := [], args := [] }

/-- 'multikernellaw27.KernelFrozen': WHATEVER THE INPUT: true; the input reads as it did. -/
def kernelFrozenSpec : ChangeSpec := { name := "kernelFrozen", fn := fun _ => fun
  | [d1, d2, d3, d4, d5] => { results := [.lit (.bool true)], args := [d1, d2, d3, d4, d5] }
  | _ => none }
def kernelFrozenRow : OpenClaim := { program := "ytbgdjcoliiinjaagreat", sum := "7745765aa173fddf0ac3ea60a7210b041c9ddfa0af0b23396f01c56914aba827", func := "multikernel/multikernellaw27.KernelFrozen", spec := "kernelFrozen", inPlace := ["slices.overlaps[multikernel/api.Entry]", "slices.overlaps[multikernel/api.Request]", "slices.overlaps[multikernel/api.PageTable]", "slices.overlaps[multikernel/api.Mapping]", "slices.overlaps[int]", "slices.overlaps[multikernel/api.Mark]"], unfollowed := true, recurses := true, plainKeys := false, apart := false }
def KernelFrozenSaid : Prop := kernelFrozenRow.holds Tryz.pinned (OpenSpec.ofChange kernelFrozenSpec)

/-- ITS FALSE NEIGHBOUR: 'it returns false'. Refute it at one input. -/
def kernelFrozenWrong : ChangeSpec := { name := "kernelFrozen", fn := fun _ => fun
  | [d1, d2, d3, d4, d5] => { results := [.lit (.bool false)], args := [d1, d2, d3, d4, d5] }
  | _ => none }
def KernelFrozenWrongFalsely : Prop := kernelFrozenRow.holds Tryz.pinned (OpenSpec.ofChange kernelFrozenWrong)

/-- 'multikernellaw27.KernelActivates': WHATEVER THE INPUT: true; the input reads as it did. -/
def kernelActivatesSpec : ChangeSpec := { name := "kernelActivates", fn := fun _ => fun
  | [d1, d2, d3, d4] => { results := [.lit (.bool true)], args := [d1, d2, d3, d4] }
  | _ => none }
def kernelActivatesRow : OpenClaim := { program := "ytbgdjcoliiinjaagreat", sum := "7745765aa173fddf0ac3ea60a7210b041c9ddfa0af0b23396f01c56914aba827", func := "multikernel/multikernellaw27.KernelActivates", spec := "kernelActivates", inPlace := ["slices.overlaps[multikernel/api.Entry]", "slices.overlaps[multikernel/api.Request]", "slices.overlaps[multikernel/api.PageTable]", "slices.overlaps[multikernel/api.Mapping]", "slices.overlaps[int]", "slices.overlaps[multikernel/api.Mark]"], unfollowed := true, recurses := true, plainKeys := false, apart := false }
def KernelActivatesSaid : Prop := kernelActivatesRow.holds Tryz.pinned (OpenSpec.ofChange kernelActivatesSpec)

/-- ITS FALSE NEIGHBOUR: 'it returns false'. Refute it at one input. -/
def kernelActivatesWrong : ChangeSpec := { name := "kernelActivates", fn := fun _ => fun
  | [d1, d2, d3, d4] => { results := [.lit (.bool false)], args := [d1, d2, d3, d4] }
  | _ => none }
def KernelActivatesWrongFalsely : Prop := kernelActivatesRow.holds Tryz.pinned (OpenSpec.ofChange kernelActivatesWrong)

/-- 'multikernellaw27.KernelStale': WHATEVER THE INPUT: true; the input reads as it did. -/
def kernelStaleSpec : ChangeSpec := { name := "kernelStale", fn := fun _ => fun
  | [d1, d2, d3, d4, d5] => { results := [.lit (.bool true)], args := [d1, d2, d3, d4, d5] }
  | _ => none }
def kernelStaleRow : OpenClaim := { program := "ytbgdjcoliiinjaagreat", sum := "7745765aa173fddf0ac3ea60a7210b041c9ddfa0af0b23396f01c56914aba827", func := "multikernel/multikernellaw27.KernelStale", spec := "kernelStale", inPlace := ["slices.overlaps[multikernel/api.Entry]", "slices.overlaps[multikernel/api.Request]", "slices.overlaps[multikernel/api.PageTable]", "slices.overlaps[multikernel/api.Mapping]", "slices.overlaps[int]", "slices.overlaps[multikernel/api.Mark]"], unfollowed := true, recurses := true, plainKeys := false, apart := false }
def KernelStaleSaid : Prop := kernelStaleRow.holds Tryz.pinned (OpenSpec.ofChange kernelStaleSpec)

/-- ITS FALSE NEIGHBOUR: 'it returns false'. Refute it at one input. -/
def kernelStaleWrong : ChangeSpec := { name := "kernelStale", fn := fun _ => fun
  | [d1, d2, d3, d4, d5] => { results := [.lit (.bool false)], args := [d1, d2, d3, d4, d5] }
  | _ => none }
def KernelStaleWrongFalsely : Prop := kernelStaleRow.holds Tryz.pinned (OpenSpec.ofChange kernelStaleWrong)

/-- 'multikernellaw27.KernelNew': WHATEVER THE INPUT: true; the input reads as it did. -/
def kernelNewSpec : ChangeSpec := { name := "kernelNew", fn := fun _ => fun
  | [d1, d2, d3] => { results := [.lit (.bool true)], args := [d1, d2, d3] }
  | _ => none }
def kernelNewRow : OpenClaim := { program := "ytbgdjcoliiinjaagreat", sum := "7745765aa173fddf0ac3ea60a7210b041c9ddfa0af0b23396f01c56914aba827", func := "multikernel/multikernellaw27.KernelNew", spec := "kernelNew", inPlace := ["slices.overlaps[multikernel/api.Entry]", "slices.overlaps[multikernel/api.Request]", "slices.overlaps[multikernel/api.PageTable]", "slices.overlaps[multikernel/api.Mapping]", "slices.overlaps[int]", "slices.overlaps[multikernel/api.Mark]"], unfollowed := true, recurses := true, plainKeys := false, apart := false }
def KernelNewSaid : Prop := kernelNewRow.holds Tryz.pinned (OpenSpec.ofChange kernelNewSpec)

/-- ITS FALSE NEIGHBOUR: 'it returns false'. Refute it at one input. -/
def kernelNewWrong : ChangeSpec := { name := "kernelNew", fn := fun _ => fun
  | [d1, d2, d3] => { results := [.lit (.bool false)], args := [d1, d2, d3] }
  | _ => none }
def KernelNewWrongFalsely : Prop := kernelNewRow.holds Tryz.pinned (OpenSpec.ofChange kernelNewWrong)

/- THE SECOND FORM. 'bulk': how many values and letters a reading holds, each counted each time it is reached (what is shared counts as often as it is met; a slice's spare places count too). A statement '..UptoSaid' is the law's where the arguments, and the package variables that the reading takes, are together of bulk at most 1048576: NARROWER than '..Said'. Prove '..Said' where nothing that the law and all that it calls make is longer than what came in: it says more and counts as full. Else prove '..UptoSaid'. A law counts once. -/
mutual
def uptoBulk {H : Type} : DataW H → Nat
  | .lit (.string bytes) => bytes.length + 1
  | .lit _ => 1
  | .nil => 1
  | .ptr d => uptoBulk d + 1
  | .slice elems spare => uptoBulkAll elems + uptoBulkAll spare + 1
  | .agg parts => uptoBulkAll parts + 1
  | .iface _ d => uptoBulk d + 1
  | .map entries => uptoBulkEntries entries + 1
  | .held _ => 1
def uptoBulkAll {H : Type} : List (DataW H) → Nat
  | [] => 0
  | d :: r => uptoBulk d + uptoBulkAll r
def uptoBulkEntries {H : Type} : List (Lit × DataW H) → Nat
  | [] => 0
  | x :: r => uptoBulkEntry x + uptoBulkEntries r
def uptoBulkEntry {H : Type} : Lit × DataW H → Nat
  | (.string bytes, d) => bytes.length + uptoBulk d + 1
  | (_, d) => uptoBulk d + 1
 end
def uptoSmall : (H : Type) → List (DataW H) → Bool := fun _ ds => decide (uptoBulkAll ds ≤ 1048576)
def OpenSpec.upto (s : _root_.Go.ChangeSpec) : _root_.Go.OpenSpec := { _root_.Go.OpenSpec.ofChange s with cond := some uptoSmall }

/-- 'multikernellaw27.KernelFrozen', WHERE WHAT IT READS IS OF BULK AT MOST 1048576: true; the input reads as it did. -/
def kernelFrozenUptoRow : OpenClaim := { program := "ytbgdjcoliiinjaagreat", sum := "7745765aa173fddf0ac3ea60a7210b041c9ddfa0af0b23396f01c56914aba827", func := "multikernel/multikernellaw27.KernelFrozen", spec := "kernelFrozen", inPlace := ["slices.overlaps[multikernel/api.Entry]", "slices.overlaps[multikernel/api.Request]", "slices.overlaps[multikernel/api.PageTable]", "slices.overlaps[multikernel/api.Mapping]", "slices.overlaps[int]", "slices.overlaps[multikernel/api.Mark]"], unfollowed := true, recurses := true, plainKeys := false, apart := false, narrowed := true }
def KernelFrozenUptoSaid : Prop := kernelFrozenUptoRow.holds Tryz.pinned (OpenSpec.upto kernelFrozenSpec)

/-- 'multikernellaw27.KernelActivates', WHERE WHAT IT READS IS OF BULK AT MOST 1048576: true; the input reads as it did. -/
def kernelActivatesUptoRow : OpenClaim := { program := "ytbgdjcoliiinjaagreat", sum := "7745765aa173fddf0ac3ea60a7210b041c9ddfa0af0b23396f01c56914aba827", func := "multikernel/multikernellaw27.KernelActivates", spec := "kernelActivates", inPlace := ["slices.overlaps[multikernel/api.Entry]", "slices.overlaps[multikernel/api.Request]", "slices.overlaps[multikernel/api.PageTable]", "slices.overlaps[multikernel/api.Mapping]", "slices.overlaps[int]", "slices.overlaps[multikernel/api.Mark]"], unfollowed := true, recurses := true, plainKeys := false, apart := false, narrowed := true }
def KernelActivatesUptoSaid : Prop := kernelActivatesUptoRow.holds Tryz.pinned (OpenSpec.upto kernelActivatesSpec)

/-- 'multikernellaw27.KernelStale', WHERE WHAT IT READS IS OF BULK AT MOST 1048576: true; the input reads as it did. -/
def kernelStaleUptoRow : OpenClaim := { program := "ytbgdjcoliiinjaagreat", sum := "7745765aa173fddf0ac3ea60a7210b041c9ddfa0af0b23396f01c56914aba827", func := "multikernel/multikernellaw27.KernelStale", spec := "kernelStale", inPlace := ["slices.overlaps[multikernel/api.Entry]", "slices.overlaps[multikernel/api.Request]", "slices.overlaps[multikernel/api.PageTable]", "slices.overlaps[multikernel/api.Mapping]", "slices.overlaps[int]", "slices.overlaps[multikernel/api.Mark]"], unfollowed := true, recurses := true, plainKeys := false, apart := false, narrowed := true }
def KernelStaleUptoSaid : Prop := kernelStaleUptoRow.holds Tryz.pinned (OpenSpec.upto kernelStaleSpec)

/-- 'multikernellaw27.KernelNew', WHERE WHAT IT READS IS OF BULK AT MOST 1048576: true; the input reads as it did. -/
def kernelNewUptoRow : OpenClaim := { program := "ytbgdjcoliiinjaagreat", sum := "7745765aa173fddf0ac3ea60a7210b041c9ddfa0af0b23396f01c56914aba827", func := "multikernel/multikernellaw27.KernelNew", spec := "kernelNew", inPlace := ["slices.overlaps[multikernel/api.Entry]", "slices.overlaps[multikernel/api.Request]", "slices.overlaps[multikernel/api.PageTable]", "slices.overlaps[multikernel/api.Mapping]", "slices.overlaps[int]", "slices.overlaps[multikernel/api.Mark]"], unfollowed := true, recurses := true, plainKeys := false, apart := false, narrowed := true }
def KernelNewUptoSaid : Prop := kernelNewUptoRow.holds Tryz.pinned (OpenSpec.upto kernelNewSpec)

end Rows
end Go.Proofs.YtbgdjcoliiinjaaGreat
