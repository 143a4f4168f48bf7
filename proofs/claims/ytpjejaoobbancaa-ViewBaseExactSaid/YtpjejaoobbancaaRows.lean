/-
  No cell of these rows narrows 'for every input' (looked for: loops, veiled, ifaces, maps, wideKeys, modest, calm, conditions, laid).
  DERIVED. THE GIVEN ROWS OF THIS SEAT. 4 by the template 'for every input the law returns true; each argument reads behind the call as it read before'; 0 by the template 'total and deterministic' (their statements: YtpjejaoobbancaaTotals.lean).
  GIVEN WITH THE SEED: the statements are not yours to turn. If you find one false, say at which input.
  Laid BY PROGRAM, IN A SANDBOX (cutbox-rows.mjs): the forced cells as the released guide's own fill.sh prints them over the translation ca4e3b38ab53b052… (all of the seat's roots in one cut). By AI agents, Wed Nov 11 2026. No macro, syntax, notation, axiom, sorry.
-/
import Derived.Test.YtpjejaoobbancaaChecked
import GoSem.Claim
import GoSem.ClaimJoined
import GoSem.ClaimMapViews
import Derived.JoinedTies
import Derived.KernelRfl
namespace Go.Proofs.Ytpjejaoobbancaa
/- THE CELL 'sum', in the pinned program and in every row, IS THE sha256 OF THE DUMP (.gsa) THAT YtpjejaoobbancaaProg.lean LOADS. Nothing in Lean hashes anything: it is a label: what it is worth is what the hold of that sum in a sandbox is worth. -/
noncomputable def Try.pinned : Pinned := { name := "ytpjejaoobbancaa", sum := "ca4e3b38ab53b0525318408f5b809879453391b9481ba0b67365edc1bf88e861", checked := Try.checked }
namespace Rows
def none {H : Type} : Left H := { results := [], args := [] }

/-- 'multikernellaw26.ViewAdopts': WHATEVER THE INPUT: true; the input reads as it did. -/
def viewAdoptsSpec : ChangeSpec := { name := "viewAdopts", fn := fun _ => fun
  | [d1, d2] => { results := [.lit (.bool true)], args := [d1, d2] }
  | _ => none }
def viewAdoptsRow : OpenClaim := { program := "ytpjejaoobbancaa", sum := "ca4e3b38ab53b0525318408f5b809879453391b9481ba0b67365edc1bf88e861", func := "multikernel/multikernellaw26.ViewAdopts", spec := "viewAdopts", inPlace := ["slices.overlaps[int]"], unfollowed := true, recurses := true, apart := false }
def ViewAdoptsSaid : Prop := viewAdoptsRow.holds Try.pinned (OpenSpec.ofChange viewAdoptsSpec)

/-- ITS FALSE NEIGHBOUR: 'it returns false'. Refute it at one input. -/
def viewAdoptsWrong : ChangeSpec := { name := "viewAdopts", fn := fun _ => fun
  | [d1, d2] => { results := [.lit (.bool false)], args := [d1, d2] }
  | _ => none }
def ViewAdoptsWrongFalsely : Prop := viewAdoptsRow.holds Try.pinned (OpenSpec.ofChange viewAdoptsWrong)

/-- 'multikernellaw26.ViewBaseExact': WHATEVER THE INPUT: true; the input reads as it did. -/
def viewBaseExactSpec : ChangeSpec := { name := "viewBaseExact", fn := fun _ => fun
  | [d1, d2, d3, d4, d5, d6, d7] => { results := [.lit (.bool true)], args := [d1, d2, d3, d4, d5, d6, d7] }
  | _ => none }
def viewBaseExactRow : OpenClaim := { program := "ytpjejaoobbancaa", sum := "ca4e3b38ab53b0525318408f5b809879453391b9481ba0b67365edc1bf88e861", func := "multikernel/multikernellaw26.ViewBaseExact", spec := "viewBaseExact", inPlace := ["slices.overlaps[int]"], unfollowed := true, recurses := true, apart := false }
def ViewBaseExactSaid : Prop := viewBaseExactRow.holds Try.pinned (OpenSpec.ofChange viewBaseExactSpec)

/-- ITS FALSE NEIGHBOUR: 'it returns false'. Refute it at one input. -/
def viewBaseExactWrong : ChangeSpec := { name := "viewBaseExact", fn := fun _ => fun
  | [d1, d2, d3, d4, d5, d6, d7] => { results := [.lit (.bool false)], args := [d1, d2, d3, d4, d5, d6, d7] }
  | _ => none }
def ViewBaseExactWrongFalsely : Prop := viewBaseExactRow.holds Try.pinned (OpenSpec.ofChange viewBaseExactWrong)

/-- 'multikernellaw26.ViewNumbers': WHATEVER THE INPUT: true; the input reads as it did. -/
def viewNumbersSpec : ChangeSpec := { name := "viewNumbers", fn := fun _ => fun
  | [d1, d2, d3, d4, d5] => { results := [.lit (.bool true)], args := [d1, d2, d3, d4, d5] }
  | _ => none }
def viewNumbersRow : OpenClaim := { program := "ytpjejaoobbancaa", sum := "ca4e3b38ab53b0525318408f5b809879453391b9481ba0b67365edc1bf88e861", func := "multikernel/multikernellaw26.ViewNumbers", spec := "viewNumbers", inPlace := ["slices.overlaps[int]"], unfollowed := true, recurses := true, apart := false }
def ViewNumbersSaid : Prop := viewNumbersRow.holds Try.pinned (OpenSpec.ofChange viewNumbersSpec)

/-- ITS FALSE NEIGHBOUR: 'it returns false'. Refute it at one input. -/
def viewNumbersWrong : ChangeSpec := { name := "viewNumbers", fn := fun _ => fun
  | [d1, d2, d3, d4, d5] => { results := [.lit (.bool false)], args := [d1, d2, d3, d4, d5] }
  | _ => none }
def ViewNumbersWrongFalsely : Prop := viewNumbersRow.holds Try.pinned (OpenSpec.ofChange viewNumbersWrong)

/-- 'multikernellaw26.ViewMembers': WHATEVER THE INPUT: true; the input reads as it did. -/
def viewMembersSpec : ChangeSpec := { name := "viewMembers", fn := fun _ => fun
  | [d1, d2, d3, d4] => { results := [.lit (.bool true)], args := [d1, d2, d3, d4] }
  | _ => none }
def viewMembersRow : OpenClaim := { program := "ytpjejaoobbancaa", sum := "ca4e3b38ab53b0525318408f5b809879453391b9481ba0b67365edc1bf88e861", func := "multikernel/multikernellaw26.ViewMembers", spec := "viewMembers", inPlace := ["slices.overlaps[int]"], unfollowed := true, recurses := true, apart := false }
def ViewMembersSaid : Prop := viewMembersRow.holds Try.pinned (OpenSpec.ofChange viewMembersSpec)

/-- ITS FALSE NEIGHBOUR: 'it returns false'. Refute it at one input. -/
def viewMembersWrong : ChangeSpec := { name := "viewMembers", fn := fun _ => fun
  | [d1, d2, d3, d4] => { results := [.lit (.bool false)], args := [d1, d2, d3, d4] }
  | _ => none }
def ViewMembersWrongFalsely : Prop := viewMembersRow.holds Try.pinned (OpenSpec.ofChange viewMembersWrong)

/- THE SECOND FORM. 'bulk': how many values and letters a reading holds, each counted each time it is reached (what is shared counts as often as it is met; a slice's spare places count too). A statement '..UptoSaid' is the law's where the arguments, and the package variables that the reading takes, are together of bulk at most 1048576: NARROWER than '..Said'. Prove '..Said' where nothing that the law and all that it calls make is longer than what came in: it says more and counts as full. Else prove '..UptoSaid'. A law counts once. -/
mutual
def uptoBulk {H : Type} : DataW H → Nat
  | .lit (.string bytes) => bytes.length + 1
  | .lit _ => 1
  | .nil => 1
  | .ptr d => uptoBulk d + 1
  | .slice elems spare => uptoBulkAll elems + uptoBulkAll spare + 1
  | .agg parts => uptoBulkAll parts + 1
  | .iface _ d => uptoBulk d + 1
  | .map entries => uptoBulkEntries entries + 1
  | .held _ => 1
def uptoBulkAll {H : Type} : List (DataW H) → Nat
  | [] => 0
  | d :: r => uptoBulk d + uptoBulkAll r
def uptoBulkEntries {H : Type} : List (Lit × DataW H) → Nat
  | [] => 0
  | x :: r => uptoBulkEntry x + uptoBulkEntries r
def uptoBulkEntry {H : Type} : Lit × DataW H → Nat
  | (.string bytes, d) => bytes.length + uptoBulk d + 1
  | (_, d) => uptoBulk d + 1
 end
def uptoSmall : (H : Type) → List (DataW H) → Bool := fun _ ds => decide (uptoBulkAll ds ≤ 1048576)
def OpenSpec.upto (s : _root_.Go.ChangeSpec) : _root_.Go.OpenSpec := { _root_.Go.OpenSpec.ofChange s with cond := some uptoSmall }

/-- 'multikernellaw26.ViewAdopts', WHERE WHAT IT READS IS OF BULK AT MOST 1048576: true; the input reads as it did. -/
def viewAdoptsUptoRow : OpenClaim := { program := "ytpjejaoobbancaa", sum := "ca4e3b38ab53b0525318408f5b809879453391b9481ba0b67365edc1bf88e861", func := "multikernel/multikernellaw26.ViewAdopts", spec := "viewAdopts", inPlace := ["slices.overlaps[int]"], unfollowed := true, recurses := true, apart := false, narrowed := true }
def ViewAdoptsUptoSaid : Prop := viewAdoptsUptoRow.holds Try.pinned (OpenSpec.upto viewAdoptsSpec)

/-- 'multikernellaw26.ViewBaseExact', WHERE WHAT IT READS IS OF BULK AT MOST 1048576: true; the input reads as it did. -/
def viewBaseExactUptoRow : OpenClaim := { program := "ytpjejaoobbancaa", sum := "ca4e3b38ab53b0525318408f5b809879453391b9481ba0b67365edc1bf88e861", func := "multikernel/multikernellaw26.ViewBaseExact", spec := "viewBaseExact", inPlace := ["slices.overlaps[int]"], unfollowed := true, recurses := true, apart := false, narrowed := true }
def ViewBaseExactUptoSaid : Prop := viewBaseExactUptoRow.holds Try.pinned (OpenSpec.upto viewBaseExactSpec)

/-- 'multikernellaw26.ViewNumbers', WHERE WHAT IT READS IS OF BULK AT MOST 1048576: true; the input reads as it did. -/
def viewNumbersUptoRow : OpenClaim := { program := "ytpjejaoobbancaa", sum := "ca4e3b38ab53b0525318408f5b809879453391b9481ba0b67365edc1bf88e861", func := "multikernel/multikernellaw26.ViewNumbers", spec := "viewNumbers", inPlace := ["slices.overlaps[int]"], unfollowed := true, recurses := true, apart := false, narrowed := true }
def ViewNumbersUptoSaid : Prop := viewNumbersUptoRow.holds Try.pinned (OpenSpec.upto viewNumbersSpec)

/-- 'multikernellaw26.ViewMembers', WHERE WHAT IT READS IS OF BULK AT MOST 1048576: true; the input reads as it did. -/
def viewMembersUptoRow : OpenClaim := { program := "ytpjejaoobbancaa", sum := "ca4e3b38ab53b0525318408f5b809879453391b9481ba0b67365edc1bf88e861", func := "multikernel/multikernellaw26.ViewMembers", spec := "viewMembers", inPlace := ["slices.overlaps[int]"], unfollowed := true, recurses := true, apart := false, narrowed := true }
def ViewMembersUptoSaid : Prop := viewMembersUptoRow.holds Try.pinned (OpenSpec.upto viewMembersSpec)

end Rows
end Go.Proofs.Ytpjejaoobbancaa
