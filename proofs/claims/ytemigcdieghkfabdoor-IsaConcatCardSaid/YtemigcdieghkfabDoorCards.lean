/-
  DERIVED. GIVEN WITH THE SEED: THE CARDS: each row of YtemigcdieghkfabDoorRows.lean that lists a variable, with what it lists TIED to the program's text (the seventh form; the later family's looks); each row that meets fmt, with fmt's text TOLD by the authors' own Lean function (tested against real Go, not proved from fmt's source: count such statements apart). THE CARD IS WHAT COUNTS. Prove the row's statement (the work); the ties are given (YtemigcdieghkfabDoorTie.lean); close each card by the builder's one call (the guide's Derived/Test/ToyasCard.lean, 'card_holds'). Laid BY PROGRAM, IN A SANDBOX (cutbox-door.mjs). By AI agents, Wed Nov 11 2026. No macro, syntax, notation, axiom, sorry.
-/
import Derived.Test.YtemigcdieghkfabDoorRows
import GoSem.ClaimSeven
namespace Go.Proofs.YtemigcdieghkfabDoor
namespace Rows

/-- THE TIED CARD OF 'multikernellaw09.IsaRoundTrip'. -/
def isaRoundTripCard : Claim7 := { stood := { row := isaRoundTripRow, standIns := [], harness := (true, "8145afc012873aee90dd874ff8ae50036ce16a2ac93215e135b50ea1e414f553"), looks := true }, kinds := [], alts := [], laidByText := true, laidKinds := [.data, .data, .data], laidTests := true, laidLooks := .later }
def IsaRoundTripCardSaid : Prop := Claim7.holds Tryd.pinned (.plain (OpenSpec.ofChange isaRoundTripSpec)) isaRoundTripCard

/-- THE TIED CARD OF 'multikernellaw09.IsaConcat'. -/
def isaConcatCard : Claim7 := { stood := { row := isaConcatRow, standIns := [], harness := (true, "8145afc012873aee90dd874ff8ae50036ce16a2ac93215e135b50ea1e414f553"), looks := true }, kinds := [], alts := [], laidByText := true, laidKinds := [.data, .data, .data], laidTests := true, laidLooks := .later }
def IsaConcatCardSaid : Prop := Claim7.holds Tryd.pinned (.plain (OpenSpec.ofChange isaConcatSpec)) isaConcatCard

/-- THE TIED CARD OF 'multikernellaw09.IsaLabels'. -/
def isaLabelsCard : Claim7 := { stood := { row := isaLabelsRow, standIns := [], harness := (true, "8145afc012873aee90dd874ff8ae50036ce16a2ac93215e135b50ea1e414f553"), looks := true }, kinds := [], alts := [], laidByText := true, laidKinds := [.data, .data, .data], laidTests := true, laidLooks := .later }
def IsaLabelsCardSaid : Prop := Claim7.holds Tryd.pinned (.plain (OpenSpec.ofChange isaLabelsSpec)) isaLabelsCard

/-- THE SECOND FORM's CARD OF 'multikernellaw09.IsaRoundTrip'. -/
def isaRoundTripUptoCard : Claim7 := { stood := { row := isaRoundTripUptoRow, standIns := [], harness := (true, "8145afc012873aee90dd874ff8ae50036ce16a2ac93215e135b50ea1e414f553"), looks := true }, kinds := [], alts := [], laidByText := true, laidKinds := [.data, .data, .data], laidTests := true, laidLooks := .later }
def IsaRoundTripUptoCardSaid : Prop := Claim7.holds Tryd.pinned (.plain (OpenSpec.upto isaRoundTripSpec)) isaRoundTripUptoCard

/-- THE SECOND FORM's CARD OF 'multikernellaw09.IsaConcat'. -/
def isaConcatUptoCard : Claim7 := { stood := { row := isaConcatUptoRow, standIns := [], harness := (true, "8145afc012873aee90dd874ff8ae50036ce16a2ac93215e135b50ea1e414f553"), looks := true }, kinds := [], alts := [], laidByText := true, laidKinds := [.data, .data, .data], laidTests := true, laidLooks := .later }
def IsaConcatUptoCardSaid : Prop := Claim7.holds Tryd.pinned (.plain (OpenSpec.upto isaConcatSpec)) isaConcatUptoCard

/-- THE SECOND FORM's CARD OF 'multikernellaw09.IsaLabels'. -/
def isaLabelsUptoCard : Claim7 := { stood := { row := isaLabelsUptoRow, standIns := [], harness := (true, "8145afc012873aee90dd874ff8ae50036ce16a2ac93215e135b50ea1e414f553"), looks := true }, kinds := [], alts := [], laidByText := true, laidKinds := [.data, .data, .data], laidTests := true, laidLooks := .later }
def IsaLabelsUptoCardSaid : Prop := Claim7.holds Tryd.pinned (.plain (OpenSpec.upto isaLabelsSpec)) isaLabelsUptoCard
end Rows
end Go.Proofs.YtemigcdieghkfabDoor
