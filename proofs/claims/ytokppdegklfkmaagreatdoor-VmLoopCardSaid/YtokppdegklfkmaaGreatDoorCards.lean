/-
  DERIVED. GIVEN WITH THE SEED: THE CARDS: each row of YtokppdegklfkmaaGreatDoorRows.lean that lists a variable, with what it lists TIED to the program's text (the seventh form; the later family's looks); each row that meets fmt, with fmt's text TOLD by the authors' own Lean function (tested against real Go, not proved from fmt's source: count such statements apart). THE CARD IS WHAT COUNTS. Prove the row's statement (the work); the ties are given (YtokppdegklfkmaaGreatDoorTie.lean); close each card by the builder's one call (the guide's Derived/Test/ToyasCard.lean, 'card_holds'). Laid BY PROGRAM, IN A SANDBOX (cutbox-door.mjs). By AI agents, Wed Nov 11 2026. No macro, syntax, notation, axiom, sorry.
-/
import Derived.Test.YtokppdegklfkmaaGreatDoorRows
import GoSem.ClaimSeven
namespace Go.Proofs.YtokppdegklfkmaaGreatDoor
namespace Rows

/-- THE TIED CARD OF 'multikernellaw38.VmLoop'. -/
def vmLoopCard : Claim7 := { stood := { row := vmLoopRow, standIns := [], harness := (true, "1dfad8c4298d9f91c46d253cc6e5228b7863334c7d6b1bf8c5077d31d5a6e155"), looks := true }, kinds := [], alts := [], laidByText := true, laidKinds := [.data, .data, .data], laidTests := true, laidLooks := .later }
def VmLoopCardSaid : Prop := Claim7.holds Tryz.pinned (.plain (OpenSpec.ofChange vmLoopSpec)) vmLoopCard

/-- THE SECOND FORM's CARD OF 'multikernellaw38.VmLoop'. -/
def vmLoopUptoCard : Claim7 := { stood := { row := vmLoopUptoRow, standIns := [], harness := (true, "1dfad8c4298d9f91c46d253cc6e5228b7863334c7d6b1bf8c5077d31d5a6e155"), looks := true }, kinds := [], alts := [], laidByText := true, laidKinds := [.data, .data, .data], laidTests := true, laidLooks := .later }
def VmLoopUptoCardSaid : Prop := Claim7.holds Tryz.pinned (.plain (OpenSpec.upto vmLoopSpec)) vmLoopUptoCard
end Rows
end Go.Proofs.YtokppdegklfkmaaGreatDoor
