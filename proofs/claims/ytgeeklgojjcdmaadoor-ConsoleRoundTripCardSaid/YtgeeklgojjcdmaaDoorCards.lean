/-
  DERIVED. GIVEN WITH THE SEED: THE CARDS: each row of YtgeeklgojjcdmaaDoorRows.lean that lists a variable, with what it lists TIED to the program's text (the seventh form; the later family's looks); each row that meets fmt, with fmt's text TOLD by the authors' own Lean function (tested against real Go, not proved from fmt's source: count such statements apart). THE CARD IS WHAT COUNTS. Prove the row's statement (the work); the ties are given (YtgeeklgojjcdmaaDoorTie.lean); close each card by the builder's one call (the guide's Derived/Test/ToyasCard.lean, 'card_holds'). Laid BY PROGRAM, IN A SANDBOX (cutbox-door.mjs). By AI agents, Wed Nov 11 2026. No macro, syntax, notation, axiom, sorry.
-/
import Derived.Test.YtgeeklgojjcdmaaDoorRows
import GoSem.ClaimSeven
namespace Go.Proofs.YtgeeklgojjcdmaaDoor
namespace Rows

/-- THE TIED CARD OF 'multikernellaw40.ConsoleScripts'. -/
def consoleScriptsCard : Claim7 := { stood := { row := consoleScriptsRow, standIns := [], harness := (true, "95ebd77218f1eb54e5606e9db4ac70e650f5e1bd9e815b7f8ea38e70a23a6ddc"), looks := false }, kinds := [], alts := [], laidByText := true, laidKinds := [.data, .data, .data], laidTests := true, laidLooks := .later }
def ConsoleScriptsCardSaid : Prop := Claim7.holds Tryd.pinned (.plain (OpenSpec.ofChange consoleScriptsSpec)) consoleScriptsCard

/-- THE TIED CARD OF 'multikernellaw40.ConsoleRoundTrip'. -/
def consoleRoundTripCard : Claim7 := { stood := { row := consoleRoundTripRow, standIns := [], harness := (true, "95ebd77218f1eb54e5606e9db4ac70e650f5e1bd9e815b7f8ea38e70a23a6ddc"), looks := false }, kinds := [], alts := [], laidByText := true, laidKinds := [.data, .data, .data], laidTests := true, laidLooks := .later }
def ConsoleRoundTripCardSaid : Prop := Claim7.holds Tryd.pinned (.plain (OpenSpec.ofChange consoleRoundTripSpec)) consoleRoundTripCard

/-- THE SECOND FORM's CARD OF 'multikernellaw40.ConsoleScripts'. -/
def consoleScriptsUptoCard : Claim7 := { stood := { row := consoleScriptsUptoRow, standIns := [], harness := (true, "95ebd77218f1eb54e5606e9db4ac70e650f5e1bd9e815b7f8ea38e70a23a6ddc"), looks := false }, kinds := [], alts := [], laidByText := true, laidKinds := [.data, .data, .data], laidTests := true, laidLooks := .later }
def ConsoleScriptsUptoCardSaid : Prop := Claim7.holds Tryd.pinned (.plain (OpenSpec.upto consoleScriptsSpec)) consoleScriptsUptoCard

/-- THE SECOND FORM's CARD OF 'multikernellaw40.ConsoleRoundTrip'. -/
def consoleRoundTripUptoCard : Claim7 := { stood := { row := consoleRoundTripUptoRow, standIns := [], harness := (true, "95ebd77218f1eb54e5606e9db4ac70e650f5e1bd9e815b7f8ea38e70a23a6ddc"), looks := false }, kinds := [], alts := [], laidByText := true, laidKinds := [.data, .data, .data], laidTests := true, laidLooks := .later }
def ConsoleRoundTripUptoCardSaid : Prop := Claim7.holds Tryd.pinned (.plain (OpenSpec.upto consoleRoundTripSpec)) consoleRoundTripUptoCard
end Rows
end Go.Proofs.YtgeeklgojjcdmaaDoor
