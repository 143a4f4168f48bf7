/-
  DERIVED. GIVEN WITH THE SEED: THE CARDS: each row of YtmeicjndfblglaaDoorRows.lean that lists a variable, with what it lists TIED to the program's text (the seventh form; the later family's looks); each row that meets fmt, with fmt's text TOLD by the authors' own Lean function (tested against real Go, not proved from fmt's source: count such statements apart). THE CARD IS WHAT COUNTS. Prove the row's statement (the work); the ties are given (YtmeicjndfblglaaDoorTie.lean); close each card by the builder's one call (the guide's Derived/Test/ToyasCard.lean, 'card_holds'). Laid BY PROGRAM, IN A SANDBOX (cutbox-door.mjs). By AI agents, Wed Nov 11 2026. No macro, syntax, notation, axiom, sorry.
-/
import Derived.Test.YtmeicjndfblglaaDoorRows
import GoSem.ClaimSeven
namespace Go.Proofs.YtmeicjndfblglaaDoor
namespace Rows

/-- THE TIED CARD OF 'multikernellaw02.LexFormat'. -/
def lexFormatCard : Claim7 := { stood := { row := lexFormatRow, standIns := [], harness := (true, "4c411f065711e309d36ccd3b1c1ba9ba9a3731d997b8c869ec1ed39f251f9832"), looks := false }, kinds := [], alts := [], laidByText := true, laidKinds := [.data, .data, .data], laidTests := true, laidLooks := .later }
def LexFormatCardSaid : Prop := Claim7.holds Tryd.pinned (.plain (OpenSpec.ofChange lexFormatSpec)) lexFormatCard

/-- THE TIED CARD OF 'multikernellaw02.LexRoundTrip'. -/
def lexRoundTripCard : Claim7 := { stood := { row := lexRoundTripRow, standIns := [], harness := (true, "4c411f065711e309d36ccd3b1c1ba9ba9a3731d997b8c869ec1ed39f251f9832"), looks := false }, kinds := [], alts := [], laidByText := true, laidKinds := [.data, .data, .data], laidTests := true, laidLooks := .later }
def LexRoundTripCardSaid : Prop := Claim7.holds Tryd.pinned (.plain (OpenSpec.ofChange lexRoundTripSpec)) lexRoundTripCard

/-- THE SECOND FORM's CARD OF 'multikernellaw02.LexFormat'. -/
def lexFormatUptoCard : Claim7 := { stood := { row := lexFormatUptoRow, standIns := [], harness := (true, "4c411f065711e309d36ccd3b1c1ba9ba9a3731d997b8c869ec1ed39f251f9832"), looks := false }, kinds := [], alts := [], laidByText := true, laidKinds := [.data, .data, .data], laidTests := true, laidLooks := .later }
def LexFormatUptoCardSaid : Prop := Claim7.holds Tryd.pinned (.plain (OpenSpec.upto lexFormatSpec)) lexFormatUptoCard

/-- THE SECOND FORM's CARD OF 'multikernellaw02.LexRoundTrip'. -/
def lexRoundTripUptoCard : Claim7 := { stood := { row := lexRoundTripUptoRow, standIns := [], harness := (true, "4c411f065711e309d36ccd3b1c1ba9ba9a3731d997b8c869ec1ed39f251f9832"), looks := false }, kinds := [], alts := [], laidByText := true, laidKinds := [.data, .data, .data], laidTests := true, laidLooks := .later }
def LexRoundTripUptoCardSaid : Prop := Claim7.holds Tryd.pinned (.plain (OpenSpec.upto lexRoundTripSpec)) lexRoundTripUptoCard
end Rows
end Go.Proofs.YtmeicjndfblglaaDoor
