/-
  DERIVED. GIVEN WITH THE SEED: THE CARDS: each row of YtemigcdieghkfaaDoorRows.lean that lists a variable, with what it lists TIED to the program's text (the seventh form; the later family's looks); each row that meets fmt, with fmt's text TOLD by the authors' own Lean function (tested against real Go, not proved from fmt's source: count such statements apart). THE CARD IS WHAT COUNTS. Prove the row's statement (the work); the ties are given (YtemigcdieghkfaaDoorTie.lean); close each card by the builder's one call (the guide's Derived/Test/ToyasCard.lean, 'card_holds'). Laid BY PROGRAM, IN A SANDBOX (cutbox-door.mjs). By AI agents, Wed Nov 11 2026. No macro, syntax, notation, axiom, sorry.
-/
import Derived.Test.YtemigcdieghkfaaDoorRows
import GoSem.ClaimSeven
namespace Go.Proofs.YtemigcdieghkfaaDoor
namespace Rows

/-- THE TIED CARD OF 'multikernellaw09.IsaAssemble'. -/
def isaAssembleCard : Claim7 := { stood := { row := isaAssembleRow, standIns := [], harness := (true, "93401f346e2b1a15f04df82a41c3372cdf0b03586013ae57e4490717f05fc53b"), looks := true }, kinds := [], alts := [], laidByText := true, laidKinds := [.data, .data, .data], laidTests := true, laidLooks := .later }
def IsaAssembleCardSaid : Prop := Claim7.holds Tryd.pinned (.plain (OpenSpec.ofChange isaAssembleSpec)) isaAssembleCard

/-- THE TIED CARD OF 'multikernellaw09.IsaSpoilt'. -/
def isaSpoiltCard : Claim7 := { stood := { row := isaSpoiltRow, standIns := [], harness := (true, "93401f346e2b1a15f04df82a41c3372cdf0b03586013ae57e4490717f05fc53b"), looks := true }, kinds := [], alts := [], laidByText := true, laidKinds := [.data, .data, .data], laidTests := true, laidLooks := .later }
def IsaSpoiltCardSaid : Prop := Claim7.holds Tryd.pinned (.plain (OpenSpec.ofChange isaSpoiltSpec)) isaSpoiltCard

/-- THE TIED CARD OF 'multikernellaw09.IsaImmediates'. -/
def isaImmediatesCard : Claim7 := { stood := { row := isaImmediatesRow, standIns := [], harness := (true, "93401f346e2b1a15f04df82a41c3372cdf0b03586013ae57e4490717f05fc53b"), looks := true }, kinds := [], alts := [], laidByText := true, laidKinds := [.data, .data, .data], laidTests := true, laidLooks := .later }
def IsaImmediatesCardSaid : Prop := Claim7.holds Tryd.pinned (.plain (OpenSpec.ofChange isaImmediatesSpec)) isaImmediatesCard

/-- THE TIED CARD OF 'multikernellaw09.IsaExact'. -/
def isaExactCard : Claim7 := { stood := { row := isaExactRow, standIns := [], harness := (true, "93401f346e2b1a15f04df82a41c3372cdf0b03586013ae57e4490717f05fc53b"), looks := true }, kinds := [], alts := [], laidByText := true, laidKinds := [.data, .data, .data], laidTests := true, laidLooks := .later }
def IsaExactCardSaid : Prop := Claim7.holds Tryd.pinned (.plain (OpenSpec.ofChange isaExactSpec)) isaExactCard

/-- THE SECOND FORM's CARD OF 'multikernellaw09.IsaAssemble'. -/
def isaAssembleUptoCard : Claim7 := { stood := { row := isaAssembleUptoRow, standIns := [], harness := (true, "93401f346e2b1a15f04df82a41c3372cdf0b03586013ae57e4490717f05fc53b"), looks := true }, kinds := [], alts := [], laidByText := true, laidKinds := [.data, .data, .data], laidTests := true, laidLooks := .later }
def IsaAssembleUptoCardSaid : Prop := Claim7.holds Tryd.pinned (.plain (OpenSpec.upto isaAssembleSpec)) isaAssembleUptoCard

/-- THE SECOND FORM's CARD OF 'multikernellaw09.IsaSpoilt'. -/
def isaSpoiltUptoCard : Claim7 := { stood := { row := isaSpoiltUptoRow, standIns := [], harness := (true, "93401f346e2b1a15f04df82a41c3372cdf0b03586013ae57e4490717f05fc53b"), looks := true }, kinds := [], alts := [], laidByText := true, laidKinds := [.data, .data, .data], laidTests := true, laidLooks := .later }
def IsaSpoiltUptoCardSaid : Prop := Claim7.holds Tryd.pinned (.plain (OpenSpec.upto isaSpoiltSpec)) isaSpoiltUptoCard

/-- THE SECOND FORM's CARD OF 'multikernellaw09.IsaImmediates'. -/
def isaImmediatesUptoCard : Claim7 := { stood := { row := isaImmediatesUptoRow, standIns := [], harness := (true, "93401f346e2b1a15f04df82a41c3372cdf0b03586013ae57e4490717f05fc53b"), looks := true }, kinds := [], alts := [], laidByText := true, laidKinds := [.data, .data, .data], laidTests := true, laidLooks := .later }
def IsaImmediatesUptoCardSaid : Prop := Claim7.holds Tryd.pinned (.plain (OpenSpec.upto isaImmediatesSpec)) isaImmediatesUptoCard

/-- THE SECOND FORM's CARD OF 'multikernellaw09.IsaExact'. -/
def isaExactUptoCard : Claim7 := { stood := { row := isaExactUptoRow, standIns := [], harness := (true, "93401f346e2b1a15f04df82a41c3372cdf0b03586013ae57e4490717f05fc53b"), looks := true }, kinds := [], alts := [], laidByText := true, laidKinds := [.data, .data, .data], laidTests := true, laidLooks := .later }
def IsaExactUptoCardSaid : Prop := Claim7.holds Tryd.pinned (.plain (OpenSpec.upto isaExactSpec)) isaExactUptoCard
end Rows
end Go.Proofs.YtemigcdieghkfaaDoor
