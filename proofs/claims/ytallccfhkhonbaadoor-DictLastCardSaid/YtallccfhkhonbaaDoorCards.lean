/-
  DERIVED. GIVEN WITH THE SEED: THE CARDS: each row of YtallccfhkhonbaaDoorRows.lean that lists a variable, with what it lists TIED to the program's text (the seventh form; the later family's looks); each row that meets fmt, with fmt's text TOLD by the authors' own Lean function (tested against real Go, not proved from fmt's source: count such statements apart). THE CARD IS WHAT COUNTS. Prove the row's statement (the work); the ties are given (YtallccfhkhonbaaDoorTie.lean); close each card by the builder's one call (the guide's Derived/Test/ToyasCard.lean, 'card_holds'). Laid BY PROGRAM, IN A SANDBOX (cutbox-door.mjs). By AI agents, Wed Nov 11 2026. No macro, syntax, notation, axiom, sorry.
-/
import Derived.Test.YtallccfhkhonbaaDoorRows
import GoSem.ClaimSeven
namespace Go.Proofs.YtallccfhkhonbaaDoor
namespace Rows

/-- THE TIED CARD OF 'incognitolaw17.DictPlays'. -/
def dictPlaysCard : Claim7 := { stood := { row := dictPlaysRow, standIns := [], harness := (true, "642293ead9ffaf87383dc4bd75ee6c0c5dcbd59f3d0b359e041bb32a063d248c"), looks := false }, kinds := [], alts := [], laidByText := true, laidKinds := [.data, .data], laidTests := true, laidLooks := .later }
def DictPlaysCardSaid : Prop := Claim7.holds Tryd.pinned (.plain (OpenSpec.ofChange dictPlaysSpec)) dictPlaysCard

/-- THE TIED CARD OF 'incognitolaw17.DictParts'. -/
def dictPartsCard : Claim7 := { stood := { row := dictPartsRow, standIns := [], harness := (true, "642293ead9ffaf87383dc4bd75ee6c0c5dcbd59f3d0b359e041bb32a063d248c"), looks := false }, kinds := [], alts := [], laidByText := true, laidKinds := [.data, .data], laidTests := true, laidLooks := .later }
def DictPartsCardSaid : Prop := Claim7.holds Tryd.pinned (.plain (OpenSpec.ofChange dictPartsSpec)) dictPartsCard

/-- THE TIED CARD OF 'incognitolaw17.DictLast'. -/
def dictLastCard : Claim7 := { stood := { row := dictLastRow, standIns := [], harness := (true, "642293ead9ffaf87383dc4bd75ee6c0c5dcbd59f3d0b359e041bb32a063d248c"), looks := false }, kinds := [], alts := [], laidByText := true, laidKinds := [.data, .data], laidTests := true, laidLooks := .later }
def DictLastCardSaid : Prop := Claim7.holds Tryd.pinned (.plain (OpenSpec.ofChange dictLastSpec)) dictLastCard

/-- THE SECOND FORM's CARD OF 'incognitolaw17.DictPlays'. -/
def dictPlaysUptoCard : Claim7 := { stood := { row := dictPlaysUptoRow, standIns := [], harness := (true, "642293ead9ffaf87383dc4bd75ee6c0c5dcbd59f3d0b359e041bb32a063d248c"), looks := false }, kinds := [], alts := [], laidByText := true, laidKinds := [.data, .data], laidTests := true, laidLooks := .later }
def DictPlaysUptoCardSaid : Prop := Claim7.holds Tryd.pinned (.plain (OpenSpec.upto dictPlaysSpec)) dictPlaysUptoCard

/-- THE SECOND FORM's CARD OF 'incognitolaw17.DictParts'. -/
def dictPartsUptoCard : Claim7 := { stood := { row := dictPartsUptoRow, standIns := [], harness := (true, "642293ead9ffaf87383dc4bd75ee6c0c5dcbd59f3d0b359e041bb32a063d248c"), looks := false }, kinds := [], alts := [], laidByText := true, laidKinds := [.data, .data], laidTests := true, laidLooks := .later }
def DictPartsUptoCardSaid : Prop := Claim7.holds Tryd.pinned (.plain (OpenSpec.upto dictPartsSpec)) dictPartsUptoCard

/-- THE SECOND FORM's CARD OF 'incognitolaw17.DictLast'. -/
def dictLastUptoCard : Claim7 := { stood := { row := dictLastUptoRow, standIns := [], harness := (true, "642293ead9ffaf87383dc4bd75ee6c0c5dcbd59f3d0b359e041bb32a063d248c"), looks := false }, kinds := [], alts := [], laidByText := true, laidKinds := [.data, .data], laidTests := true, laidLooks := .later }
def DictLastUptoCardSaid : Prop := Claim7.holds Tryd.pinned (.plain (OpenSpec.upto dictLastSpec)) dictLastUptoCard
end Rows
end Go.Proofs.YtallccfhkhonbaaDoor
