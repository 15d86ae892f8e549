/-
  DERIVED. GIVEN WITH THE SEED: THE CARDS: each row of YtifkhlnojdjjcaaDoorRows.lean that lists a variable, with what it lists TIED to the program's text (the seventh form; the later family's looks); each row that meets fmt, with fmt's text TOLD by the authors' own Lean function (tested against real Go, not proved from fmt's source: count such statements apart). THE CARD IS WHAT COUNTS. Prove the row's statement (the work); the ties are given (YtifkhlnojdjjcaaDoorTie.lean); close each card by the builder's one call (the guide's Derived/Test/ToyasCard.lean, 'card_holds'). Laid BY PROGRAM, IN A SANDBOX (cutbox-door.mjs). By AI agents, Wed Nov 11 2026. No macro, syntax, notation, axiom, sorry.
-/
import Derived.Test.YtifkhlnojdjjcaaDoorRows
import GoSem.ClaimSeven
namespace Go.Proofs.YtifkhlnojdjjcaaDoor
namespace Rows

/-- THE TIED CARD OF 'incognitolaw15.QueuePlays'. -/
def queuePlaysCard : Claim7 := { stood := { row := queuePlaysRow, standIns := [], harness := (true, "32aa023d56058f6082d40e400657fce04280f6fb4fc9ef420e079aabe278cff8"), looks := false }, kinds := [], alts := [], laidByText := true, laidKinds := [.data, .data], laidTests := true, laidLooks := .later }
def QueuePlaysCardSaid : Prop := Claim7.holds Tryd.pinned (.plain (OpenSpec.ofChange queuePlaysSpec)) queuePlaysCard

/-- THE TIED CARD OF 'incognitolaw15.QueueAll'. -/
def queueAllCard : Claim7 := { stood := { row := queueAllRow, standIns := [], harness := (true, "32aa023d56058f6082d40e400657fce04280f6fb4fc9ef420e079aabe278cff8"), looks := false }, kinds := [], alts := [], laidByText := true, laidKinds := [.data, .data], laidTests := true, laidLooks := .later }
def QueueAllCardSaid : Prop := Claim7.holds Tryd.pinned (.plain (OpenSpec.ofChange queueAllSpec)) queueAllCard

/-- THE TIED CARD OF 'incognitolaw15.QueueOuts'. -/
def queueOutsCard : Claim7 := { stood := { row := queueOutsRow, standIns := [], harness := (true, "32aa023d56058f6082d40e400657fce04280f6fb4fc9ef420e079aabe278cff8"), looks := false }, kinds := [], alts := [], laidByText := true, laidKinds := [.data, .data], laidTests := true, laidLooks := .later }
def QueueOutsCardSaid : Prop := Claim7.holds Tryd.pinned (.plain (OpenSpec.ofChange queueOutsSpec)) queueOutsCard

/-- THE SECOND FORM's CARD OF 'incognitolaw15.QueuePlays'. -/
def queuePlaysUptoCard : Claim7 := { stood := { row := queuePlaysUptoRow, standIns := [], harness := (true, "32aa023d56058f6082d40e400657fce04280f6fb4fc9ef420e079aabe278cff8"), looks := false }, kinds := [], alts := [], laidByText := true, laidKinds := [.data, .data], laidTests := true, laidLooks := .later }
def QueuePlaysUptoCardSaid : Prop := Claim7.holds Tryd.pinned (.plain (OpenSpec.upto queuePlaysSpec)) queuePlaysUptoCard

/-- THE SECOND FORM's CARD OF 'incognitolaw15.QueueAll'. -/
def queueAllUptoCard : Claim7 := { stood := { row := queueAllUptoRow, standIns := [], harness := (true, "32aa023d56058f6082d40e400657fce04280f6fb4fc9ef420e079aabe278cff8"), looks := false }, kinds := [], alts := [], laidByText := true, laidKinds := [.data, .data], laidTests := true, laidLooks := .later }
def QueueAllUptoCardSaid : Prop := Claim7.holds Tryd.pinned (.plain (OpenSpec.upto queueAllSpec)) queueAllUptoCard

/-- THE SECOND FORM's CARD OF 'incognitolaw15.QueueOuts'. -/
def queueOutsUptoCard : Claim7 := { stood := { row := queueOutsUptoRow, standIns := [], harness := (true, "32aa023d56058f6082d40e400657fce04280f6fb4fc9ef420e079aabe278cff8"), looks := false }, kinds := [], alts := [], laidByText := true, laidKinds := [.data, .data], laidTests := true, laidLooks := .later }
def QueueOutsUptoCardSaid : Prop := Claim7.holds Tryd.pinned (.plain (OpenSpec.upto queueOutsSpec)) queueOutsUptoCard
end Rows
end Go.Proofs.YtifkhlnojdjjcaaDoor
