/-
  DERIVED. GIVEN WITH THE SEED: THE CARDS: each row of YtjhkmflnelbbmaaDoorRows.lean that lists a variable, with what it lists TIED to the program's text (the seventh form; the later family's looks); each row that meets fmt, with fmt's text TOLD by the authors' own Lean function (tested against real Go, not proved from fmt's source: count such statements apart). THE CARD IS WHAT COUNTS. Prove the row's statement (the work); the ties are given (YtjhkmflnelbbmaaDoorTie.lean); close each card by the builder's one call (the guide's Derived/Test/ToyasCard.lean, 'card_holds'). Laid BY PROGRAM, IN A SANDBOX (cutbox-door.mjs). By AI agents, Wed Nov 11 2026. No macro, syntax, notation, axiom, sorry.
-/
import Derived.Test.YtjhkmflnelbbmaaDoorRows
import GoSem.ClaimSeven
namespace Go.Proofs.YtjhkmflnelbbmaaDoor
namespace Rows

/-- THE TIED CARD OF 'incognitolaw14.BagPlays'. -/
def bagPlaysCard : Claim7 := { stood := { row := bagPlaysRow, standIns := [], harness := (true, "dee54a8b507719c9fcdaac819bbf44d051b7616ab8c5f63e8576d17b48a1425a"), looks := false }, kinds := [], alts := [], laidByText := true, laidKinds := [.data, .data], laidTests := true, laidLooks := .later }
def BagPlaysCardSaid : Prop := Claim7.holds Tryd.pinned (.plain (OpenSpec.ofChange bagPlaysSpec)) bagPlaysCard

/-- THE TIED CARD OF 'incognitolaw14.BagTurns'. -/
def bagTurnsCard : Claim7 := { stood := { row := bagTurnsRow, standIns := [], harness := (true, "dee54a8b507719c9fcdaac819bbf44d051b7616ab8c5f63e8576d17b48a1425a"), looks := false }, kinds := [], alts := [], laidByText := true, laidKinds := [.data, .data], laidTests := true, laidLooks := .later }
def BagTurnsCardSaid : Prop := Claim7.holds Tryd.pinned (.plain (OpenSpec.ofChange bagTurnsSpec)) bagTurnsCard

/-- THE TIED CARD OF 'incognitolaw14.BagOuts'. -/
def bagOutsCard : Claim7 := { stood := { row := bagOutsRow, standIns := [], harness := (true, "dee54a8b507719c9fcdaac819bbf44d051b7616ab8c5f63e8576d17b48a1425a"), looks := false }, kinds := [], alts := [], laidByText := true, laidKinds := [.data, .data], laidTests := true, laidLooks := .later }
def BagOutsCardSaid : Prop := Claim7.holds Tryd.pinned (.plain (OpenSpec.ofChange bagOutsSpec)) bagOutsCard

/-- THE SECOND FORM's CARD OF 'incognitolaw14.BagPlays'. -/
def bagPlaysUptoCard : Claim7 := { stood := { row := bagPlaysUptoRow, standIns := [], harness := (true, "dee54a8b507719c9fcdaac819bbf44d051b7616ab8c5f63e8576d17b48a1425a"), looks := false }, kinds := [], alts := [], laidByText := true, laidKinds := [.data, .data], laidTests := true, laidLooks := .later }
def BagPlaysUptoCardSaid : Prop := Claim7.holds Tryd.pinned (.plain (OpenSpec.upto bagPlaysSpec)) bagPlaysUptoCard

/-- THE SECOND FORM's CARD OF 'incognitolaw14.BagTurns'. -/
def bagTurnsUptoCard : Claim7 := { stood := { row := bagTurnsUptoRow, standIns := [], harness := (true, "dee54a8b507719c9fcdaac819bbf44d051b7616ab8c5f63e8576d17b48a1425a"), looks := false }, kinds := [], alts := [], laidByText := true, laidKinds := [.data, .data], laidTests := true, laidLooks := .later }
def BagTurnsUptoCardSaid : Prop := Claim7.holds Tryd.pinned (.plain (OpenSpec.upto bagTurnsSpec)) bagTurnsUptoCard

/-- THE SECOND FORM's CARD OF 'incognitolaw14.BagOuts'. -/
def bagOutsUptoCard : Claim7 := { stood := { row := bagOutsUptoRow, standIns := [], harness := (true, "dee54a8b507719c9fcdaac819bbf44d051b7616ab8c5f63e8576d17b48a1425a"), looks := false }, kinds := [], alts := [], laidByText := true, laidKinds := [.data, .data], laidTests := true, laidLooks := .later }
def BagOutsUptoCardSaid : Prop := Claim7.holds Tryd.pinned (.plain (OpenSpec.upto bagOutsSpec)) bagOutsUptoCard
end Rows
end Go.Proofs.YtjhkmflnelbbmaaDoor
