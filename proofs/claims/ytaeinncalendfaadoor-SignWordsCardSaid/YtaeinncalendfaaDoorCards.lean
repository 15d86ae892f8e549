/-
  DERIVED. GIVEN WITH THE SEED: THE CARDS: each row of YtaeinncalendfaaDoorRows.lean that lists a variable, with what it lists TIED to the program's text (the seventh form; the later family's looks); each row that meets fmt, with fmt's text TOLD by the authors' own Lean function (tested against real Go, not proved from fmt's source: count such statements apart). THE CARD IS WHAT COUNTS. Prove the row's statement (the work); the ties are given (YtaeinncalendfaaDoorTie.lean); close each card by the builder's one call (the guide's Derived/Test/ToyasCard.lean, 'card_holds'). Laid BY PROGRAM, IN A SANDBOX (cutbox-door.mjs). By AI agents, Wed Nov 11 2026. No macro, syntax, notation, axiom, sorry.
-/
import Derived.Test.YtaeinncalendfaaDoorRows
import GoSem.ClaimSeven
namespace Go.Proofs.YtaeinncalendfaaDoor
namespace Rows

/-- THE TIED CARD OF 'incognitolaw09.SignTakes'. -/
def signTakesCard : Claim7 := { stood := { row := signTakesRow, standIns := [], harness := (true, "1b7956bb1dce756faac991384d7f0ad09923a5cec0b00b6cce504aa0f5d82d69"), looks := false }, kinds := [], alts := [], laidByText := true, laidKinds := [.data, .data], laidTests := true, laidLooks := .later }
def SignTakesCardSaid : Prop := Claim7.holds Tryd.pinned (.plain (OpenSpec.ofChange signTakesSpec)) signTakesCard

/-- THE TIED CARD OF 'incognitolaw09.SignArgs'. -/
def signArgsCard : Claim7 := { stood := { row := signArgsRow, standIns := [], harness := (true, "1b7956bb1dce756faac991384d7f0ad09923a5cec0b00b6cce504aa0f5d82d69"), looks := false }, kinds := [], alts := [], laidByText := true, laidKinds := [.data, .data], laidTests := true, laidLooks := .later }
def SignArgsCardSaid : Prop := Claim7.holds Tryd.pinned (.plain (OpenSpec.ofChange signArgsSpec)) signArgsCard

/-- THE TIED CARD OF 'incognitolaw09.SignOuts'. -/
def signOutsCard : Claim7 := { stood := { row := signOutsRow, standIns := [], harness := (true, "1b7956bb1dce756faac991384d7f0ad09923a5cec0b00b6cce504aa0f5d82d69"), looks := false }, kinds := [], alts := [], laidByText := true, laidKinds := [.data, .data], laidTests := true, laidLooks := .later }
def SignOutsCardSaid : Prop := Claim7.holds Tryd.pinned (.plain (OpenSpec.ofChange signOutsSpec)) signOutsCard

/-- THE TIED CARD OF 'incognitolaw09.SignFits'. -/
def signFitsCard : Claim7 := { stood := { row := signFitsRow, standIns := [], harness := (true, "1b7956bb1dce756faac991384d7f0ad09923a5cec0b00b6cce504aa0f5d82d69"), looks := false }, kinds := [], alts := [], laidByText := true, laidKinds := [.data, .data], laidTests := true, laidLooks := .later }
def SignFitsCardSaid : Prop := Claim7.holds Tryd.pinned (.plain (OpenSpec.ofChange signFitsSpec)) signFitsCard

/-- THE TIED CARD OF 'incognitolaw09.SignWords'. -/
def signWordsCard : Claim7 := { stood := { row := signWordsRow, standIns := [], harness := (true, "1b7956bb1dce756faac991384d7f0ad09923a5cec0b00b6cce504aa0f5d82d69"), looks := false }, kinds := [], alts := [], laidByText := true, laidKinds := [.data, .data, .widerDeep, .widerDeep], laidTests := true, laidLooks := .later }
def SignWordsCardSaid : Prop := Claim7.holds Tryd.pinned (.plain (OpenSpec.ofChange signWordsSpec)) signWordsCard

/-- THE SECOND FORM's CARD OF 'incognitolaw09.SignTakes'. -/
def signTakesUptoCard : Claim7 := { stood := { row := signTakesUptoRow, standIns := [], harness := (true, "1b7956bb1dce756faac991384d7f0ad09923a5cec0b00b6cce504aa0f5d82d69"), looks := false }, kinds := [], alts := [], laidByText := true, laidKinds := [.data, .data], laidTests := true, laidLooks := .later }
def SignTakesUptoCardSaid : Prop := Claim7.holds Tryd.pinned (.plain (OpenSpec.upto signTakesSpec)) signTakesUptoCard

/-- THE SECOND FORM's CARD OF 'incognitolaw09.SignArgs'. -/
def signArgsUptoCard : Claim7 := { stood := { row := signArgsUptoRow, standIns := [], harness := (true, "1b7956bb1dce756faac991384d7f0ad09923a5cec0b00b6cce504aa0f5d82d69"), looks := false }, kinds := [], alts := [], laidByText := true, laidKinds := [.data, .data], laidTests := true, laidLooks := .later }
def SignArgsUptoCardSaid : Prop := Claim7.holds Tryd.pinned (.plain (OpenSpec.upto signArgsSpec)) signArgsUptoCard

/-- THE SECOND FORM's CARD OF 'incognitolaw09.SignOuts'. -/
def signOutsUptoCard : Claim7 := { stood := { row := signOutsUptoRow, standIns := [], harness := (true, "1b7956bb1dce756faac991384d7f0ad09923a5cec0b00b6cce504aa0f5d82d69"), looks := false }, kinds := [], alts := [], laidByText := true, laidKinds := [.data, .data], laidTests := true, laidLooks := .later }
def SignOutsUptoCardSaid : Prop := Claim7.holds Tryd.pinned (.plain (OpenSpec.upto signOutsSpec)) signOutsUptoCard

/-- THE SECOND FORM's CARD OF 'incognitolaw09.SignFits'. -/
def signFitsUptoCard : Claim7 := { stood := { row := signFitsUptoRow, standIns := [], harness := (true, "1b7956bb1dce756faac991384d7f0ad09923a5cec0b00b6cce504aa0f5d82d69"), looks := false }, kinds := [], alts := [], laidByText := true, laidKinds := [.data, .data], laidTests := true, laidLooks := .later }
def SignFitsUptoCardSaid : Prop := Claim7.holds Tryd.pinned (.plain (OpenSpec.upto signFitsSpec)) signFitsUptoCard

/-- THE SECOND FORM's CARD OF 'incognitolaw09.SignWords'. -/
def signWordsUptoCard : Claim7 := { stood := { row := signWordsUptoRow, standIns := [], harness := (true, "1b7956bb1dce756faac991384d7f0ad09923a5cec0b00b6cce504aa0f5d82d69"), looks := false }, kinds := [], alts := [], laidByText := true, laidKinds := [.data, .data, .widerDeep, .widerDeep], laidTests := true, laidLooks := .later }
def SignWordsUptoCardSaid : Prop := Claim7.holds Tryd.pinned (.plain (OpenSpec.upto signWordsSpec)) signWordsUptoCard
end Rows
end Go.Proofs.YtaeinncalendfaaDoor
