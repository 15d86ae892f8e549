/-
  DERIVED. GIVEN WITH THE SEED: THE CARDS: each row of YtmodjpjeepobpaaDoorRows.lean that lists a variable, with what it lists TIED to the program's text (the seventh form; the later family's looks); each row that meets fmt, with fmt's text TOLD by the authors' own Lean function (tested against real Go, not proved from fmt's source: count such statements apart). THE CARD IS WHAT COUNTS. Prove the row's statement (the work); the ties are given (YtmodjpjeepobpaaDoorTie.lean); close each card by the builder's one call (the guide's Derived/Test/ToyasCard.lean, 'card_holds'). Laid BY PROGRAM, IN A SANDBOX (cutbox-door.mjs). By AI agents, Wed Nov 11 2026. No macro, syntax, notation, axiom, sorry.
-/
import Derived.Test.YtmodjpjeepobpaaDoorRows
import GoSem.ClaimSeven
namespace Go.Proofs.YtmodjpjeepobpaaDoor
namespace Rows

/-- THE TIED CARD OF 'incognitolaw13.RegPlays'. -/
def regPlaysCard : Claim7 := { stood := { row := regPlaysRow, standIns := [], harness := (true, "479fc5016390fb5bc40c969d7dd11dc0a1fd5dfd638a78e06b4226a7f8a8cfca"), looks := false }, kinds := [], alts := [], laidByText := true, laidKinds := [.data, .data, .data], laidTests := true, laidLooks := .later }
def RegPlaysCardSaid : Prop := Claim7.holds Tryd.pinned (.plain (OpenSpec.ofChange regPlaysSpec)) regPlaysCard

/-- THE TIED CARD OF 'incognitolaw13.RegRises'. -/
def regRisesCard : Claim7 := { stood := { row := regRisesRow, standIns := [], harness := (true, "479fc5016390fb5bc40c969d7dd11dc0a1fd5dfd638a78e06b4226a7f8a8cfca"), looks := false }, kinds := [], alts := [], laidByText := true, laidKinds := [.data, .data, .data], laidTests := true, laidLooks := .later }
def RegRisesCardSaid : Prop := Claim7.holds Tryd.pinned (.plain (OpenSpec.ofChange regRisesSpec)) regRisesCard

/-- THE TIED CARD OF 'incognitolaw13.RegOuts'. -/
def regOutsCard : Claim7 := { stood := { row := regOutsRow, standIns := [], harness := (true, "479fc5016390fb5bc40c969d7dd11dc0a1fd5dfd638a78e06b4226a7f8a8cfca"), looks := false }, kinds := [], alts := [], laidByText := true, laidKinds := [.data, .data, .data], laidTests := true, laidLooks := .later }
def RegOutsCardSaid : Prop := Claim7.holds Tryd.pinned (.plain (OpenSpec.ofChange regOutsSpec)) regOutsCard

/-- THE SECOND FORM's CARD OF 'incognitolaw13.RegPlays'. -/
def regPlaysUptoCard : Claim7 := { stood := { row := regPlaysUptoRow, standIns := [], harness := (true, "479fc5016390fb5bc40c969d7dd11dc0a1fd5dfd638a78e06b4226a7f8a8cfca"), looks := false }, kinds := [], alts := [], laidByText := true, laidKinds := [.data, .data, .data], laidTests := true, laidLooks := .later }
def RegPlaysUptoCardSaid : Prop := Claim7.holds Tryd.pinned (.plain (OpenSpec.upto regPlaysSpec)) regPlaysUptoCard

/-- THE SECOND FORM's CARD OF 'incognitolaw13.RegRises'. -/
def regRisesUptoCard : Claim7 := { stood := { row := regRisesUptoRow, standIns := [], harness := (true, "479fc5016390fb5bc40c969d7dd11dc0a1fd5dfd638a78e06b4226a7f8a8cfca"), looks := false }, kinds := [], alts := [], laidByText := true, laidKinds := [.data, .data, .data], laidTests := true, laidLooks := .later }
def RegRisesUptoCardSaid : Prop := Claim7.holds Tryd.pinned (.plain (OpenSpec.upto regRisesSpec)) regRisesUptoCard

/-- THE SECOND FORM's CARD OF 'incognitolaw13.RegOuts'. -/
def regOutsUptoCard : Claim7 := { stood := { row := regOutsUptoRow, standIns := [], harness := (true, "479fc5016390fb5bc40c969d7dd11dc0a1fd5dfd638a78e06b4226a7f8a8cfca"), looks := false }, kinds := [], alts := [], laidByText := true, laidKinds := [.data, .data, .data], laidTests := true, laidLooks := .later }
def RegOutsUptoCardSaid : Prop := Claim7.holds Tryd.pinned (.plain (OpenSpec.upto regOutsSpec)) regOutsUptoCard
end Rows
end Go.Proofs.YtmodjpjeepobpaaDoor
