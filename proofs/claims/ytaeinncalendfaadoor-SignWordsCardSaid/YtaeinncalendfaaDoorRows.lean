/-
  NARROWER THAN 'FOR EVERY INPUT', by the rows' own cells (each row's printed sentence says how): SignTakes: laid · SignArgs: laid · SignOuts: laid · SignFits: laid · SignWords: laid.
  DERIVED. THE GIVEN ROWS OF THIS SEAT. 5 by the template 'for every input the law returns true; each argument reads behind the call as it read before'; 0 by the template 'total and deterministic' (their statements: YtaeinncalendfaaDoorTotals.lean).
  GIVEN WITH THE SEED: the statements are not yours to turn. If you find one false, say at which input.
  Laid BY PROGRAM, IN A SANDBOX (cutbox-rows.mjs): the forced cells as the released guide's own fill.sh prints them over the translation 881223c5199d646f… (all of the seat's roots in one cut). By AI agents, Wed Nov 11 2026. No macro, syntax, notation, axiom, sorry.
-/
import Derived.Test.YtaeinncalendfaaDoorChecked
import GoSem.Claim
import GoSem.ClaimJoined
import GoSem.ClaimMapViews
import Derived.JoinedTies
import Derived.KernelRfl
namespace Go.Proofs.YtaeinncalendfaaDoor
/- THE CELL 'sum', in the pinned program and in every row, IS THE sha256 OF THE DUMP (.gsa) THAT YtaeinncalendfaaDoorProg.lean LOADS. Nothing in Lean hashes anything: it is a label: what it is worth is what the hold of that sum in a sandbox is worth. -/
noncomputable def Tryd.pinned : Pinned := { name := "ytaeinncalendfaadoor", sum := "881223c5199d646f7496afd616ac6d93e513ef66f8e64d6c77d5d911d210c27b", checked := Tryd.checked }
namespace Rows
def none {H : Type} : Left H := { results := [], args := [] }

/- WHAT THE LISTED PACKAGE-LEVEL VARIABLES READ AS WHEN THE CALL BEGINS. Each datum BY PROGRAM (the guide's laid-datum.mjs) off the statement by which the dump's own 'gosem.cut.vars' lays the variable. In a bare row this is a premise. The card (YtaeinncalendfaaDoorCards.lean) ties it to the program's text. -/
def laid_incognito_value_yes {H : Type} : DataW H := .agg [.lit (.int .i64 3), .lit (.int .i64 1), .lit (.string [])]
def laid_incognito_value_no {H : Type} : DataW H := .agg [.lit (.int .i64 3), .lit (.int .i64 0), .lit (.string [])]
def laid_incognito_sign_models {H : Type} : DataW H := .agg [.lit (.string []), .lit (.string [114, 101, 103]), .lit (.string [99, 97, 115]), .lit (.string [115, 101, 116]), .lit (.string [109, 97, 112]), .lit (.string [102, 105, 102, 111]), .lit (.string [115, 116, 97, 99, 107]), .lit (.string [108, 111, 99, 107]), .lit (.string [99, 111, 117, 110, 116]), .lit (.string [109, 97, 120]), .lit (.string [111, 109, 97, 112])]
def laid_incognito_sign_ops {H : Type} : DataW H := .agg [.lit (.string []), .lit (.string [119, 114, 105, 116, 101]), .lit (.string [114, 101, 97, 100]), .lit (.string [115, 119, 97, 112]), .lit (.string [97, 100, 100]), .lit (.string [100, 101, 108]), .lit (.string [104, 97, 115]), .lit (.string [112, 117, 116]), .lit (.string [103, 101, 116]), .lit (.string [112, 117, 115, 104]), .lit (.string [112, 111, 112]), .lit (.string [116, 97, 107, 101]), .lit (.string [102, 114, 101, 101]), .lit (.string [115, 99, 97, 110])]

/-- 'incognitolaw09.SignTakes': WHATEVER THE INPUT: true; the input reads as it did. -/
def signTakesSpec : ChangeSpec := { name := "signTakes", fn := fun _ => fun
  | [d1, d2] => { results := [.lit (.bool true)], args := [d1, d2] }
  | _ => none }
def signTakesRow : OpenClaim := { program := "ytaeinncalendfaadoor", sum := "881223c5199d646f7496afd616ac6d93e513ef66f8e64d6c77d5d911d210c27b", func := "incognito/incognitolaw09.SignTakes", spec := "signTakes", unfollowed := true, recurses := true, named := ["incognito/value.yes", "incognito/value.no"], apart := false, laid := [("incognito/value.yes", laid_incognito_value_yes), ("incognito/value.no", laid_incognito_value_no)] }
def SignTakesSaid : Prop := signTakesRow.holds Tryd.pinned (OpenSpec.ofChange signTakesSpec)

/-- ITS FALSE NEIGHBOUR: 'it returns false'. Refute it at one input. -/
def signTakesWrong : ChangeSpec := { name := "signTakes", fn := fun _ => fun
  | [d1, d2] => { results := [.lit (.bool false)], args := [d1, d2] }
  | _ => none }
def SignTakesWrongFalsely : Prop := signTakesRow.holds Tryd.pinned (OpenSpec.ofChange signTakesWrong)

/-- 'incognitolaw09.SignArgs': WHATEVER THE INPUT: true; the input reads as it did. -/
def signArgsSpec : ChangeSpec := { name := "signArgs", fn := fun _ => fun
  | [d1, d2] => { results := [.lit (.bool true)], args := [d1, d2] }
  | _ => none }
def signArgsRow : OpenClaim := { program := "ytaeinncalendfaadoor", sum := "881223c5199d646f7496afd616ac6d93e513ef66f8e64d6c77d5d911d210c27b", func := "incognito/incognitolaw09.SignArgs", spec := "signArgs", unfollowed := true, recurses := true, named := ["incognito/value.yes", "incognito/value.no"], apart := false, laid := [("incognito/value.yes", laid_incognito_value_yes), ("incognito/value.no", laid_incognito_value_no)] }
def SignArgsSaid : Prop := signArgsRow.holds Tryd.pinned (OpenSpec.ofChange signArgsSpec)

/-- ITS FALSE NEIGHBOUR: 'it returns false'. Refute it at one input. -/
def signArgsWrong : ChangeSpec := { name := "signArgs", fn := fun _ => fun
  | [d1, d2] => { results := [.lit (.bool false)], args := [d1, d2] }
  | _ => none }
def SignArgsWrongFalsely : Prop := signArgsRow.holds Tryd.pinned (OpenSpec.ofChange signArgsWrong)

/-- 'incognitolaw09.SignOuts': WHATEVER THE INPUT: true; the input reads as it did. -/
def signOutsSpec : ChangeSpec := { name := "signOuts", fn := fun _ => fun
  | [d] => { results := [.lit (.bool true)], args := [d] }
  | _ => none }
def signOutsRow : OpenClaim := { program := "ytaeinncalendfaadoor", sum := "881223c5199d646f7496afd616ac6d93e513ef66f8e64d6c77d5d911d210c27b", func := "incognito/incognitolaw09.SignOuts", spec := "signOuts", unfollowed := true, recurses := true, named := ["incognito/value.yes", "incognito/value.no"], apart := false, laid := [("incognito/value.yes", laid_incognito_value_yes), ("incognito/value.no", laid_incognito_value_no)] }
def SignOutsSaid : Prop := signOutsRow.holds Tryd.pinned (OpenSpec.ofChange signOutsSpec)

/-- ITS FALSE NEIGHBOUR: 'it returns false'. Refute it at one input. -/
def signOutsWrong : ChangeSpec := { name := "signOuts", fn := fun _ => fun
  | [d] => { results := [.lit (.bool false)], args := [d] }
  | _ => none }
def SignOutsWrongFalsely : Prop := signOutsRow.holds Tryd.pinned (OpenSpec.ofChange signOutsWrong)

/-- 'incognitolaw09.SignFits': WHATEVER THE INPUT: true; the input reads as it did. -/
def signFitsSpec : ChangeSpec := { name := "signFits", fn := fun _ => fun
  | [d] => { results := [.lit (.bool true)], args := [d] }
  | _ => none }
def signFitsRow : OpenClaim := { program := "ytaeinncalendfaadoor", sum := "881223c5199d646f7496afd616ac6d93e513ef66f8e64d6c77d5d911d210c27b", func := "incognito/incognitolaw09.SignFits", spec := "signFits", unfollowed := true, recurses := true, named := ["incognito/value.yes", "incognito/value.no"], apart := false, laid := [("incognito/value.yes", laid_incognito_value_yes), ("incognito/value.no", laid_incognito_value_no)] }
def SignFitsSaid : Prop := signFitsRow.holds Tryd.pinned (OpenSpec.ofChange signFitsSpec)

/-- ITS FALSE NEIGHBOUR: 'it returns false'. Refute it at one input. -/
def signFitsWrong : ChangeSpec := { name := "signFits", fn := fun _ => fun
  | [d] => { results := [.lit (.bool false)], args := [d] }
  | _ => none }
def SignFitsWrongFalsely : Prop := signFitsRow.holds Tryd.pinned (OpenSpec.ofChange signFitsWrong)

/-- 'incognitolaw09.SignWords': WHATEVER THE INPUT: true; the input reads as it did. -/
def signWordsSpec : ChangeSpec := { name := "signWords", fn := fun _ => fun
  | [d1, d2] => { results := [.lit (.bool true)], args := [d1, d2] }
  | _ => none }
def signWordsRow : OpenClaim := { program := "ytaeinncalendfaadoor", sum := "881223c5199d646f7496afd616ac6d93e513ef66f8e64d6c77d5d911d210c27b", func := "incognito/incognitolaw09.SignWords", spec := "signWords", unfollowed := true, recurses := true, named := ["incognito/value.yes", "incognito/value.no", "incognito/sign.models", "incognito/sign.ops"], apart := false, laid := [("incognito/value.yes", laid_incognito_value_yes), ("incognito/value.no", laid_incognito_value_no), ("incognito/sign.models", laid_incognito_sign_models), ("incognito/sign.ops", laid_incognito_sign_ops)] }
def SignWordsSaid : Prop := signWordsRow.holds Tryd.pinned (OpenSpec.ofChange signWordsSpec)

/-- ITS FALSE NEIGHBOUR: 'it returns false'. Refute it at one input. -/
def signWordsWrong : ChangeSpec := { name := "signWords", fn := fun _ => fun
  | [d1, d2] => { results := [.lit (.bool false)], args := [d1, d2] }
  | _ => none }
def SignWordsWrongFalsely : Prop := signWordsRow.holds Tryd.pinned (OpenSpec.ofChange signWordsWrong)

/- THE SECOND FORM. 'bulk': how many values and letters a reading holds, each counted each time it is reached (what is shared counts as often as it is met; a slice's spare places count too). A statement '..UptoSaid' is the law's where the arguments, and the package variables that the reading takes, are together of bulk at most 1048576: NARROWER than '..Said'. Prove '..Said' where nothing that the law and all that it calls make is longer than what came in: it says more and counts as full. Else prove '..UptoSaid'. A law counts once. -/
mutual
def uptoBulk {H : Type} : DataW H → Nat
  | .lit (.string bytes) => bytes.length + 1
  | .lit _ => 1
  | .nil => 1
  | .ptr d => uptoBulk d + 1
  | .slice elems spare => uptoBulkAll elems + uptoBulkAll spare + 1
  | .agg parts => uptoBulkAll parts + 1
  | .iface _ d => uptoBulk d + 1
  | .map entries => uptoBulkEntries entries + 1
  | .held _ => 1
def uptoBulkAll {H : Type} : List (DataW H) → Nat
  | [] => 0
  | d :: r => uptoBulk d + uptoBulkAll r
def uptoBulkEntries {H : Type} : List (Lit × DataW H) → Nat
  | [] => 0
  | x :: r => uptoBulkEntry x + uptoBulkEntries r
def uptoBulkEntry {H : Type} : Lit × DataW H → Nat
  | (.string bytes, d) => bytes.length + uptoBulk d + 1
  | (_, d) => uptoBulk d + 1
 end
def uptoSmall : (H : Type) → List (DataW H) → Bool := fun _ ds => decide (uptoBulkAll ds ≤ 1048576)
def OpenSpec.upto (s : _root_.Go.ChangeSpec) : _root_.Go.OpenSpec := { _root_.Go.OpenSpec.ofChange s with cond := some uptoSmall }

/-- 'incognitolaw09.SignTakes', WHERE WHAT IT READS IS OF BULK AT MOST 1048576: true; the input reads as it did. -/
def signTakesUptoRow : OpenClaim := { program := "ytaeinncalendfaadoor", sum := "881223c5199d646f7496afd616ac6d93e513ef66f8e64d6c77d5d911d210c27b", func := "incognito/incognitolaw09.SignTakes", spec := "signTakes", unfollowed := true, recurses := true, named := ["incognito/value.yes", "incognito/value.no"], apart := false, laid := [("incognito/value.yes", laid_incognito_value_yes), ("incognito/value.no", laid_incognito_value_no)], narrowed := true }
def SignTakesUptoSaid : Prop := signTakesUptoRow.holds Tryd.pinned (OpenSpec.upto signTakesSpec)

/-- 'incognitolaw09.SignArgs', WHERE WHAT IT READS IS OF BULK AT MOST 1048576: true; the input reads as it did. -/
def signArgsUptoRow : OpenClaim := { program := "ytaeinncalendfaadoor", sum := "881223c5199d646f7496afd616ac6d93e513ef66f8e64d6c77d5d911d210c27b", func := "incognito/incognitolaw09.SignArgs", spec := "signArgs", unfollowed := true, recurses := true, named := ["incognito/value.yes", "incognito/value.no"], apart := false, laid := [("incognito/value.yes", laid_incognito_value_yes), ("incognito/value.no", laid_incognito_value_no)], narrowed := true }
def SignArgsUptoSaid : Prop := signArgsUptoRow.holds Tryd.pinned (OpenSpec.upto signArgsSpec)

/-- 'incognitolaw09.SignOuts', WHERE WHAT IT READS IS OF BULK AT MOST 1048576: true; the input reads as it did. -/
def signOutsUptoRow : OpenClaim := { program := "ytaeinncalendfaadoor", sum := "881223c5199d646f7496afd616ac6d93e513ef66f8e64d6c77d5d911d210c27b", func := "incognito/incognitolaw09.SignOuts", spec := "signOuts", unfollowed := true, recurses := true, named := ["incognito/value.yes", "incognito/value.no"], apart := false, laid := [("incognito/value.yes", laid_incognito_value_yes), ("incognito/value.no", laid_incognito_value_no)], narrowed := true }
def SignOutsUptoSaid : Prop := signOutsUptoRow.holds Tryd.pinned (OpenSpec.upto signOutsSpec)

/-- 'incognitolaw09.SignFits', WHERE WHAT IT READS IS OF BULK AT MOST 1048576: true; the input reads as it did. -/
def signFitsUptoRow : OpenClaim := { program := "ytaeinncalendfaadoor", sum := "881223c5199d646f7496afd616ac6d93e513ef66f8e64d6c77d5d911d210c27b", func := "incognito/incognitolaw09.SignFits", spec := "signFits", unfollowed := true, recurses := true, named := ["incognito/value.yes", "incognito/value.no"], apart := false, laid := [("incognito/value.yes", laid_incognito_value_yes), ("incognito/value.no", laid_incognito_value_no)], narrowed := true }
def SignFitsUptoSaid : Prop := signFitsUptoRow.holds Tryd.pinned (OpenSpec.upto signFitsSpec)

/-- 'incognitolaw09.SignWords', WHERE WHAT IT READS IS OF BULK AT MOST 1048576: true; the input reads as it did. -/
def signWordsUptoRow : OpenClaim := { program := "ytaeinncalendfaadoor", sum := "881223c5199d646f7496afd616ac6d93e513ef66f8e64d6c77d5d911d210c27b", func := "incognito/incognitolaw09.SignWords", spec := "signWords", unfollowed := true, recurses := true, named := ["incognito/value.yes", "incognito/value.no", "incognito/sign.models", "incognito/sign.ops"], apart := false, laid := [("incognito/value.yes", laid_incognito_value_yes), ("incognito/value.no", laid_incognito_value_no), ("incognito/sign.models", laid_incognito_sign_models), ("incognito/sign.ops", laid_incognito_sign_ops)], narrowed := true }
def SignWordsUptoSaid : Prop := signWordsUptoRow.holds Tryd.pinned (OpenSpec.upto signWordsSpec)

end Rows
end Go.Proofs.YtaeinncalendfaaDoor
