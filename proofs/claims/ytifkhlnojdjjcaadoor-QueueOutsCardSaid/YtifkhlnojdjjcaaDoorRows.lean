/-
  NARROWER THAN 'FOR EVERY INPUT', by the rows' own cells (each row's printed sentence says how): QueuePlays: laid · QueueAll: laid · QueueOuts: laid.
  DERIVED. THE GIVEN ROWS OF THIS SEAT. 3 by the template 'for every input the law returns true; each argument reads behind the call as it read before'; 0 by the template 'total and deterministic' (their statements: YtifkhlnojdjjcaaDoorTotals.lean).
  GIVEN WITH THE SEED: the statements are not yours to turn. If you find one false, say at which input.
  Laid BY PROGRAM, IN A SANDBOX (cutbox-rows.mjs): the forced cells as the released guide's own fill.sh prints them over the translation df0565e5e5d87151… (all of the seat's roots in one cut). By AI agents, Wed Nov 11 2026. No macro, syntax, notation, axiom, sorry.
-/
import Derived.Test.YtifkhlnojdjjcaaDoorChecked
import GoSem.Claim
import GoSem.ClaimJoined
import GoSem.ClaimMapViews
import Derived.JoinedTies
import Derived.KernelRfl
namespace Go.Proofs.YtifkhlnojdjjcaaDoor
/- THE CELL 'sum', in the pinned program and in every row, IS THE sha256 OF THE DUMP (.gsa) THAT YtifkhlnojdjjcaaDoorProg.lean LOADS. Nothing in Lean hashes anything: it is a label: what it is worth is what the hold of that sum in a sandbox is worth. -/
noncomputable def Tryd.pinned : Pinned := { name := "ytifkhlnojdjjcaadoor", sum := "df0565e5e5d87151bb668068fc5d1f4647e7137a91b641aa3a07f24cdfc73341", checked := Tryd.checked }
namespace Rows
def none {H : Type} : Left H := { results := [], args := [] }

/- WHAT THE LISTED PACKAGE-LEVEL VARIABLES READ AS WHEN THE CALL BEGINS. Each datum BY PROGRAM (the guide's laid-datum.mjs) off the statement by which the dump's own 'gosem.cut.vars' lays the variable. In a bare row this is a premise. The card (YtifkhlnojdjjcaaDoorCards.lean) ties it to the program's text. -/
def laid_incognito_value_yes {H : Type} : DataW H := .agg [.lit (.int .i64 3), .lit (.int .i64 1), .lit (.string [])]
def laid_incognito_value_no {H : Type} : DataW H := .agg [.lit (.int .i64 3), .lit (.int .i64 0), .lit (.string [])]

/-- 'incognitolaw15.QueuePlays': WHATEVER THE INPUT: true; the input reads as it did. -/
def queuePlaysSpec : ChangeSpec := { name := "queuePlays", fn := fun _ => fun
  | [d1, d2] => { results := [.lit (.bool true)], args := [d1, d2] }
  | _ => none }
def queuePlaysRow : OpenClaim := { program := "ytifkhlnojdjjcaadoor", sum := "df0565e5e5d87151bb668068fc5d1f4647e7137a91b641aa3a07f24cdfc73341", func := "incognito/incognitolaw15.QueuePlays", spec := "queuePlays", unfollowed := true, recurses := true, named := ["incognito/value.yes", "incognito/value.no"], apart := false, laid := [("incognito/value.yes", laid_incognito_value_yes), ("incognito/value.no", laid_incognito_value_no)] }
def QueuePlaysSaid : Prop := queuePlaysRow.holds Tryd.pinned (OpenSpec.ofChange queuePlaysSpec)

/-- ITS FALSE NEIGHBOUR: 'it returns false'. Refute it at one input. -/
def queuePlaysWrong : ChangeSpec := { name := "queuePlays", fn := fun _ => fun
  | [d1, d2] => { results := [.lit (.bool false)], args := [d1, d2] }
  | _ => none }
def QueuePlaysWrongFalsely : Prop := queuePlaysRow.holds Tryd.pinned (OpenSpec.ofChange queuePlaysWrong)

/-- 'incognitolaw15.QueueAll': WHATEVER THE INPUT: true; the input reads as it did. -/
def queueAllSpec : ChangeSpec := { name := "queueAll", fn := fun _ => fun
  | [d] => { results := [.lit (.bool true)], args := [d] }
  | _ => none }
def queueAllRow : OpenClaim := { program := "ytifkhlnojdjjcaadoor", sum := "df0565e5e5d87151bb668068fc5d1f4647e7137a91b641aa3a07f24cdfc73341", func := "incognito/incognitolaw15.QueueAll", spec := "queueAll", unfollowed := true, recurses := true, named := ["incognito/value.yes", "incognito/value.no"], apart := false, laid := [("incognito/value.yes", laid_incognito_value_yes), ("incognito/value.no", laid_incognito_value_no)] }
def QueueAllSaid : Prop := queueAllRow.holds Tryd.pinned (OpenSpec.ofChange queueAllSpec)

/-- ITS FALSE NEIGHBOUR: 'it returns false'. Refute it at one input. -/
def queueAllWrong : ChangeSpec := { name := "queueAll", fn := fun _ => fun
  | [d] => { results := [.lit (.bool false)], args := [d] }
  | _ => none }
def QueueAllWrongFalsely : Prop := queueAllRow.holds Tryd.pinned (OpenSpec.ofChange queueAllWrong)

/-- 'incognitolaw15.QueueOuts': WHATEVER THE INPUT: true; the input reads as it did. -/
def queueOutsSpec : ChangeSpec := { name := "queueOuts", fn := fun _ => fun
  | [d1, d2] => { results := [.lit (.bool true)], args := [d1, d2] }
  | _ => none }
def queueOutsRow : OpenClaim := { program := "ytifkhlnojdjjcaadoor", sum := "df0565e5e5d87151bb668068fc5d1f4647e7137a91b641aa3a07f24cdfc73341", func := "incognito/incognitolaw15.QueueOuts", spec := "queueOuts", unfollowed := true, recurses := true, named := ["incognito/value.yes", "incognito/value.no"], apart := false, laid := [("incognito/value.yes", laid_incognito_value_yes), ("incognito/value.no", laid_incognito_value_no)] }
def QueueOutsSaid : Prop := queueOutsRow.holds Tryd.pinned (OpenSpec.ofChange queueOutsSpec)

/-- ITS FALSE NEIGHBOUR: 'it returns false'. Refute it at one input. -/
def queueOutsWrong : ChangeSpec := { name := "queueOuts", fn := fun _ => fun
  | [d1, d2] => { results := [.lit (.bool false)], args := [d1, d2] }
  | _ => none }
def QueueOutsWrongFalsely : Prop := queueOutsRow.holds Tryd.pinned (OpenSpec.ofChange queueOutsWrong)

/- THE SECOND FORM. 'bulk': how many values and letters a reading holds, each counted each time it is reached (what is shared counts as often as it is met; a slice's spare places count too). A statement '..UptoSaid' is the law's where the arguments, and the package variables that the reading takes, are together of bulk at most 1048576: NARROWER than '..Said'. Prove '..Said' where nothing that the law and all that it calls make is longer than what came in: it says more and counts as full. Else prove '..UptoSaid'. A law counts once. -/
mutual
def uptoBulk {H : Type} : DataW H → Nat
  | .lit (.string bytes) => bytes.length + 1
  | .lit _ => 1
  | .nil => 1
  | .ptr d => uptoBulk d + 1
  | .slice elems spare => uptoBulkAll elems + uptoBulkAll spare + 1
  | .agg parts => uptoBulkAll parts + 1
  | .iface _ d => uptoBulk d + 1
  | .map entries => uptoBulkEntries entries + 1
  | .held _ => 1
def uptoBulkAll {H : Type} : List (DataW H) → Nat
  | [] => 0
  | d :: r => uptoBulk d + uptoBulkAll r
def uptoBulkEntries {H : Type} : List (Lit × DataW H) → Nat
  | [] => 0
  | x :: r => uptoBulkEntry x + uptoBulkEntries r
def uptoBulkEntry {H : Type} : Lit × DataW H → Nat
  | (.string bytes, d) => bytes.length + uptoBulk d + 1
  | (_, d) => uptoBulk d + 1
 end
def uptoSmall : (H : Type) → List (DataW H) → Bool := fun _ ds => decide (uptoBulkAll ds ≤ 1048576)
def OpenSpec.upto (s : _root_.Go.ChangeSpec) : _root_.Go.OpenSpec := { _root_.Go.OpenSpec.ofChange s with cond := some uptoSmall }

/-- 'incognitolaw15.QueuePlays', WHERE WHAT IT READS IS OF BULK AT MOST 1048576: true; the input reads as it did. -/
def queuePlaysUptoRow : OpenClaim := { program := "ytifkhlnojdjjcaadoor", sum := "df0565e5e5d87151bb668068fc5d1f4647e7137a91b641aa3a07f24cdfc73341", func := "incognito/incognitolaw15.QueuePlays", spec := "queuePlays", unfollowed := true, recurses := true, named := ["incognito/value.yes", "incognito/value.no"], apart := false, laid := [("incognito/value.yes", laid_incognito_value_yes), ("incognito/value.no", laid_incognito_value_no)], narrowed := true }
def QueuePlaysUptoSaid : Prop := queuePlaysUptoRow.holds Tryd.pinned (OpenSpec.upto queuePlaysSpec)

/-- 'incognitolaw15.QueueAll', WHERE WHAT IT READS IS OF BULK AT MOST 1048576: true; the input reads as it did. -/
def queueAllUptoRow : OpenClaim := { program := "ytifkhlnojdjjcaadoor", sum := "df0565e5e5d87151bb668068fc5d1f4647e7137a91b641aa3a07f24cdfc73341", func := "incognito/incognitolaw15.QueueAll", spec := "queueAll", unfollowed := true, recurses := true, named := ["incognito/value.yes", "incognito/value.no"], apart := false, laid := [("incognito/value.yes", laid_incognito_value_yes), ("incognito/value.no", laid_incognito_value_no)], narrowed := true }
def QueueAllUptoSaid : Prop := queueAllUptoRow.holds Tryd.pinned (OpenSpec.upto queueAllSpec)

/-- 'incognitolaw15.QueueOuts', WHERE WHAT IT READS IS OF BULK AT MOST 1048576: true; the input reads as it did. -/
def queueOutsUptoRow : OpenClaim := { program := "ytifkhlnojdjjcaadoor", sum := "df0565e5e5d87151bb668068fc5d1f4647e7137a91b641aa3a07f24cdfc73341", func := "incognito/incognitolaw15.QueueOuts", spec := "queueOuts", unfollowed := true, recurses := true, named := ["incognito/value.yes", "incognito/value.no"], apart := false, laid := [("incognito/value.yes", laid_incognito_value_yes), ("incognito/value.no", laid_incognito_value_no)], narrowed := true }
def QueueOutsUptoSaid : Prop := queueOutsUptoRow.holds Tryd.pinned (OpenSpec.upto queueOutsSpec)

end Rows
end Go.Proofs.YtifkhlnojdjjcaaDoor
