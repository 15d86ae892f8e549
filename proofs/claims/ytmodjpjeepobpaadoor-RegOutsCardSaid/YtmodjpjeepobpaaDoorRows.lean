/-
  NARROWER THAN 'FOR EVERY INPUT', by the rows' own cells (each row's printed sentence says how): RegPlays: laid · RegRises: laid · RegOuts: laid.
  DERIVED. THE GIVEN ROWS OF THIS SEAT. 3 by the template 'for every input the law returns true; each argument reads behind the call as it read before'; 0 by the template 'total and deterministic' (their statements: YtmodjpjeepobpaaDoorTotals.lean).
  GIVEN WITH THE SEED: the statements are not yours to turn. If you find one false, say at which input.
  Laid BY PROGRAM, IN A SANDBOX (cutbox-rows.mjs): the forced cells as the released guide's own fill.sh prints them over the translation d6b574bb805f3ffa… (all of the seat's roots in one cut). By AI agents, Wed Nov 11 2026. No macro, syntax, notation, axiom, sorry.
-/
import Derived.Test.YtmodjpjeepobpaaDoorChecked
import GoSem.Claim
import GoSem.ClaimJoined
import GoSem.ClaimMapViews
import Derived.JoinedTies
import Derived.KernelRfl
namespace Go.Proofs.YtmodjpjeepobpaaDoor
/- THE CELL 'sum', in the pinned program and in every row, IS THE sha256 OF THE DUMP (.gsa) THAT YtmodjpjeepobpaaDoorProg.lean LOADS. Nothing in Lean hashes anything: it is a label: what it is worth is what the hold of that sum in a sandbox is worth. -/
noncomputable def Tryd.pinned : Pinned := { name := "ytmodjpjeepobpaadoor", sum := "d6b574bb805f3ffa752ef59ddf4478498f651027159ef99c898ba8199834bb44", checked := Tryd.checked }
namespace Rows
def none {H : Type} : Left H := { results := [], args := [] }

/- WHAT THE LISTED PACKAGE-LEVEL VARIABLES READ AS WHEN THE CALL BEGINS. Each datum BY PROGRAM (the guide's laid-datum.mjs) off the statement by which the dump's own 'gosem.cut.vars' lays the variable. In a bare row this is a premise. The card (YtmodjpjeepobpaaDoorCards.lean) ties it to the program's text. -/
def laid_incognito_value_yes {H : Type} : DataW H := .agg [.lit (.int .i64 3), .lit (.int .i64 1), .lit (.string [])]
def laid_incognito_value_no {H : Type} : DataW H := .agg [.lit (.int .i64 3), .lit (.int .i64 0), .lit (.string [])]
def laid_incognito_reg_yes {H : Type} : DataW H := .agg [.lit (.int .i64 3), .lit (.int .i64 1), .lit (.string [])]

/-- 'incognitolaw13.RegPlays': WHATEVER THE INPUT: true; the input reads as it did. -/
def regPlaysSpec : ChangeSpec := { name := "regPlays", fn := fun _ => fun
  | [d1, d2] => { results := [.lit (.bool true)], args := [d1, d2] }
  | _ => none }
def regPlaysRow : OpenClaim := { program := "ytmodjpjeepobpaadoor", sum := "d6b574bb805f3ffa752ef59ddf4478498f651027159ef99c898ba8199834bb44", func := "incognito/incognitolaw13.RegPlays", spec := "regPlays", inPlace := ["internal/bytealg.abigen_runtime_cmpstring"], unfollowed := true, recurses := true, named := ["incognito/value.yes", "incognito/value.no", "incognito/reg.yes"], apart := false, laid := [("incognito/value.yes", laid_incognito_value_yes), ("incognito/value.no", laid_incognito_value_no), ("incognito/reg.yes", laid_incognito_reg_yes)] }
def RegPlaysSaid : Prop := regPlaysRow.holds Tryd.pinned (OpenSpec.ofChange regPlaysSpec)

/-- ITS FALSE NEIGHBOUR: 'it returns false'. Refute it at one input. -/
def regPlaysWrong : ChangeSpec := { name := "regPlays", fn := fun _ => fun
  | [d1, d2] => { results := [.lit (.bool false)], args := [d1, d2] }
  | _ => none }
def RegPlaysWrongFalsely : Prop := regPlaysRow.holds Tryd.pinned (OpenSpec.ofChange regPlaysWrong)

/-- 'incognitolaw13.RegRises': WHATEVER THE INPUT: true; the input reads as it did. -/
def regRisesSpec : ChangeSpec := { name := "regRises", fn := fun _ => fun
  | [d] => { results := [.lit (.bool true)], args := [d] }
  | _ => none }
def regRisesRow : OpenClaim := { program := "ytmodjpjeepobpaadoor", sum := "d6b574bb805f3ffa752ef59ddf4478498f651027159ef99c898ba8199834bb44", func := "incognito/incognitolaw13.RegRises", spec := "regRises", inPlace := ["internal/bytealg.abigen_runtime_cmpstring"], unfollowed := true, recurses := true, named := ["incognito/value.yes", "incognito/value.no", "incognito/reg.yes"], apart := false, laid := [("incognito/value.yes", laid_incognito_value_yes), ("incognito/value.no", laid_incognito_value_no), ("incognito/reg.yes", laid_incognito_reg_yes)] }
def RegRisesSaid : Prop := regRisesRow.holds Tryd.pinned (OpenSpec.ofChange regRisesSpec)

/-- ITS FALSE NEIGHBOUR: 'it returns false'. Refute it at one input. -/
def regRisesWrong : ChangeSpec := { name := "regRises", fn := fun _ => fun
  | [d] => { results := [.lit (.bool false)], args := [d] }
  | _ => none }
def RegRisesWrongFalsely : Prop := regRisesRow.holds Tryd.pinned (OpenSpec.ofChange regRisesWrong)

/-- 'incognitolaw13.RegOuts': WHATEVER THE INPUT: true; the input reads as it did. -/
def regOutsSpec : ChangeSpec := { name := "regOuts", fn := fun _ => fun
  | [d1, d2] => { results := [.lit (.bool true)], args := [d1, d2] }
  | _ => none }
def regOutsRow : OpenClaim := { program := "ytmodjpjeepobpaadoor", sum := "d6b574bb805f3ffa752ef59ddf4478498f651027159ef99c898ba8199834bb44", func := "incognito/incognitolaw13.RegOuts", spec := "regOuts", inPlace := ["internal/bytealg.abigen_runtime_cmpstring"], unfollowed := true, recurses := true, named := ["incognito/value.yes", "incognito/value.no", "incognito/reg.yes"], apart := false, laid := [("incognito/value.yes", laid_incognito_value_yes), ("incognito/value.no", laid_incognito_value_no), ("incognito/reg.yes", laid_incognito_reg_yes)] }
def RegOutsSaid : Prop := regOutsRow.holds Tryd.pinned (OpenSpec.ofChange regOutsSpec)

/-- ITS FALSE NEIGHBOUR: 'it returns false'. Refute it at one input. -/
def regOutsWrong : ChangeSpec := { name := "regOuts", fn := fun _ => fun
  | [d1, d2] => { results := [.lit (.bool false)], args := [d1, d2] }
  | _ => none }
def RegOutsWrongFalsely : Prop := regOutsRow.holds Tryd.pinned (OpenSpec.ofChange regOutsWrong)

/- THE SECOND FORM. 'bulk': how many values and letters a reading holds, each counted each time it is reached (what is shared counts as often as it is met; a slice's spare places count too). A statement '..UptoSaid' is the law's where the arguments, and the package variables that the reading takes, are together of bulk at most 1048576: NARROWER than '..Said'. Prove '..Said' where nothing that the law and all that it calls make is longer than what came in: it says more and counts as full. Else prove '..UptoSaid'. A law counts once. -/
mutual
def uptoBulk {H : Type} : DataW H → Nat
  | .lit (.string bytes) => bytes.length + 1
  | .lit _ => 1
  | .nil => 1
  | .ptr d => uptoBulk d + 1
  | .slice elems spare => uptoBulkAll elems + uptoBulkAll spare + 1
  | .agg parts => uptoBulkAll parts + 1
  | .iface _ d => uptoBulk d + 1
  | .map entries => uptoBulkEntries entries + 1
  | .held _ => 1
def uptoBulkAll {H : Type} : List (DataW H) → Nat
  | [] => 0
  | d :: r => uptoBulk d + uptoBulkAll r
def uptoBulkEntries {H : Type} : List (Lit × DataW H) → Nat
  | [] => 0
  | x :: r => uptoBulkEntry x + uptoBulkEntries r
def uptoBulkEntry {H : Type} : Lit × DataW H → Nat
  | (.string bytes, d) => bytes.length + uptoBulk d + 1
  | (_, d) => uptoBulk d + 1
 end
def uptoSmall : (H : Type) → List (DataW H) → Bool := fun _ ds => decide (uptoBulkAll ds ≤ 1048576)
def OpenSpec.upto (s : _root_.Go.ChangeSpec) : _root_.Go.OpenSpec := { _root_.Go.OpenSpec.ofChange s with cond := some uptoSmall }

/-- 'incognitolaw13.RegPlays', WHERE WHAT IT READS IS OF BULK AT MOST 1048576: true; the input reads as it did. -/
def regPlaysUptoRow : OpenClaim := { program := "ytmodjpjeepobpaadoor", sum := "d6b574bb805f3ffa752ef59ddf4478498f651027159ef99c898ba8199834bb44", func := "incognito/incognitolaw13.RegPlays", spec := "regPlays", inPlace := ["internal/bytealg.abigen_runtime_cmpstring"], unfollowed := true, recurses := true, named := ["incognito/value.yes", "incognito/value.no", "incognito/reg.yes"], apart := false, laid := [("incognito/value.yes", laid_incognito_value_yes), ("incognito/value.no", laid_incognito_value_no), ("incognito/reg.yes", laid_incognito_reg_yes)], narrowed := true }
def RegPlaysUptoSaid : Prop := regPlaysUptoRow.holds Tryd.pinned (OpenSpec.upto regPlaysSpec)

/-- 'incognitolaw13.RegRises', WHERE WHAT IT READS IS OF BULK AT MOST 1048576: true; the input reads as it did. -/
def regRisesUptoRow : OpenClaim := { program := "ytmodjpjeepobpaadoor", sum := "d6b574bb805f3ffa752ef59ddf4478498f651027159ef99c898ba8199834bb44", func := "incognito/incognitolaw13.RegRises", spec := "regRises", inPlace := ["internal/bytealg.abigen_runtime_cmpstring"], unfollowed := true, recurses := true, named := ["incognito/value.yes", "incognito/value.no", "incognito/reg.yes"], apart := false, laid := [("incognito/value.yes", laid_incognito_value_yes), ("incognito/value.no", laid_incognito_value_no), ("incognito/reg.yes", laid_incognito_reg_yes)], narrowed := true }
def RegRisesUptoSaid : Prop := regRisesUptoRow.holds Tryd.pinned (OpenSpec.upto regRisesSpec)

/-- 'incognitolaw13.RegOuts', WHERE WHAT IT READS IS OF BULK AT MOST 1048576: true; the input reads as it did. -/
def regOutsUptoRow : OpenClaim := { program := "ytmodjpjeepobpaadoor", sum := "d6b574bb805f3ffa752ef59ddf4478498f651027159ef99c898ba8199834bb44", func := "incognito/incognitolaw13.RegOuts", spec := "regOuts", inPlace := ["internal/bytealg.abigen_runtime_cmpstring"], unfollowed := true, recurses := true, named := ["incognito/value.yes", "incognito/value.no", "incognito/reg.yes"], apart := false, laid := [("incognito/value.yes", laid_incognito_value_yes), ("incognito/value.no", laid_incognito_value_no), ("incognito/reg.yes", laid_incognito_reg_yes)], narrowed := true }
def RegOutsUptoSaid : Prop := regOutsUptoRow.holds Tryd.pinned (OpenSpec.upto regOutsSpec)

end Rows
end Go.Proofs.YtmodjpjeepobpaaDoor
