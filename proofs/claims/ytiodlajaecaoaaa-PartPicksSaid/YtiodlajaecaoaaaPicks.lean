/- Picks: what is told, and how great it may be. Own text of this session. -/
import Derived.Test.YtiodlajaecaoaaaFresh
import Derived.Test.YtiodlajaecaoaaaPair
set_option linter.unusedVariables false
set_option linter.unusedSimpArgs false
namespace Go.Inc
open Go Go.Abs
def pickO (ops : List Opr) (i : Int) : Option Opr := bif decide (0 ≤ i) && decide (i < (ops.length : Int)) then ops[i.toNat]? else none
def pickL (ops : List Opr) (pl : List Int) : List Opr := pl.filterMap (pickO ops)
theorem pickL_len (ops : List Opr) (pl : List Int) : (pickL ops pl).length ≤ pl.length := List.length_filterMap_le _ _
theorem pickL_succ {ops : List Opr} {pl : List Int} {i : Nat} {z : Int} (h : pl[i]? = some z) : pickL ops (pl.take (i + 1)) = pickL ops (pl.take i) ++ (pickO ops z).toList := by
  unfold pickL
  rw [List.take_add_one, h, List.filterMap_append]
  show _ ++ List.filterMap (pickO ops) [z] = _
  cases hz : pickO ops z <;> simp [List.filterMap_cons, hz]
theorem pick_mem {ops : List Opr} {pl : List Int} {o : Opr} (h : o ∈ pickL ops pl) : o ∈ ops := by
  obtain ⟨i, _, e⟩ := List.mem_filterMap.1 h
  unfold pickO at e
  cases hd : (decide (0 ≤ i) && decide (i < (ops.length : Int))) with
  | false => rw [hd] at e; cases e
  | true => rw [hd] at e; exact List.mem_of_getElem? e
def okPick (ops : List Opr) (pl : List Int) : Bool := decide (ops.length ≤ 1000) && decide (pl.length ≤ 1000)
def okSameW (a b : List Val) : Bool := decide (a.length ≤ maxLen) && decide (b.length ≤ maxLen)
def okOneW (a b : Opr) : Bool := (decide (a.2.2.2.2.1.length ≤ maxLen) && decide (b.2.2.2.2.1.length ≤ maxLen)) && (decide (a.2.2.2.2.2.1.length ≤ maxLen) && decide (b.2.2.2.2.2.1.length ≤ maxLen))
def okOpsW (a b : List Opr) : Bool := (decide (a.length ≤ 1000) && decide (b.length ≤ 1000)) && (a.all fun o => okOneW o o) && (b.all fun o => okOneW o o)
end Go.Inc
