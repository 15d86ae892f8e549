/- What the program's inner parts say, in plain words: orders merged. Own text of this session. -/
import Derived.Test.YtklcmhpgjcghkaaQueue
set_option linter.unusedVariables false
namespace Go.Inc
open Go Go.Abs

@[reducible] def OT : Ty := .pr VT (.pr (.int .i64) (.pr VT (.pr (.int .i64) (.pr (.sl VT) (.pr (.sl VT) (.pr (.int .i64) (.pr (.int .i64) .un)))))))
abbrev OpD : Type := Val × (Int × (Val × (Int × (List Val × (List Val × (Int × (Int × Unit)))))))
def callO (o : OpD) : Int := o.2.2.2.2.2.2.1
def retO (o : OpD) : Int := o.2.2.2.2.2.2.2.1
def noO : OpD := (none', 0, none', 0, [], [], 0, 0, ())
def atO (ops : List OpD) (i : Int) : OpD := ops.getD i.toNat noO
def aheadO (a b : OpD) : Bool := decide (0 ≤ retO a) && decide (retO a < callO b)
def inO (ops : List OpD) (i : Int) : Bool := decide (0 ≤ i) && decide (i < (ops.length : Int))
/-- All places are there, each once. -/
def apartL (n : Nat) : List Int → List Int → Bool
  | _, [] => true
  | seen, i :: l => (decide (0 ≤ i) && decide (i < (n : Int))) && (!(seen.contains i) && apartL n (i :: seen) l)
def apartGo (n : Int) (orders : List (List Int)) : Bool := apartL n.toNat [] orders.flatten
def okApart (n : Int) (orders : List (List Int)) : Bool := decide (0 ≤ n ∧ n ≤ 1000) && (decide (orders.length ≤ 1000) && orders.all fun l => decide (l.length ≤ 1000))
/-- What hasn't come is not ahead of i. -/
def aheadAt (k : Int) (ops : List OpD) (i : Int) : Bool := aheadO (atO ops k) (atO ops i)
def okAt (k : Int) (ops : List OpD) (i : Int) : Bool := inO ops k && inO ops i
def okIdx (l : List Int) (ops : List OpD) (i : Int) : Bool := decide (l.length ≤ 1000) && (inO ops i && l.all (inO ops))
def idxA (l : List Int) (ops : List OpD) (i : Int) : Int := match l.findIdx? (fun k => aheadAt k ops i) with | some j => (j : Int) | none => -1
def anyA (l : List Int) (ops : List OpD) (i : Int) : Bool := l.any fun k => aheadAt k ops i
def freeGo (i : Int) (n : Nat) (ops : List OpD) (left : List (List Int)) : Bool := !(left.any fun l => anyA l ops i)
def okFree (i : Int) (n : Nat) (ops : List OpD) (left : List (List Int)) : Bool := decide (n = left.length) && (decide (left.length ≤ 1000) && left.all fun l => okIdx l ops i)
/-- Which one is next: none is left (nothing); -1: none may. -/
def bestK (ops : List OpD) (left : List (List Int)) : Nat → List (List Int) → Int → Bool → Int × Bool
  | _, [], best, some' => (best, some')
  | k, [] :: r, best, some' => bestK ops left (k + 1) r best some'
  | k, (x :: _) :: r, best, _ => bestK ops left (k + 1) r (bif freeGo x left.length ops left && (decide (best < 0) || decide (callO (atO ops x) < callO (atO ops ((left.getD best.toNat []).getD 0 0)))) then (k : Int) else best) true
def mergeGo (ops : List OpD) : Nat → List (List Int) → List Int → List Int × (Bool × Unit)
  | 0, _, _ => ([], false, ())
  | f + 1, left, out => match bestK ops left 0 left (-1) false with
    | (best, some') => bif !some' then (out, true, ()) else bif decide (best < 0) then ([], false, ())
      else mergeGo ops f (left.set best.toNat ((left.getD best.toNat []).drop 1)) (out ++ [(left.getD best.toNat []).getD 0 0])
def mergeAll (ops : List OpD) (orders : List (List Int)) : List Int × (Bool × Unit) :=
  bif apartGo (ops.length : Int) orders then mergeGo ops (orders.flatten.length + 1) orders [] else ([], false, ())
def okAll (ops : List OpD) (orders : List (List Int)) : Bool := decide (ops.length ≤ 1000) && okApart (ops.length : Int) orders
def okMerge (ops : List OpD) (orders : List (List Int)) : Bool := wfD (.sl OT) ops && wfD (.sl (.sl (.int .i64))) orders
end Go.Inc
