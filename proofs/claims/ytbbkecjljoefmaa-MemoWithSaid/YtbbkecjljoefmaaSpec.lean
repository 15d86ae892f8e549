/- Own text of this session: a part of the proof; no condition of its own. -/
import Derived.Test.YtbbkecjljoefmaaNum
set_option linter.unusedVariables false
namespace Go.L21
open Go Go.Abs
/-- Is a place in a set? -/
def has (l : List Int) (i : Int) : Bool := decide (0 ≤ i ∧ i < 4096 ∧ i.toNat / 64 < l.length) && (l.getD (i.toNat / 64) 0).toNat.testBit (i.toNat % 64)
def okL (l : List Int) : Bool := wfD (.sl (.int .u64)) l
def okI (i : Int) : Bool := wfD (.int .i64) i
/-- How many bits are set. -/
def ones : Nat → Nat
  | 0 => 0
  | n + 1 => (n + 1) % 2 + ones ((n + 1) / 2)
def count (l : List Int) : Int := (((l.map fun x => ones x.toNat).sum : Nat) : Int)
/-- One more place. -/
def with' (l : List Int) (i : Int) : List Int := if 0 ≤ i ∧ i < 4096 then
    (let m := l ++ List.replicate (i.toNat / 64 + 1 - l.length) 0
     m.set (i.toNat / 64) (((m.getD (i.toNat / 64) 0).toNat ||| 2 ^ (i.toNat % 64) : Nat) : Int)) else l
def same (a b : List Int) : Bool := decide (∀ i, i < max a.length b.length → a.getD i 0 = b.getD i 0)
def v14 (i : Int) : Bool := decide (0 ≤ i ∧ i < 4096)
def v6 (l : List Int) : Bool := decide (100 < l.length)
def v15 (l : List Int) (i : Int) : Int := l.getD i.toNat 0
def pre15 (l : List Int) (i : Int) : Bool := decide (0 ≤ i)
def v8 (l : List Int) (i : Int) : Bool := has l i
def pre8 (l : List Int) (i : Int) : Bool := okL l && okI i
def v9 (a b : List Int) : Bool := same a b
def pre9 (a b : List Int) : Bool := okL a && okL b
def v10 (l : List Int) (i : Int) : Bool := has l i
def pre10 (l : List Int) (i : Int) : Bool := okL l && okI i
def v12 (l : List Int) : Int := count l
def pre12 (l : List Int) : Bool := okL l && decide (l.length ≤ 1000)
def v11 (l : List Int) : Int := count l
def pre11 (l : List Int) : Bool := okL l && decide (l.length ≤ 1000)
def v7 (l : List Int) (i : Int) : List Int := with' l i
def pre7 (l : List Int) (i : Int) : Bool := okL l && okI i && decide (l.length ≤ 1000)
def v13 (l : List Int) : List Int := l
def pre13 (l : List Int) : Bool := decide (l.length ≤ 1000)
def v16 (x : Int) : Int := (ones x.toNat : Int)
def pre16 (x : Int) : Bool := wfD (.int .u64) x
def v5 : Bool := true
def v3 (l : List Int) (i j : Int) : Bool := true
def pre3 (l : List Int) (i j : Int) : Bool := okL l && okI i && okI j
def v4 (l : List Int) (i : Int) : Bool := true
def pre4 (l : List Int) (i : Int) : Bool := okL l && okI i
end Go.L21
