/- What the program's inner parts say, in plain words: states, steps, queues. Own text of this session. -/
import Derived.Test.YtkkkjcpfahhhpaaDoorInc
set_option linter.unusedVariables false
namespace Go.Inc
open Go Go.Abs

@[reducible] def STT : Ty := .pr (.int .i64) (.pr VT (.pr (.int .i64) (.pr (.sl VT) .un)))
@[reducible] def DT : Ty := .pr VT (.pr (.int .i64) (.pr (.sl VT) .un))
abbrev State : Type := Int × (Val × (Int × (List Val × Unit)))
abbrev Deed : Type := Val × (Int × (List Val × Unit))
def mkS (m : Int) (one : Val) (n : Int) (l : List Val) : State := (m, one, n, l, ())
def noS : State := mkS 0 none' 0 []
def sameV (a b : List Val) : Bool := a == b
def sameS (a b : State) : Bool := a.1 == b.1 && (a.2.1 == b.2.1 && (a.2.2.1 == b.2.2.1 && sameV a.2.2.2.1 b.2.2.2.1))
def okSame2 (a b : List Val) : Bool := decide (a.length ≤ 1000000) && decide (b.length ≤ 1000000)
def okSS (a b : State) : Bool := okSame2 a.2.2.2.1 b.2.2.2.1
def yesV (b : Bool) : Val := bif b then (3, 1, ByteArray.empty, ()) else (3, 0, ByteArray.empty, ())
def okDeed (d : Deed) : Bool := wfD DT d
def okDs (l : List Deed) : Bool := wfD (.sl DT) l

/-! Queues and stacks -/
def qOwn (m : Int) : Bool := m == 5 || m == 6
def queueNew (m : Int) : State × (Bool × Unit) := bif qOwn m then (mkS m none' 0 [], true, ()) else (noS, false, ())
def popL (m : Int) (l : List Val) : List Val × Val := match l with
  | [] => ([], none')
  | v :: r => bif m == 5 then (r, v) else ((v :: r).dropLast, (v :: r).getLastD none')
def queuePop (s : State) : List Val × (Val × Unit) := ((popL s.1 s.2.2.2.1).1, (popL s.1 s.2.2.2.1).2, ())
def okPop (s : State) : Bool := decide (s.2.2.2.1.length ≤ 1000000)
def stepOk (own : Bool) (m : Int) (c : Val) (o : Int) (args : List Val) : Bool := own && (takes 0 c && fits m o args)
def queueStep (s : State) (c : Val) (o : Int) (args : List Val) : State × (List Val × (Bool × Unit)) :=
  bif stepOk (qOwn s.1) s.1 c o args then
    (bif o == 9 then (mkS s.1 s.2.1 s.2.2.1 (s.2.2.2.1 ++ [args.getD 0 none']), [], true, ())
    else (mkS s.1 s.2.1 s.2.2.1 (popL s.1 s.2.2.2.1).1, [(popL s.1 s.2.2.2.1).2], true, ()))
  else (noS, [], false, ())
def okQStep (s : State) (c : Val) (o : Int) (args : List Val) : Bool := okPop s && (okV c && okL args)
/-- What waits behind all that was done. -/
def qStep (m : Int) (l : List Val) (d : Deed) : List Val := bif d.2.1 == 10 then (popL m l).1 else bif d.2.1 == 9 then l ++ [d.2.2.1.getD 0 none'] else l
def queueLeft (m : Int) (past : List Deed) : List Val := past.foldl (qStep m) []
def queueState (m : Int) (past : List Deed) : State := mkS m none' 0 (queueLeft m past)
def queueOut (m : Int) (past : List Deed) (d : Deed) : List Val := bif d.2.1 == 10 then [(popL m (queueLeft m past)).2] else []
/-- What was pushed was handed in; so many steps; a queue or a stack. -/
def okPast (m : Int) (past : List Deed) : Bool := qOwn m && (decide (past.length ≤ 1000) && past.all fun d => !(d.2.1 == 9) || !d.2.2.1.isEmpty)
def okPast1 (m : Int) (past : List Deed) (_ : Deed) : Bool := okPast m past

/-! What the statements of the layers ask -/
def num' (n : Int) : Val := (1, n, ByteArray.empty, ())
def greatD (l : List Deed) : Bool := l.any (fun d => decide (10 < d.2.2.1.length) || (decide (100 < d.1.2.2.1.size) || d.2.2.1.any fun v => decide (100 < v.2.2.1.size))) || decide (40 < l.length)
def mayD (m : Int) (d : Deed) : Bool := name d.1 && fits m d.2.1 d.2.2.1
def okMay (_ : Int) (d : Deed) : Bool := okDeed d && decide (d.2.2.1.length ≤ 1000)
def okPlays (_ : Int) (l : List Deed) : Bool := okDs l
def twoV (m : Int) : List Val := [bif m == 5 then num' 1 else num' 2]
def okTwo (m : Int) : Bool := qOwn m

/-! Where what comes out may be written over -/
def copyS (s : State) : State := s
def okOX (_ _ : Int) (n : Nat) (l : List Val) : Bool := decide (n = l.length) && okL l
def okPX (n : Nat) (l : List Val) : Bool := decide (n = l.length) && okL l
def okStepX (s : State) (c : Val) (_ : Int) (args : List Val) : Bool := okPop s && (okV c && okL args)
def stepX (r : State × (List Val × (Bool × Unit))) : State × (Nat × (Bool × (List Val × Unit))) := (r.1, (r.2.1.length, (r.2.2.1, (r.2.1, ()))))
/-- All of them overwritten. -/
def kind9 (l : List Val) : List Val := l.map fun v => (9, v.2)
end Go.Inc
