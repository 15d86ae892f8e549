/- What the program's inner parts say, in plain words: registers; how values stand. Own text of this session. -/
import Derived.Test.YtkkkjcpfahhhpaaDoorQueue
import Derived.Test.YtkkkjcpfahhhpaaDoorAbs27
set_option linter.unusedVariables false
namespace Go.Inc
open Go Go.Abs

/-! How values stand -/
def cmpI (a b : Int) : Int := bif decide (a < b) then -1 else bif decide (a > b) then 1 else 0
def orI : List Int → Int
  | [] => 0
  | x :: l => bif x != 0 then x else orI l
def okOr (l : List Int) : Bool := decide (l.length ≤ 1000)
def cmpV (a b : Val) : Int := orI [cmpI a.1 b.1, cmpI a.2.1 b.2.1, cmpS a.2.2.1 b.2.2.1]
def lessV (a b : Val) : Bool := bif a.1 != b.1 then decide (a.1 < b.1) else bif a.2.1 != b.2.1 then decide (a.2.1 < b.2.1) else Op.bytesLess a.2.2.1.toList b.2.2.1.toList

/-! Registers -/
def arg0 (d : Deed) : Val := d.2.2.1.getD 0 none'
def arg1 (d : Deed) : Val := d.2.2.1.getD 1 none'
abbrev Flat : Type := Int × (Int × (Int × (ByteArray × (Int × (List Val × Unit)))))
def unS (f : Flat) : State := (f.1, (f.2.1, f.2.2.1, f.2.2.2.1, ()), f.2.2.2.2.1, f.2.2.2.2.2.1, ())
def flS (s : State) : Flat := (s.1, s.2.1.1, s.2.1.2.1, s.2.1.2.2.1, s.2.2.1, s.2.2.2.1, ())
def setOne (s : State) (v : Val) : State := (s.1, v, s.2.2)
def okCell (n : Nat) (args : List Val) : Bool := decide (n ≤ args.length)
def cellWrite (args : List Val) (f : Flat) : List Val × (Flat × Unit) := ([], flS (setOne (unS f) (args.getD 0 none')), ())
def cellRead (args : List Val) (f : Flat) : List Val × (Flat × Unit) := ([(unS f).2.1], f, ())
def cellRaise (args : List Val) (f : Flat) : List Val × (Flat × Unit) := ([], flS (setOne (unS f) (bif (unS f).2.1 == none' || decide (cmpV (args.getD 0 none') (unS f).2.1 > 0) then args.getD 0 none' else (unS f).2.1)), ())
def cellSwap (args : List Val) (f : Flat) : List Val × (Flat × Unit) := bif (unS f).2.1 == args.getD 0 none' then ([yesV true], flS (setOne (unS f) (args.getD 1 none')), ()) else ([yesV false], f, ())
def regOwn (m : Int) : Bool := m == 1 || (m == 2 || m == 9)
def regNew (m : Int) : State × (Bool × Unit) := bif regOwn m then (mkS m none' 0 [], true, ()) else (noS, false, ())
/-- What is kept, and what comes out. -/
def regAct (m : Int) (o : Int) (args : List Val) (one : Val) : Val × List Val :=
  bif o == 2 then (one, [one]) else bif o == 3 then (bif one == args.getD 0 none' then (args.getD 1 none', [yesV true]) else (one, [yesV false]))
  else bif m == 9 then (bif one == none' || decide (cmpV (args.getD 0 none') one > 0) then args.getD 0 none' else one, []) else (args.getD 0 none', [])
def regStep (s : State) (c : Val) (o : Int) (args : List Val) : State × (List Val × (Bool × Unit)) :=
  bif stepOk (regOwn s.1) s.1 c o args then (setOne s (regAct s.1 o args s.2.1).1, (regAct s.1 o args s.2.1).2, true, ()) else (noS, [], false, ())
def regKeep (m : Int) (v : Val) (d : Deed) : Val := bif d.2.1 == 1 then (bif m == 9 then (bif v == none' || lessV v (arg0 d) then arg0 d else v) else arg0 d) else bif d.2.1 == 3 && v == arg0 d then arg1 d else v
def regKept (m : Int) (past : List Deed) : Val := past.foldl (regKeep m) none'
def okRDeed (d : Deed) : Bool := (!(d.2.1 == 1) || decide (1 ≤ d.2.2.1.length)) && (!(d.2.1 == 3) || decide (2 ≤ d.2.2.1.length))
def okRPast (_ : Int) (past : List Deed) : Bool := decide (past.length ≤ 1000) && past.all okRDeed
def okRPast1 (m : Int) (past : List Deed) (d : Deed) : Bool := okRPast m past && okRDeed d
def regState (m : Int) (past : List Deed) : State := mkS m (regKept m past) 0 []
def regOut (m : Int) (past : List Deed) (d : Deed) : List Val := bif d.2.1 == 2 then [regKept m past] else bif d.2.1 == 3 then [yesV (regKept m past == arg0 d)] else []
def cellX (r : List Val × (Flat × Unit)) : Nat × (Flat × (List Val × Unit)) := (r.1.length, r.2.1, r.1, ())
end Go.Inc
