/- What the program's inner parts say, in plain words: events, pairs. Own text of this session. -/
import Derived.Test.YtkkkjcpfahhhpaaDoorPart
import Derived.Test.YtkkkjcpfahhhpaaDoorClone
set_option linter.unusedVariables false
set_option linter.unusedSimpArgs false
namespace Go.Inc
open Go Go.Abs

@[reducible] def EVT : Ty := .pr (.int .i64) (.pr VT (.pr (.int .i64) (.pr (.int .i64) (.pr VT (.pr (.int .i64) (.pr (.sl VT) (.pr (.sl VT) (.pr .bool (.pr .str .un)))))))))
abbrev Evt : Type := Int × (Val × (Int × (Int × (Val × (Int × (List Val × (List Val × (Bool × (ByteArray × Unit)))))))))
namespace Ev
abbrev time (e : Evt) : Int := e.1
abbrev cli (e : Evt) : Val := e.2.1
abbrev typ (e : Evt) : Int := e.2.2.1
abbrev mod (e : Evt) : Int := e.2.2.2.1
abbrev key (e : Evt) : Val := e.2.2.2.2.1
abbrev op (e : Evt) : Int := e.2.2.2.2.2.1
abbrev args (e : Evt) : List Val := e.2.2.2.2.2.2.1
abbrev out (e : Evt) : List Val := e.2.2.2.2.2.2.2.1
abbrev ntd (e : Evt) : Bool := e.2.2.2.2.2.2.2.2.1
abbrev note (e : Evt) : ByteArray := e.2.2.2.2.2.2.2.2.2.1
end Ev
def noE : Evt := (0, (none', (0, (0, (none', (0, ([], ([], (false, (ByteArray.empty, ())))))))))) 
def okE (e : Evt) : Bool := wfD EVT e
def okH (h : List Evt) : Bool := wfD (.sl EVT) h
def hasB (s : ByteArray) (c : Int) : Bool := s.data.toList.any fun x => (x.toNat : Int) == c
/-- strings.Contains at one byte. -/
def containsOne (s sub : ByteArray) : Bool := hasB s ((sub.data.toList.getD 0 0).toNat : Int)
def okOne (s sub : ByteArray) : Bool := decide (sub.size = 1)
def notedE (e : Evt) : Bool := decide ((Ev.note e).size ≤ 100) && (!(hasB (Ev.note e) 10) && (Ev.ntd e || emp (Ev.note e)))
def rightE (e : Evt) : Bool := (decide (0 ≤ Ev.time e) && (name (Ev.cli e) && notedE e)) &&
  (bif Ev.typ e == 1 then fits (Ev.mod e) (Ev.op e) (Ev.args e) && (name (Ev.key e) && (Ev.out e).isEmpty)
   else (Ev.mod e == 0 && (Ev.op e == 0 && (Ev.key e == none' && (Ev.args e).isEmpty))) && ((Ev.out e).all right && (Ev.typ e == 2 || ((Ev.typ e == 3 || Ev.typ e == 4) && (Ev.out e).isEmpty))))
def evFits (ds : List Int) (l : List Val) : Bool := takesAll ds l
def okEvFits (ds : List Int) (l : List Val) : Bool := okVs l && decide (ds.length ≤ 1000)
def okF3 (_ _ : Int) (l : List Val) : Bool := okVs l
def okL2 (l : List Val) : Bool := okVs l && decide (l.length ≤ 2000)
def okF2 (_ _ : Int) (l : List Val) : Bool := okL2 l
def evLen (e : Evt) : Bool := !(rightE e) || decide ((Ev.out e).length ≤ 2000)
def okEv (e : Evt) : Bool := okE e

/-! The clerk -/
abbrev Clk : Type := List (Val × Int) × (List (Val × Int) × (Int × (List Int × List Int)))
namespace Ck
abbrev busy (c : Clk) : List (Val × Int) := c.1
abbrev lost (c : Clk) : List (Val × Int) := c.2.1
abbrev last (c : Clk) : Int := c.2.2.1
abbrev gone (c : Clk) : List Int := c.2.2.2.1
abbrev ends (c : Clk) : List Int := c.2.2.2.2
end Ck
def begunC (n : Nat) : Clk := ([], ([], (0, ([], List.replicate n 0))))
def seeC (h : List Evt) (c : Clk) (i : Nat) : Int × Clk :=
  let x := h.getD i noE
  bif decide (4096 ≤ i) then (5, c) else
  bif !(rightE x) then (2, c) else
  bif decide (Ev.time x < Ck.last c) then (4, c) else
  let c := (Ck.busy c, (Ck.lost c, (Ev.time x, (Ck.gone c, Ck.ends c))))
  match Mp.look (Ev.cli x) (Ck.busy c) with
  | some at' =>
    bif Ev.typ x == 1 then (4, c) else
    let c := (Mp.del (Ev.cli x) (Ck.busy c), (Ck.lost c, (Ck.last c, (Ck.gone c, Ck.ends c))))
    bif Ev.typ x == 2 then
      (bif !(signOuts (Ev.mod (h.getD at'.toNat noE)) (Ev.op (h.getD at'.toNat noE)) (Ev.out x)).2 then (4, c)
       else (0, (Ck.busy c, (Ck.lost c, (Ck.last c, (Ck.gone c, (Ck.ends c).set at'.toNat (i : Int)))))))
    else bif Ev.typ x == 3 then (0, (Ck.busy c, (Ck.lost c, (Ck.last c, (Ck.gone c ++ [at'], Ck.ends c)))))
    else (0, (Ck.busy c, (Mp.upd (Ev.cli x) (i : Int) (Ck.lost c), (Ck.last c, (Ck.gone c, Ck.ends c)))))
  | none =>
    bif Ev.typ x == 1 then
      (bif (Mp.look (Ev.cli x) (Ck.lost c)).isSome then (4, c) else (0, (Mp.upd (Ev.cli x) (i : Int) (Ck.busy c), (Ck.lost c, (Ck.last c, (Ck.gone c, Ck.ends c))))))
    else (4, c)
abbrev Fail : Type := Int × (Int × Unit)
def allFrom (h : List Evt) : Nat → Nat → Clk → Clk × Fail
  | 0, _, c => (c, (0, (0, ())))
  | n + 1, i, c => bif decide (i < h.length) then
      (match seeC h c i with
       | (e, c') => bif e != 0 then (c', (e, ((i : Int) + 1, ()))) else allFrom h n (i + 1) c')
    else (c, (0, (0, ())))
def pairAll (h : List Evt) : Clk × Fail := allFrom h (h.length + 1) 0 (begunC h.length)
def okAll (h : List Evt) : Bool := okH h && (decide (h.length ≤ 1000) && h.all evLen)
def pairCheck (h : List Evt) : Fail := (pairAll h).2

/-! What the document says -/
def addW (t : Int) : List Val → Int
  | [] => t
  | v :: l => bif decide (t ≤ (2000 : Int)) then addW (IntKind.wrap .i64 (IntKind.wrap .i64 (t + 1) + ((v.2.2.1.size : Nat) : Int))) l else t
def startW (e : Evt) : Int := IntKind.wrap .i64 (IntKind.wrap .i64 ((((Ev.cli e).2.2.1.size : Nat) : Int) + (((Ev.key e).2.2.1.size : Nat) : Int)) + (((Ev.note e).size : Nat) : Int))
def greatE (e : Evt) : Bool := decide (addW (addW (startW e) (Ev.args e)) (Ev.out e) > (2000 : Int))
def greatH (h : List Evt) (n : Int) : Bool := decide ((h.length : Int) > n) || h.any greatE
def okGH (h : List Evt) (_ : Int) : Bool := okH h
def lastN (h : List Evt) (c : Val) : Nat → Int
  | 0 => -1
  | i + 1 => bif Ev.cli (h.getD i noE) == c then (i : Int) else lastN h c i
def lastE (h : List Evt) (a : Int) : Int := lastN h (Ev.cli (h.getD a.toNat noE)) a.toNat
def nextN (h : List Evt) (c : Val) : Nat → Nat → Int
  | 0, _ => -1
  | n + 1, i => bif decide (i < h.length) then (bif Ev.cli (h.getD i noE) == c then (i : Int) else nextN h c n (i + 1)) else -1
def nextE (h : List Evt) (a : Int) : Int := nextN h (Ev.cli (h.getD a.toNat noE)) h.length (a.toNat + 1)
def okAt (h : List Evt) (a : Int) : Bool := okAll h && (decide (0 ≤ a) && decide (a < h.length))
def wrongN (h : List Evt) (a : Nat) : Int :=
  let x := h.getD a noE; let i := lastN h (Ev.cli x) a; let y := h.getD i.toNat noE
  bif decide (4096 ≤ a) then 5 else bif !(rightE x) then 2 else
  bif decide (0 < a) && decide (Ev.time x < Ev.time (h.getD (a - 1) noE)) then 4 else
  bif Ev.typ x == 1 then (bif decide (0 ≤ i) && (Ev.typ y == 1 || Ev.typ y == 4) then 4 else 0) else
  bif !(decide (0 ≤ i) && Ev.typ y == 1) then 4 else
  bif Ev.typ x == 2 && !(signOuts (Ev.mod y) (Ev.op y) (Ev.out x)).2 then 4 else 0
def wrongE (h : List Evt) (a : Int) : Int := wrongN h a.toNat
def refCheckN (h : List Evt) : Nat → Nat → Int × (Int × Unit)
  | 0, _ => (0, (0, ()))
  | n + 1, i => bif decide (i < h.length) then (bif wrongN h i != 0 then (wrongN h i, ((i : Int) + 1, ())) else refCheckN h n (i + 1)) else (0, (0, ()))
def refCheck (h : List Evt) : Int × (Int × Unit) := refCheckN h (h.length + 1) 0
def operOf (x : Evt) (i r : Int) (out : List Val) : Opr := (Ev.cli x, (Ev.mod x, (Ev.key x, (Ev.op x, (Ev.args x, (out, (i, (r, ()))))))))
def refOper (h : List Evt) (i : Nat) : Option Opr :=
  let x := h.getD i noE; let k := nextE h i; let y := h.getD k.toNat noE
  bif Ev.typ x != 1 then none else bif decide (0 ≤ k) && Ev.typ y == 3 then none else
  bif decide (0 ≤ k) && Ev.typ y == 2 then some (operOf x i k (Ev.out y)) else some (operOf x i (-1) [])
def refOpers (h : List Evt) : List Opr := (List.range h.length).filterMap (refOper h)
def pairOper (h : List Evt) (c : Clk) (i : Nat) : Option Opr :=
  let x := h.getD i noE; let e := (Ck.ends c).getD i 0
  bif Ev.typ x != 1 || (Ck.gone c).any (· == (i : Int)) then none else
  bif decide (e > 0) then some (operOf x i e (Ev.out (h.getD e.toNat noE))) else some (operOf x i (-1) [])
def pairOpers (h : List Evt) : List Opr × (Fail × Unit) := bif (pairAll h).2.1 != 0 then ([], ((pairAll h).2, ())) else ((List.range h.length).filterMap (pairOper h (pairAll h).1), ((pairAll h).2, ()))
def oneO (a b : Opr) : Bool := a == b
def okOne2 (a b : Opr) : Bool := (decide (a.2.2.2.2.1.length ≤ 1000000) && decide (b.2.2.2.2.1.length ≤ 1000000)) && (decide (a.2.2.2.2.2.1.length ≤ 1000000) && decide (b.2.2.2.2.2.1.length ≤ 1000000))
def sameOps (a b : List Opr) : Bool := a == b
def okOps2 (a b : List Opr) : Bool := (decide (a.length ≤ 1000) && decide (b.length ≤ 1000)) && (a.all fun o => okOne2 o o) && (b.all fun o => okOne2 o o)
def callE (s : ByteArray) : Evt := (0, ((2, (0, (s, ()))), (1, (1, ((2, (0, (s, ()))), (2, ([], ([], (false, (ByteArray.empty, ()))))))))))
def hasI (l : List Int) (x : Int) : Bool := l.any (· == x)
def idxI (l : List Int) (x : Int) : Int := match l.findIdx? (· == x) with | some i => (i : Int) | none => -1
def okIdxI (l : List Int) (_ : Int) : Bool := decide (l.length ≤ 1000000)
def okBegins (h : List Evt) (n : Int) : Bool := okH h && wfD (.int .u8) n
end Go.Inc
namespace Go.Inc
def cloneV (l : List Val) : List Val := l
def okClone (l : List Val) : Bool := decide (l.length * 32 ≤ 140737488351232)
end Go.Inc
namespace Go.Abs
open Go.Inc
def XAll : XSpec := { hin := [(0, (.sl EVT .no))], hout := [(0, .bx 1000 0), (2, .pr (.i .i64) (.pr (.i .i64) .un)), (2001, .pr .jk (.pr .jk (.pr (.i .i64) (.pr (.sl (.int .i64) .no) (.pr (.sl (.int .i64) .no) .un)))))], np := 1, nr := 2, multi := true, pins := [], pre := fun x => okAll x.1, val := fun x => ((), ((pairAll x.1).2, (((), ((), ((pairAll x.1).1.2.2.1, ((pairAll x.1).1.2.2.2.1, ((pairAll x.1).1.2.2.2.2, ()))))), ()))) }
end Go.Abs
