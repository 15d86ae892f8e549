/- Copies of events, and when two are the same. Own text of this session. -/
import Derived.Test.YtkkkjcpfahhhpaaDoorLook
import Derived.Test.YtkkkjcpfahhhpaaDoorFresh
set_option linter.unusedVariables false
set_option linter.unusedSimpArgs false
namespace Go.Inc
open Go Go.Abs
def copyE (e : Evt) : Evt := e
def lenE (e : Evt) : Bool := decide ((Ev.args e).length ≤ 2000) && decide ((Ev.out e).length ≤ 2000)
def okCopyE (e : Evt) : Bool := okE e && lenE e
def copyH (h : List Evt) : List Evt := h
def okCopyH (h : List Evt) : Bool := okH h && (decide (h.length ≤ 1000) && h.all lenE)
def sameE (a b : Evt) : Bool := a == b
def okSameE (a b : Evt) : Bool := lenE a && lenE b
end Go.Inc
