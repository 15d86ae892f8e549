/- What the program's inner parts say, in plain words: words and their numbers. Own text of this session. -/
import Derived.Test.YtaeinncalendfaaDoorInc
set_option linter.unusedVariables false
namespace Go.Inc
open Go Go.Abs

def modelsA : (arrTy .str 11).den := (modelName 0, modelName 1, modelName 2, modelName 3, modelName 4, modelName 5, modelName 6, modelName 7, modelName 8, modelName 9, modelName 10, ())
def opsA : (arrTy .str 14).den := (opName 0, opName 1, opName 2, opName 3, opName 4, opName 5, opName 6, opName 7, opName 8, opName 9, opName 10, opName 11, opName 12, opName 13, ())
def numFrom (word : ByteArray) : Nat → List ByteArray → Int
  | _, [] => 0
  | i, w :: l => bif decide (0 < i) && (w.toList == word.toList) then (i : Int) else numFrom word (i + 1) l
def numberGo (word : ByteArray) (l : List ByteArray) : Int × (Bool × Unit) := (numFrom word 0 l, decide (0 < numFrom word 0 l), ())
def okNum (_ : ByteArray) (l : List ByteArray) : Bool := decide (l.length ≤ 1000)
def modelNo (word : ByteArray) : Int := numFrom word 0 (arrL .str 11 modelsA)
def opNo (word : ByteArray) : Int := numFrom word 0 (arrL .str 14 opsA)
def modelGo (word : ByteArray) : Int × (Bool × Unit) := (modelNo word, decide (0 < modelNo word), ())
def opGo (word : ByteArray) : Int × (Bool × Unit) := (opNo word, decide (0 < opNo word), ())
def okW (word : ByteArray) (_ : Int) : Bool := okS word
end Go.Inc
