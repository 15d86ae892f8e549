/- The walks of package pair and its statements. Printed by a program of this session. -/
import Derived.Test.YtkkkjcpfahhhpaaDoorW0
set_option linter.unusedVariables false
set_option maxRecDepth 100000
namespace Go.L12
open Go Go.Abs Go.Inc

/-! ### 38: incognito/incognitoref09.Find -/
def L38 (_ : Nat) : Loops (((List Int) × Int × Bool × Bool × Unit) × Unit) := fun _ _ _ => none
def F38q (q : Int → Int → List UInt8 → Bool) (p0 : Int) (p1 : Int) : Option (((List Int) × Int × Bool × Bool × Unit) × Unit) :=
  bif decide (((ByteArray.size (Go.Inc.modelName p0)) + (ByteArray.size (strL [32]))) ≤ 140737488355328) then
    bif decide (((ByteArray.size ((Go.Inc.modelName p0) ++ (strL [32]))) + (ByteArray.size (Go.Inc.opName p1))) ≤ 140737488355328) then
      bif q p0 p1 [114, 101, 103, 32, 119, 114, 105, 116, 101] then
        bif q p0 p1 [114, 101, 103, 32, 119, 114, 105, 116, 101] then
          some ((((2 : Int) :: ([] : List Int)), ((-(1 : Int)), (false, (true, ())))), ())
        else
          bif q p0 p1 [114, 101, 103, 32, 114, 101, 97, 100] then
            bif q p0 p1 [114, 101, 103, 32, 114, 101, 97, 100] then
              some ((([] : List Int), ((2 : Int), (true, (true, ())))), ())
            else
              bif q p0 p1 [99, 97, 115, 32, 115, 119, 97, 112] then
              some ((((2 : Int) :: ((2 : Int) :: ([] : List Int))), ((6 : Int), (false, (true, ())))), ())
            else
              bif q p0 p1 [115, 101, 116, 32, 104, 97, 115] then
              some ((((2 : Int) :: ([] : List Int)), ((6 : Int), (false, (true, ())))), ())
            else
              bif q p0 p1 [109, 97, 112, 32, 112, 117, 116] then
              some ((((3 : Int) :: ((2 : Int) :: ([] : List Int))), ((-(1 : Int)), (false, (true, ())))), ())
            else
              bif q p0 p1 [109, 97, 112, 32, 103, 101, 116] then
              some ((((3 : Int) :: ([] : List Int)), ((2 : Int), (true, (true, ())))), ())
            else
              bif q p0 p1 [109, 97, 112, 32, 100, 101, 108] then
              some ((((3 : Int) :: ([] : List Int)), ((-(1 : Int)), (false, (true, ())))), ())
            else
              bif q p0 p1 [108, 111, 99, 107, 32, 116, 97, 107, 101] then
              bif q p0 p1 [108, 111, 99, 107, 32, 116, 97, 107, 101] then
              some ((([] : List Int), ((6 : Int), (false, (true, ())))), ())
            else
              bif q p0 p1 [99, 111, 117, 110, 116, 32, 97, 100, 100] then
              some ((((5 : Int) :: ([] : List Int)), ((-(1 : Int)), (false, (true, ())))), ())
            else
              bif q p0 p1 [99, 111, 117, 110, 116, 32, 114, 101, 97, 100] then
              some ((([] : List Int), ((5 : Int), (false, (true, ())))), ())
            else
              bif q p0 p1 [109, 97, 120, 32, 119, 114, 105, 116, 101] then
              bif q p0 p1 [109, 97, 120, 32, 119, 114, 105, 116, 101] then
              some ((((4 : Int) :: ([] : List Int)), ((-(1 : Int)), (false, (true, ())))), ())
            else
              bif q p0 p1 [109, 97, 120, 32, 114, 101, 97, 100] then
              some ((([] : List Int), ((4 : Int), (true, (true, ())))), ())
            else
              bif q p0 p1 [111, 109, 97, 112, 32, 112, 117, 116] then
              some ((((4 : Int) :: ((2 : Int) :: ([] : List Int))), ((-(1 : Int)), (false, (true, ())))), ())
            else
              bif q p0 p1 [111, 109, 97, 112, 32, 115, 99, 97, 110] then
              some ((((4 : Int) :: ((4 : Int) :: ([] : List Int))), ((99 : Int), (false, (true, ())))), ())
            else
              some ((([] : List Int), ((0 : Int), (false, (false, ())))), ())
            else
              bif q p0 p1 [111, 109, 97, 112, 32, 100, 101, 108] then
              some ((((4 : Int) :: ([] : List Int)), ((-(1 : Int)), (false, (true, ())))), ())
            else
              bif q p0 p1 [109, 97, 120, 32, 114, 101, 97, 100] then
              some ((([] : List Int), ((4 : Int), (true, (true, ())))), ())
            else
              bif q p0 p1 [111, 109, 97, 112, 32, 112, 117, 116] then
              some ((((4 : Int) :: ((2 : Int) :: ([] : List Int))), ((-(1 : Int)), (false, (true, ())))), ())
            else
              bif q p0 p1 [111, 109, 97, 112, 32, 115, 99, 97, 110] then
              some ((((4 : Int) :: ((4 : Int) :: ([] : List Int))), ((99 : Int), (false, (true, ())))), ())
            else
              some ((([] : List Int), ((0 : Int), (false, (false, ())))), ())
            else
              bif q p0 p1 [108, 111, 99, 107, 32, 102, 114, 101, 101] then
              some ((([] : List Int), ((6 : Int), (false, (true, ())))), ())
            else
              bif q p0 p1 [99, 111, 117, 110, 116, 32, 97, 100, 100] then
              some ((((5 : Int) :: ([] : List Int)), ((-(1 : Int)), (false, (true, ())))), ())
            else
              bif q p0 p1 [99, 111, 117, 110, 116, 32, 114, 101, 97, 100] then
              some ((([] : List Int), ((5 : Int), (false, (true, ())))), ())
            else
              bif q p0 p1 [109, 97, 120, 32, 119, 114, 105, 116, 101] then
              bif q p0 p1 [109, 97, 120, 32, 119, 114, 105, 116, 101] then
              some ((((4 : Int) :: ([] : List Int)), ((-(1 : Int)), (false, (true, ())))), ())
            else
              bif q p0 p1 [109, 97, 120, 32, 114, 101, 97, 100] then
              some ((([] : List Int), ((4 : Int), (true, (true, ())))), ())
            else
              bif q p0 p1 [111, 109, 97, 112, 32, 112, 117, 116] then
              some ((((4 : Int) :: ((2 : Int) :: ([] : List Int))), ((-(1 : Int)), (false, (true, ())))), ())
            else
              bif q p0 p1 [111, 109, 97, 112, 32, 115, 99, 97, 110] then
              some ((((4 : Int) :: ((4 : Int) :: ([] : List Int))), ((99 : Int), (false, (true, ())))), ())
            else
              some ((([] : List Int), ((0 : Int), (false, (false, ())))), ())
            else
              bif q p0 p1 [111, 109, 97, 112, 32, 100, 101, 108] then
              some ((((4 : Int) :: ([] : List Int)), ((-(1 : Int)), (false, (true, ())))), ())
            else
              bif q p0 p1 [109, 97, 120, 32, 114, 101, 97, 100] then
              some ((([] : List Int), ((4 : Int), (true, (true, ())))), ())
            else
              bif q p0 p1 [111, 109, 97, 112, 32, 112, 117, 116] then
              some ((((4 : Int) :: ((2 : Int) :: ([] : List Int))), ((-(1 : Int)), (false, (true, ())))), ())
            else
              bif q p0 p1 [111, 109, 97, 112, 32, 115, 99, 97, 110] then
              some ((((4 : Int) :: ((4 : Int) :: ([] : List Int))), ((99 : Int), (false, (true, ())))), ())
            else
              some ((([] : List Int), ((0 : Int), (false, (false, ())))), ())
          else
            bif q p0 p1 [99, 97, 115, 32, 114, 101, 97, 100] then
              bif q p0 p1 [99, 97, 115, 32, 114, 101, 97, 100] then
              some ((([] : List Int), ((2 : Int), (true, (true, ())))), ())
            else
              bif q p0 p1 [99, 97, 115, 32, 115, 119, 97, 112] then
              some ((((2 : Int) :: ((2 : Int) :: ([] : List Int))), ((6 : Int), (false, (true, ())))), ())
            else
              bif q p0 p1 [115, 101, 116, 32, 104, 97, 115] then
              some ((((2 : Int) :: ([] : List Int)), ((6 : Int), (false, (true, ())))), ())
            else
              bif q p0 p1 [109, 97, 112, 32, 112, 117, 116] then
              some ((((3 : Int) :: ((2 : Int) :: ([] : List Int))), ((-(1 : Int)), (false, (true, ())))), ())
            else
              bif q p0 p1 [109, 97, 112, 32, 103, 101, 116] then
              some ((((3 : Int) :: ([] : List Int)), ((2 : Int), (true, (true, ())))), ())
            else
              bif q p0 p1 [109, 97, 112, 32, 100, 101, 108] then
              some ((((3 : Int) :: ([] : List Int)), ((-(1 : Int)), (false, (true, ())))), ())
            else
              bif q p0 p1 [108, 111, 99, 107, 32, 116, 97, 107, 101] then
              bif q p0 p1 [108, 111, 99, 107, 32, 116, 97, 107, 101] then
              some ((([] : List Int), ((6 : Int), (false, (true, ())))), ())
            else
              bif q p0 p1 [99, 111, 117, 110, 116, 32, 97, 100, 100] then
              some ((((5 : Int) :: ([] : List Int)), ((-(1 : Int)), (false, (true, ())))), ())
            else
              bif q p0 p1 [99, 111, 117, 110, 116, 32, 114, 101, 97, 100] then
              some ((([] : List Int), ((5 : Int), (false, (true, ())))), ())
            else
              bif q p0 p1 [109, 97, 120, 32, 119, 114, 105, 116, 101] then
              bif q p0 p1 [109, 97, 120, 32, 119, 114, 105, 116, 101] then
              some ((((4 : Int) :: ([] : List Int)), ((-(1 : Int)), (false, (true, ())))), ())
            else
              bif q p0 p1 [109, 97, 120, 32, 114, 101, 97, 100] then
              some ((([] : List Int), ((4 : Int), (true, (true, ())))), ())
            else
              bif q p0 p1 [111, 109, 97, 112, 32, 112, 117, 116] then
              some ((((4 : Int) :: ((2 : Int) :: ([] : List Int))), ((-(1 : Int)), (false, (true, ())))), ())
            else
              bif q p0 p1 [111, 109, 97, 112, 32, 115, 99, 97, 110] then
              some ((((4 : Int) :: ((4 : Int) :: ([] : List Int))), ((99 : Int), (false, (true, ())))), ())
            else
              some ((([] : List Int), ((0 : Int), (false, (false, ())))), ())
            else
              bif q p0 p1 [111, 109, 97, 112, 32, 100, 101, 108] then
              some ((((4 : Int) :: ([] : List Int)), ((-(1 : Int)), (false, (true, ())))), ())
            else
              bif q p0 p1 [109, 97, 120, 32, 114, 101, 97, 100] then
              some ((([] : List Int), ((4 : Int), (true, (true, ())))), ())
            else
              bif q p0 p1 [111, 109, 97, 112, 32, 112, 117, 116] then
              some ((((4 : Int) :: ((2 : Int) :: ([] : List Int))), ((-(1 : Int)), (false, (true, ())))), ())
            else
              bif q p0 p1 [111, 109, 97, 112, 32, 115, 99, 97, 110] then
              some ((((4 : Int) :: ((4 : Int) :: ([] : List Int))), ((99 : Int), (false, (true, ())))), ())
            else
              some ((([] : List Int), ((0 : Int), (false, (false, ())))), ())
            else
              bif q p0 p1 [108, 111, 99, 107, 32, 102, 114, 101, 101] then
              some ((([] : List Int), ((6 : Int), (false, (true, ())))), ())
            else
              bif q p0 p1 [99, 111, 117, 110, 116, 32, 97, 100, 100] then
              some ((((5 : Int) :: ([] : List Int)), ((-(1 : Int)), (false, (true, ())))), ())
            else
              bif q p0 p1 [99, 111, 117, 110, 116, 32, 114, 101, 97, 100] then
              some ((([] : List Int), ((5 : Int), (false, (true, ())))), ())
            else
              bif q p0 p1 [109, 97, 120, 32, 119, 114, 105, 116, 101] then
              bif q p0 p1 [109, 97, 120, 32, 119, 114, 105, 116, 101] then
              some ((((4 : Int) :: ([] : List Int)), ((-(1 : Int)), (false, (true, ())))), ())
            else
              bif q p0 p1 [109, 97, 120, 32, 114, 101, 97, 100] then
              some ((([] : List Int), ((4 : Int), (true, (true, ())))), ())
            else
              bif q p0 p1 [111, 109, 97, 112, 32, 112, 117, 116] then
              some ((((4 : Int) :: ((2 : Int) :: ([] : List Int))), ((-(1 : Int)), (false, (true, ())))), ())
            else
              bif q p0 p1 [111, 109, 97, 112, 32, 115, 99, 97, 110] then
              some ((((4 : Int) :: ((4 : Int) :: ([] : List Int))), ((99 : Int), (false, (true, ())))), ())
            else
              some ((([] : List Int), ((0 : Int), (false, (false, ())))), ())
            else
              bif q p0 p1 [111, 109, 97, 112, 32, 100, 101, 108] then
              some ((((4 : Int) :: ([] : List Int)), ((-(1 : Int)), (false, (true, ())))), ())
            else
              bif q p0 p1 [109, 97, 120, 32, 114, 101, 97, 100] then
              some ((([] : List Int), ((4 : Int), (true, (true, ())))), ())
            else
              bif q p0 p1 [111, 109, 97, 112, 32, 112, 117, 116] then
              some ((((4 : Int) :: ((2 : Int) :: ([] : List Int))), ((-(1 : Int)), (false, (true, ())))), ())
            else
              bif q p0 p1 [111, 109, 97, 112, 32, 115, 99, 97, 110] then
              some ((((4 : Int) :: ((4 : Int) :: ([] : List Int))), ((99 : Int), (false, (true, ())))), ())
            else
              some ((([] : List Int), ((0 : Int), (false, (false, ())))), ())
            else
              bif q p0 p1 [102, 105, 102, 111, 32, 112, 111, 112] then
              bif q p0 p1 [102, 105, 102, 111, 32, 112, 111, 112] then
              some ((([] : List Int), ((2 : Int), (true, (true, ())))), ())
            else
              bif q p0 p1 [99, 97, 115, 32, 115, 119, 97, 112] then
              some ((((2 : Int) :: ((2 : Int) :: ([] : List Int))), ((6 : Int), (false, (true, ())))), ())
            else
              bif q p0 p1 [115, 101, 116, 32, 104, 97, 115] then
              some ((((2 : Int) :: ([] : List Int)), ((6 : Int), (false, (true, ())))), ())
            else
              bif q p0 p1 [109, 97, 112, 32, 112, 117, 116] then
              some ((((3 : Int) :: ((2 : Int) :: ([] : List Int))), ((-(1 : Int)), (false, (true, ())))), ())
            else
              bif q p0 p1 [109, 97, 112, 32, 103, 101, 116] then
              some ((((3 : Int) :: ([] : List Int)), ((2 : Int), (true, (true, ())))), ())
            else
              bif q p0 p1 [109, 97, 112, 32, 100, 101, 108] then
              some ((((3 : Int) :: ([] : List Int)), ((-(1 : Int)), (false, (true, ())))), ())
            else
              bif q p0 p1 [108, 111, 99, 107, 32, 116, 97, 107, 101] then
              bif q p0 p1 [108, 111, 99, 107, 32, 116, 97, 107, 101] then
              some ((([] : List Int), ((6 : Int), (false, (true, ())))), ())
            else
              bif q p0 p1 [99, 111, 117, 110, 116, 32, 97, 100, 100] then
              some ((((5 : Int) :: ([] : List Int)), ((-(1 : Int)), (false, (true, ())))), ())
            else
              bif q p0 p1 [99, 111, 117, 110, 116, 32, 114, 101, 97, 100] then
              some ((([] : List Int), ((5 : Int), (false, (true, ())))), ())
            else
              bif q p0 p1 [109, 97, 120, 32, 119, 114, 105, 116, 101] then
              bif q p0 p1 [109, 97, 120, 32, 119, 114, 105, 116, 101] then
              some ((((4 : Int) :: ([] : List Int)), ((-(1 : Int)), (false, (true, ())))), ())
            else
              bif q p0 p1 [109, 97, 120, 32, 114, 101, 97, 100] then
              some ((([] : List Int), ((4 : Int), (true, (true, ())))), ())
            else
              bif q p0 p1 [111, 109, 97, 112, 32, 112, 117, 116] then
              some ((((4 : Int) :: ((2 : Int) :: ([] : List Int))), ((-(1 : Int)), (false, (true, ())))), ())
            else
              bif q p0 p1 [111, 109, 97, 112, 32, 115, 99, 97, 110] then
              some ((((4 : Int) :: ((4 : Int) :: ([] : List Int))), ((99 : Int), (false, (true, ())))), ())
            else
              some ((([] : List Int), ((0 : Int), (false, (false, ())))), ())
            else
              bif q p0 p1 [111, 109, 97, 112, 32, 100, 101, 108] then
              some ((((4 : Int) :: ([] : List Int)), ((-(1 : Int)), (false, (true, ())))), ())
            else
              bif q p0 p1 [109, 97, 120, 32, 114, 101, 97, 100] then
              some ((([] : List Int), ((4 : Int), (true, (true, ())))), ())
            else
              bif q p0 p1 [111, 109, 97, 112, 32, 112, 117, 116] then
              some ((((4 : Int) :: ((2 : Int) :: ([] : List Int))), ((-(1 : Int)), (false, (true, ())))), ())
            else
              bif q p0 p1 [111, 109, 97, 112, 32, 115, 99, 97, 110] then
              some ((((4 : Int) :: ((4 : Int) :: ([] : List Int))), ((99 : Int), (false, (true, ())))), ())
            else
              some ((([] : List Int), ((0 : Int), (false, (false, ())))), ())
            else
              bif q p0 p1 [108, 111, 99, 107, 32, 102, 114, 101, 101] then
              some ((([] : List Int), ((6 : Int), (false, (true, ())))), ())
            else
              bif q p0 p1 [99, 111, 117, 110, 116, 32, 97, 100, 100] then
              some ((((5 : Int) :: ([] : List Int)), ((-(1 : Int)), (false, (true, ())))), ())
            else
              bif q p0 p1 [99, 111, 117, 110, 116, 32, 114, 101, 97, 100] then
              some ((([] : List Int), ((5 : Int), (false, (true, ())))), ())
            else
              bif q p0 p1 [109, 97, 120, 32, 119, 114, 105, 116, 101] then
              bif q p0 p1 [109, 97, 120, 32, 119, 114, 105, 116, 101] then
              some ((((4 : Int) :: ([] : List Int)), ((-(1 : Int)), (false, (true, ())))), ())
            else
              bif q p0 p1 [109, 97, 120, 32, 114, 101, 97, 100] then
              some ((([] : List Int), ((4 : Int), (true, (true, ())))), ())
            else
              bif q p0 p1 [111, 109, 97, 112, 32, 112, 117, 116] then
              some ((((4 : Int) :: ((2 : Int) :: ([] : List Int))), ((-(1 : Int)), (false, (true, ())))), ())
            else
              bif q p0 p1 [111, 109, 97, 112, 32, 115, 99, 97, 110] then
              some ((((4 : Int) :: ((4 : Int) :: ([] : List Int))), ((99 : Int), (false, (true, ())))), ())
            else
              some ((([] : List Int), ((0 : Int), (false, (false, ())))), ())
            else
              bif q p0 p1 [111, 109, 97, 112, 32, 100, 101, 108] then
              some ((((4 : Int) :: ([] : List Int)), ((-(1 : Int)), (false, (true, ())))), ())
            else
              bif q p0 p1 [109, 97, 120, 32, 114, 101, 97, 100] then
              some ((([] : List Int), ((4 : Int), (true, (true, ())))), ())
            else
              bif q p0 p1 [111, 109, 97, 112, 32, 112, 117, 116] then
              some ((((4 : Int) :: ((2 : Int) :: ([] : List Int))), ((-(1 : Int)), (false, (true, ())))), ())
            else
              bif q p0 p1 [111, 109, 97, 112, 32, 115, 99, 97, 110] then
              some ((((4 : Int) :: ((4 : Int) :: ([] : List Int))), ((99 : Int), (false, (true, ())))), ())
            else
              some ((([] : List Int), ((0 : Int), (false, (false, ())))), ())
            else
              bif q p0 p1 [115, 116, 97, 99, 107, 32, 112, 111, 112] then
              some ((([] : List Int), ((2 : Int), (true, (true, ())))), ())
            else
              bif q p0 p1 [99, 97, 115, 32, 115, 119, 97, 112] then
              some ((((2 : Int) :: ((2 : Int) :: ([] : List Int))), ((6 : Int), (false, (true, ())))), ())
            else
              bif q p0 p1 [115, 101, 116, 32, 104, 97, 115] then
              some ((((2 : Int) :: ([] : List Int)), ((6 : Int), (false, (true, ())))), ())
            else
              bif q p0 p1 [109, 97, 112, 32, 112, 117, 116] then
              some ((((3 : Int) :: ((2 : Int) :: ([] : List Int))), ((-(1 : Int)), (false, (true, ())))), ())
            else
              bif q p0 p1 [109, 97, 112, 32, 103, 101, 116] then
              some ((((3 : Int) :: ([] : List Int)), ((2 : Int), (true, (true, ())))), ())
            else
              bif q p0 p1 [109, 97, 112, 32, 100, 101, 108] then
              some ((((3 : Int) :: ([] : List Int)), ((-(1 : Int)), (false, (true, ())))), ())
            else
              bif q p0 p1 [108, 111, 99, 107, 32, 116, 97, 107, 101] then
              bif q p0 p1 [108, 111, 99, 107, 32, 116, 97, 107, 101] then
              some ((([] : List Int), ((6 : Int), (false, (true, ())))), ())
            else
              bif q p0 p1 [99, 111, 117, 110, 116, 32, 97, 100, 100] then
              some ((((5 : Int) :: ([] : List Int)), ((-(1 : Int)), (false, (true, ())))), ())
            else
              bif q p0 p1 [99, 111, 117, 110, 116, 32, 114, 101, 97, 100] then
              some ((([] : List Int), ((5 : Int), (false, (true, ())))), ())
            else
              bif q p0 p1 [109, 97, 120, 32, 119, 114, 105, 116, 101] then
              bif q p0 p1 [109, 97, 120, 32, 119, 114, 105, 116, 101] then
              some ((((4 : Int) :: ([] : List Int)), ((-(1 : Int)), (false, (true, ())))), ())
            else
              bif q p0 p1 [109, 97, 120, 32, 114, 101, 97, 100] then
              some ((([] : List Int), ((4 : Int), (true, (true, ())))), ())
            else
              bif q p0 p1 [111, 109, 97, 112, 32, 112, 117, 116] then
              some ((((4 : Int) :: ((2 : Int) :: ([] : List Int))), ((-(1 : Int)), (false, (true, ())))), ())
            else
              bif q p0 p1 [111, 109, 97, 112, 32, 115, 99, 97, 110] then
              some ((((4 : Int) :: ((4 : Int) :: ([] : List Int))), ((99 : Int), (false, (true, ())))), ())
            else
              some ((([] : List Int), ((0 : Int), (false, (false, ())))), ())
            else
              bif q p0 p1 [111, 109, 97, 112, 32, 100, 101, 108] then
              some ((((4 : Int) :: ([] : List Int)), ((-(1 : Int)), (false, (true, ())))), ())
            else
              bif q p0 p1 [109, 97, 120, 32, 114, 101, 97, 100] then
              some ((([] : List Int), ((4 : Int), (true, (true, ())))), ())
            else
              bif q p0 p1 [111, 109, 97, 112, 32, 112, 117, 116] then
              some ((((4 : Int) :: ((2 : Int) :: ([] : List Int))), ((-(1 : Int)), (false, (true, ())))), ())
            else
              bif q p0 p1 [111, 109, 97, 112, 32, 115, 99, 97, 110] then
              some ((((4 : Int) :: ((4 : Int) :: ([] : List Int))), ((99 : Int), (false, (true, ())))), ())
            else
              some ((([] : List Int), ((0 : Int), (false, (false, ())))), ())
            else
              bif q p0 p1 [108, 111, 99, 107, 32, 102, 114, 101, 101] then
              some ((([] : List Int), ((6 : Int), (false, (true, ())))), ())
            else
              bif q p0 p1 [99, 111, 117, 110, 116, 32, 97, 100, 100] then
              some ((((5 : Int) :: ([] : List Int)), ((-(1 : Int)), (false, (true, ())))), ())
            else
              bif q p0 p1 [99, 111, 117, 110, 116, 32, 114, 101, 97, 100] then
              some ((([] : List Int), ((5 : Int), (false, (true, ())))), ())
            else
              bif q p0 p1 [109, 97, 120, 32, 119, 114, 105, 116, 101] then
              bif q p0 p1 [109, 97, 120, 32, 119, 114, 105, 116, 101] then
              some ((((4 : Int) :: ([] : List Int)), ((-(1 : Int)), (false, (true, ())))), ())
            else
              bif q p0 p1 [109, 97, 120, 32, 114, 101, 97, 100] then
              some ((([] : List Int), ((4 : Int), (true, (true, ())))), ())
            else
              bif q p0 p1 [111, 109, 97, 112, 32, 112, 117, 116] then
              some ((((4 : Int) :: ((2 : Int) :: ([] : List Int))), ((-(1 : Int)), (false, (true, ())))), ())
            else
              bif q p0 p1 [111, 109, 97, 112, 32, 115, 99, 97, 110] then
              some ((((4 : Int) :: ((4 : Int) :: ([] : List Int))), ((99 : Int), (false, (true, ())))), ())
            else
              some ((([] : List Int), ((0 : Int), (false, (false, ())))), ())
            else
              bif q p0 p1 [111, 109, 97, 112, 32, 100, 101, 108] then
              some ((((4 : Int) :: ([] : List Int)), ((-(1 : Int)), (false, (true, ())))), ())
            else
              bif q p0 p1 [109, 97, 120, 32, 114, 101, 97, 100] then
              some ((([] : List Int), ((4 : Int), (true, (true, ())))), ())
            else
              bif q p0 p1 [111, 109, 97, 112, 32, 112, 117, 116] then
              some ((((4 : Int) :: ((2 : Int) :: ([] : List Int))), ((-(1 : Int)), (false, (true, ())))), ())
            else
              bif q p0 p1 [111, 109, 97, 112, 32, 115, 99, 97, 110] then
              some ((((4 : Int) :: ((4 : Int) :: ([] : List Int))), ((99 : Int), (false, (true, ())))), ())
            else
              some ((([] : List Int), ((0 : Int), (false, (false, ())))), ())
      else
        bif q p0 p1 [99, 97, 115, 32, 119, 114, 105, 116, 101] then
          bif q p0 p1 [99, 97, 115, 32, 119, 114, 105, 116, 101] then
            some ((((2 : Int) :: ([] : List Int)), ((-(1 : Int)), (false, (true, ())))), ())
          else
            bif q p0 p1 [114, 101, 103, 32, 114, 101, 97, 100] then
              bif q p0 p1 [114, 101, 103, 32, 114, 101, 97, 100] then
              some ((([] : List Int), ((2 : Int), (true, (true, ())))), ())
            else
              bif q p0 p1 [99, 97, 115, 32, 115, 119, 97, 112] then
              some ((((2 : Int) :: ((2 : Int) :: ([] : List Int))), ((6 : Int), (false, (true, ())))), ())
            else
              bif q p0 p1 [115, 101, 116, 32, 104, 97, 115] then
              some ((((2 : Int) :: ([] : List Int)), ((6 : Int), (false, (true, ())))), ())
            else
              bif q p0 p1 [109, 97, 112, 32, 112, 117, 116] then
              some ((((3 : Int) :: ((2 : Int) :: ([] : List Int))), ((-(1 : Int)), (false, (true, ())))), ())
            else
              bif q p0 p1 [109, 97, 112, 32, 103, 101, 116] then
              some ((((3 : Int) :: ([] : List Int)), ((2 : Int), (true, (true, ())))), ())
            else
              bif q p0 p1 [109, 97, 112, 32, 100, 101, 108] then
              some ((((3 : Int) :: ([] : List Int)), ((-(1 : Int)), (false, (true, ())))), ())
            else
              bif q p0 p1 [108, 111, 99, 107, 32, 116, 97, 107, 101] then
              bif q p0 p1 [108, 111, 99, 107, 32, 116, 97, 107, 101] then
              some ((([] : List Int), ((6 : Int), (false, (true, ())))), ())
            else
              bif q p0 p1 [99, 111, 117, 110, 116, 32, 97, 100, 100] then
              some ((((5 : Int) :: ([] : List Int)), ((-(1 : Int)), (false, (true, ())))), ())
            else
              bif q p0 p1 [99, 111, 117, 110, 116, 32, 114, 101, 97, 100] then
              some ((([] : List Int), ((5 : Int), (false, (true, ())))), ())
            else
              bif q p0 p1 [109, 97, 120, 32, 119, 114, 105, 116, 101] then
              bif q p0 p1 [109, 97, 120, 32, 119, 114, 105, 116, 101] then
              some ((((4 : Int) :: ([] : List Int)), ((-(1 : Int)), (false, (true, ())))), ())
            else
              bif q p0 p1 [109, 97, 120, 32, 114, 101, 97, 100] then
              some ((([] : List Int), ((4 : Int), (true, (true, ())))), ())
            else
              bif q p0 p1 [111, 109, 97, 112, 32, 112, 117, 116] then
              some ((((4 : Int) :: ((2 : Int) :: ([] : List Int))), ((-(1 : Int)), (false, (true, ())))), ())
            else
              bif q p0 p1 [111, 109, 97, 112, 32, 115, 99, 97, 110] then
              some ((((4 : Int) :: ((4 : Int) :: ([] : List Int))), ((99 : Int), (false, (true, ())))), ())
            else
              some ((([] : List Int), ((0 : Int), (false, (false, ())))), ())
            else
              bif q p0 p1 [111, 109, 97, 112, 32, 100, 101, 108] then
              some ((((4 : Int) :: ([] : List Int)), ((-(1 : Int)), (false, (true, ())))), ())
            else
              bif q p0 p1 [109, 97, 120, 32, 114, 101, 97, 100] then
              some ((([] : List Int), ((4 : Int), (true, (true, ())))), ())
            else
              bif q p0 p1 [111, 109, 97, 112, 32, 112, 117, 116] then
              some ((((4 : Int) :: ((2 : Int) :: ([] : List Int))), ((-(1 : Int)), (false, (true, ())))), ())
            else
              bif q p0 p1 [111, 109, 97, 112, 32, 115, 99, 97, 110] then
              some ((((4 : Int) :: ((4 : Int) :: ([] : List Int))), ((99 : Int), (false, (true, ())))), ())
            else
              some ((([] : List Int), ((0 : Int), (false, (false, ())))), ())
            else
              bif q p0 p1 [108, 111, 99, 107, 32, 102, 114, 101, 101] then
              some ((([] : List Int), ((6 : Int), (false, (true, ())))), ())
            else
              bif q p0 p1 [99, 111, 117, 110, 116, 32, 97, 100, 100] then
              some ((((5 : Int) :: ([] : List Int)), ((-(1 : Int)), (false, (true, ())))), ())
            else
              bif q p0 p1 [99, 111, 117, 110, 116, 32, 114, 101, 97, 100] then
              some ((([] : List Int), ((5 : Int), (false, (true, ())))), ())
            else
              bif q p0 p1 [109, 97, 120, 32, 119, 114, 105, 116, 101] then
              bif q p0 p1 [109, 97, 120, 32, 119, 114, 105, 116, 101] then
              some ((((4 : Int) :: ([] : List Int)), ((-(1 : Int)), (false, (true, ())))), ())
            else
              bif q p0 p1 [109, 97, 120, 32, 114, 101, 97, 100] then
              some ((([] : List Int), ((4 : Int), (true, (true, ())))), ())
            else
              bif q p0 p1 [111, 109, 97, 112, 32, 112, 117, 116] then
              some ((((4 : Int) :: ((2 : Int) :: ([] : List Int))), ((-(1 : Int)), (false, (true, ())))), ())
            else
              bif q p0 p1 [111, 109, 97, 112, 32, 115, 99, 97, 110] then
              some ((((4 : Int) :: ((4 : Int) :: ([] : List Int))), ((99 : Int), (false, (true, ())))), ())
            else
              some ((([] : List Int), ((0 : Int), (false, (false, ())))), ())
            else
              bif q p0 p1 [111, 109, 97, 112, 32, 100, 101, 108] then
              some ((((4 : Int) :: ([] : List Int)), ((-(1 : Int)), (false, (true, ())))), ())
            else
              bif q p0 p1 [109, 97, 120, 32, 114, 101, 97, 100] then
              some ((([] : List Int), ((4 : Int), (true, (true, ())))), ())
            else
              bif q p0 p1 [111, 109, 97, 112, 32, 112, 117, 116] then
              some ((((4 : Int) :: ((2 : Int) :: ([] : List Int))), ((-(1 : Int)), (false, (true, ())))), ())
            else
              bif q p0 p1 [111, 109, 97, 112, 32, 115, 99, 97, 110] then
              some ((((4 : Int) :: ((4 : Int) :: ([] : List Int))), ((99 : Int), (false, (true, ())))), ())
            else
              some ((([] : List Int), ((0 : Int), (false, (false, ())))), ())
            else
              bif q p0 p1 [99, 97, 115, 32, 114, 101, 97, 100] then
              bif q p0 p1 [99, 97, 115, 32, 114, 101, 97, 100] then
              some ((([] : List Int), ((2 : Int), (true, (true, ())))), ())
            else
              bif q p0 p1 [99, 97, 115, 32, 115, 119, 97, 112] then
              some ((((2 : Int) :: ((2 : Int) :: ([] : List Int))), ((6 : Int), (false, (true, ())))), ())
            else
              bif q p0 p1 [115, 101, 116, 32, 104, 97, 115] then
              some ((((2 : Int) :: ([] : List Int)), ((6 : Int), (false, (true, ())))), ())
            else
              bif q p0 p1 [109, 97, 112, 32, 112, 117, 116] then
              some ((((3 : Int) :: ((2 : Int) :: ([] : List Int))), ((-(1 : Int)), (false, (true, ())))), ())
            else
              bif q p0 p1 [109, 97, 112, 32, 103, 101, 116] then
              some ((((3 : Int) :: ([] : List Int)), ((2 : Int), (true, (true, ())))), ())
            else
              bif q p0 p1 [109, 97, 112, 32, 100, 101, 108] then
              some ((((3 : Int) :: ([] : List Int)), ((-(1 : Int)), (false, (true, ())))), ())
            else
              bif q p0 p1 [108, 111, 99, 107, 32, 116, 97, 107, 101] then
              bif q p0 p1 [108, 111, 99, 107, 32, 116, 97, 107, 101] then
              some ((([] : List Int), ((6 : Int), (false, (true, ())))), ())
            else
              bif q p0 p1 [99, 111, 117, 110, 116, 32, 97, 100, 100] then
              some ((((5 : Int) :: ([] : List Int)), ((-(1 : Int)), (false, (true, ())))), ())
            else
              bif q p0 p1 [99, 111, 117, 110, 116, 32, 114, 101, 97, 100] then
              some ((([] : List Int), ((5 : Int), (false, (true, ())))), ())
            else
              bif q p0 p1 [109, 97, 120, 32, 119, 114, 105, 116, 101] then
              bif q p0 p1 [109, 97, 120, 32, 119, 114, 105, 116, 101] then
              some ((((4 : Int) :: ([] : List Int)), ((-(1 : Int)), (false, (true, ())))), ())
            else
              bif q p0 p1 [109, 97, 120, 32, 114, 101, 97, 100] then
              some ((([] : List Int), ((4 : Int), (true, (true, ())))), ())
            else
              bif q p0 p1 [111, 109, 97, 112, 32, 112, 117, 116] then
              some ((((4 : Int) :: ((2 : Int) :: ([] : List Int))), ((-(1 : Int)), (false, (true, ())))), ())
            else
              bif q p0 p1 [111, 109, 97, 112, 32, 115, 99, 97, 110] then
              some ((((4 : Int) :: ((4 : Int) :: ([] : List Int))), ((99 : Int), (false, (true, ())))), ())
            else
              some ((([] : List Int), ((0 : Int), (false, (false, ())))), ())
            else
              bif q p0 p1 [111, 109, 97, 112, 32, 100, 101, 108] then
              some ((((4 : Int) :: ([] : List Int)), ((-(1 : Int)), (false, (true, ())))), ())
            else
              bif q p0 p1 [109, 97, 120, 32, 114, 101, 97, 100] then
              some ((([] : List Int), ((4 : Int), (true, (true, ())))), ())
            else
              bif q p0 p1 [111, 109, 97, 112, 32, 112, 117, 116] then
              some ((((4 : Int) :: ((2 : Int) :: ([] : List Int))), ((-(1 : Int)), (false, (true, ())))), ())
            else
              bif q p0 p1 [111, 109, 97, 112, 32, 115, 99, 97, 110] then
              some ((((4 : Int) :: ((4 : Int) :: ([] : List Int))), ((99 : Int), (false, (true, ())))), ())
            else
              some ((([] : List Int), ((0 : Int), (false, (false, ())))), ())
            else
              bif q p0 p1 [108, 111, 99, 107, 32, 102, 114, 101, 101] then
              some ((([] : List Int), ((6 : Int), (false, (true, ())))), ())
            else
              bif q p0 p1 [99, 111, 117, 110, 116, 32, 97, 100, 100] then
              some ((((5 : Int) :: ([] : List Int)), ((-(1 : Int)), (false, (true, ())))), ())
            else
              bif q p0 p1 [99, 111, 117, 110, 116, 32, 114, 101, 97, 100] then
              some ((([] : List Int), ((5 : Int), (false, (true, ())))), ())
            else
              bif q p0 p1 [109, 97, 120, 32, 119, 114, 105, 116, 101] then
              bif q p0 p1 [109, 97, 120, 32, 119, 114, 105, 116, 101] then
              some ((((4 : Int) :: ([] : List Int)), ((-(1 : Int)), (false, (true, ())))), ())
            else
              bif q p0 p1 [109, 97, 120, 32, 114, 101, 97, 100] then
              some ((([] : List Int), ((4 : Int), (true, (true, ())))), ())
            else
              bif q p0 p1 [111, 109, 97, 112, 32, 112, 117, 116] then
              some ((((4 : Int) :: ((2 : Int) :: ([] : List Int))), ((-(1 : Int)), (false, (true, ())))), ())
            else
              bif q p0 p1 [111, 109, 97, 112, 32, 115, 99, 97, 110] then
              some ((((4 : Int) :: ((4 : Int) :: ([] : List Int))), ((99 : Int), (false, (true, ())))), ())
            else
              some ((([] : List Int), ((0 : Int), (false, (false, ())))), ())
            else
              bif q p0 p1 [111, 109, 97, 112, 32, 100, 101, 108] then
              some ((((4 : Int) :: ([] : List Int)), ((-(1 : Int)), (false, (true, ())))), ())
            else
              bif q p0 p1 [109, 97, 120, 32, 114, 101, 97, 100] then
              some ((([] : List Int), ((4 : Int), (true, (true, ())))), ())
            else
              bif q p0 p1 [111, 109, 97, 112, 32, 112, 117, 116] then
              some ((((4 : Int) :: ((2 : Int) :: ([] : List Int))), ((-(1 : Int)), (false, (true, ())))), ())
            else
              bif q p0 p1 [111, 109, 97, 112, 32, 115, 99, 97, 110] then
              some ((((4 : Int) :: ((4 : Int) :: ([] : List Int))), ((99 : Int), (false, (true, ())))), ())
            else
              some ((([] : List Int), ((0 : Int), (false, (false, ())))), ())
            else
              bif q p0 p1 [102, 105, 102, 111, 32, 112, 111, 112] then
              bif q p0 p1 [102, 105, 102, 111, 32, 112, 111, 112] then
              some ((([] : List Int), ((2 : Int), (true, (true, ())))), ())
            else
              bif q p0 p1 [99, 97, 115, 32, 115, 119, 97, 112] then
              some ((((2 : Int) :: ((2 : Int) :: ([] : List Int))), ((6 : Int), (false, (true, ())))), ())
            else
              bif q p0 p1 [115, 101, 116, 32, 104, 97, 115] then
              some ((((2 : Int) :: ([] : List Int)), ((6 : Int), (false, (true, ())))), ())
            else
              bif q p0 p1 [109, 97, 112, 32, 112, 117, 116] then
              some ((((3 : Int) :: ((2 : Int) :: ([] : List Int))), ((-(1 : Int)), (false, (true, ())))), ())
            else
              bif q p0 p1 [109, 97, 112, 32, 103, 101, 116] then
              some ((((3 : Int) :: ([] : List Int)), ((2 : Int), (true, (true, ())))), ())
            else
              bif q p0 p1 [109, 97, 112, 32, 100, 101, 108] then
              some ((((3 : Int) :: ([] : List Int)), ((-(1 : Int)), (false, (true, ())))), ())
            else
              bif q p0 p1 [108, 111, 99, 107, 32, 116, 97, 107, 101] then
              bif q p0 p1 [108, 111, 99, 107, 32, 116, 97, 107, 101] then
              some ((([] : List Int), ((6 : Int), (false, (true, ())))), ())
            else
              bif q p0 p1 [99, 111, 117, 110, 116, 32, 97, 100, 100] then
              some ((((5 : Int) :: ([] : List Int)), ((-(1 : Int)), (false, (true, ())))), ())
            else
              bif q p0 p1 [99, 111, 117, 110, 116, 32, 114, 101, 97, 100] then
              some ((([] : List Int), ((5 : Int), (false, (true, ())))), ())
            else
              bif q p0 p1 [109, 97, 120, 32, 119, 114, 105, 116, 101] then
              bif q p0 p1 [109, 97, 120, 32, 119, 114, 105, 116, 101] then
              some ((((4 : Int) :: ([] : List Int)), ((-(1 : Int)), (false, (true, ())))), ())
            else
              bif q p0 p1 [109, 97, 120, 32, 114, 101, 97, 100] then
              some ((([] : List Int), ((4 : Int), (true, (true, ())))), ())
            else
              bif q p0 p1 [111, 109, 97, 112, 32, 112, 117, 116] then
              some ((((4 : Int) :: ((2 : Int) :: ([] : List Int))), ((-(1 : Int)), (false, (true, ())))), ())
            else
              bif q p0 p1 [111, 109, 97, 112, 32, 115, 99, 97, 110] then
              some ((((4 : Int) :: ((4 : Int) :: ([] : List Int))), ((99 : Int), (false, (true, ())))), ())
            else
              some ((([] : List Int), ((0 : Int), (false, (false, ())))), ())
            else
              bif q p0 p1 [111, 109, 97, 112, 32, 100, 101, 108] then
              some ((((4 : Int) :: ([] : List Int)), ((-(1 : Int)), (false, (true, ())))), ())
            else
              bif q p0 p1 [109, 97, 120, 32, 114, 101, 97, 100] then
              some ((([] : List Int), ((4 : Int), (true, (true, ())))), ())
            else
              bif q p0 p1 [111, 109, 97, 112, 32, 112, 117, 116] then
              some ((((4 : Int) :: ((2 : Int) :: ([] : List Int))), ((-(1 : Int)), (false, (true, ())))), ())
            else
              bif q p0 p1 [111, 109, 97, 112, 32, 115, 99, 97, 110] then
              some ((((4 : Int) :: ((4 : Int) :: ([] : List Int))), ((99 : Int), (false, (true, ())))), ())
            else
              some ((([] : List Int), ((0 : Int), (false, (false, ())))), ())
            else
              bif q p0 p1 [108, 111, 99, 107, 32, 102, 114, 101, 101] then
              some ((([] : List Int), ((6 : Int), (false, (true, ())))), ())
            else
              bif q p0 p1 [99, 111, 117, 110, 116, 32, 97, 100, 100] then
              some ((((5 : Int) :: ([] : List Int)), ((-(1 : Int)), (false, (true, ())))), ())
            else
              bif q p0 p1 [99, 111, 117, 110, 116, 32, 114, 101, 97, 100] then
              some ((([] : List Int), ((5 : Int), (false, (true, ())))), ())
            else
              bif q p0 p1 [109, 97, 120, 32, 119, 114, 105, 116, 101] then
              bif q p0 p1 [109, 97, 120, 32, 119, 114, 105, 116, 101] then
              some ((((4 : Int) :: ([] : List Int)), ((-(1 : Int)), (false, (true, ())))), ())
            else
              bif q p0 p1 [109, 97, 120, 32, 114, 101, 97, 100] then
              some ((([] : List Int), ((4 : Int), (true, (true, ())))), ())
            else
              bif q p0 p1 [111, 109, 97, 112, 32, 112, 117, 116] then
              some ((((4 : Int) :: ((2 : Int) :: ([] : List Int))), ((-(1 : Int)), (false, (true, ())))), ())
            else
              bif q p0 p1 [111, 109, 97, 112, 32, 115, 99, 97, 110] then
              some ((((4 : Int) :: ((4 : Int) :: ([] : List Int))), ((99 : Int), (false, (true, ())))), ())
            else
              some ((([] : List Int), ((0 : Int), (false, (false, ())))), ())
            else
              bif q p0 p1 [111, 109, 97, 112, 32, 100, 101, 108] then
              some ((((4 : Int) :: ([] : List Int)), ((-(1 : Int)), (false, (true, ())))), ())
            else
              bif q p0 p1 [109, 97, 120, 32, 114, 101, 97, 100] then
              some ((([] : List Int), ((4 : Int), (true, (true, ())))), ())
            else
              bif q p0 p1 [111, 109, 97, 112, 32, 112, 117, 116] then
              some ((((4 : Int) :: ((2 : Int) :: ([] : List Int))), ((-(1 : Int)), (false, (true, ())))), ())
            else
              bif q p0 p1 [111, 109, 97, 112, 32, 115, 99, 97, 110] then
              some ((((4 : Int) :: ((4 : Int) :: ([] : List Int))), ((99 : Int), (false, (true, ())))), ())
            else
              some ((([] : List Int), ((0 : Int), (false, (false, ())))), ())
            else
              bif q p0 p1 [115, 116, 97, 99, 107, 32, 112, 111, 112] then
              some ((([] : List Int), ((2 : Int), (true, (true, ())))), ())
            else
              bif q p0 p1 [99, 97, 115, 32, 115, 119, 97, 112] then
              some ((((2 : Int) :: ((2 : Int) :: ([] : List Int))), ((6 : Int), (false, (true, ())))), ())
            else
              bif q p0 p1 [115, 101, 116, 32, 104, 97, 115] then
              some ((((2 : Int) :: ([] : List Int)), ((6 : Int), (false, (true, ())))), ())
            else
              bif q p0 p1 [109, 97, 112, 32, 112, 117, 116] then
              some ((((3 : Int) :: ((2 : Int) :: ([] : List Int))), ((-(1 : Int)), (false, (true, ())))), ())
            else
              bif q p0 p1 [109, 97, 112, 32, 103, 101, 116] then
              some ((((3 : Int) :: ([] : List Int)), ((2 : Int), (true, (true, ())))), ())
            else
              bif q p0 p1 [109, 97, 112, 32, 100, 101, 108] then
              some ((((3 : Int) :: ([] : List Int)), ((-(1 : Int)), (false, (true, ())))), ())
            else
              bif q p0 p1 [108, 111, 99, 107, 32, 116, 97, 107, 101] then
              bif q p0 p1 [108, 111, 99, 107, 32, 116, 97, 107, 101] then
              some ((([] : List Int), ((6 : Int), (false, (true, ())))), ())
            else
              bif q p0 p1 [99, 111, 117, 110, 116, 32, 97, 100, 100] then
              some ((((5 : Int) :: ([] : List Int)), ((-(1 : Int)), (false, (true, ())))), ())
            else
              bif q p0 p1 [99, 111, 117, 110, 116, 32, 114, 101, 97, 100] then
              some ((([] : List Int), ((5 : Int), (false, (true, ())))), ())
            else
              bif q p0 p1 [109, 97, 120, 32, 119, 114, 105, 116, 101] then
              bif q p0 p1 [109, 97, 120, 32, 119, 114, 105, 116, 101] then
              some ((((4 : Int) :: ([] : List Int)), ((-(1 : Int)), (false, (true, ())))), ())
            else
              bif q p0 p1 [109, 97, 120, 32, 114, 101, 97, 100] then
              some ((([] : List Int), ((4 : Int), (true, (true, ())))), ())
            else
              bif q p0 p1 [111, 109, 97, 112, 32, 112, 117, 116] then
              some ((((4 : Int) :: ((2 : Int) :: ([] : List Int))), ((-(1 : Int)), (false, (true, ())))), ())
            else
              bif q p0 p1 [111, 109, 97, 112, 32, 115, 99, 97, 110] then
              some ((((4 : Int) :: ((4 : Int) :: ([] : List Int))), ((99 : Int), (false, (true, ())))), ())
            else
              some ((([] : List Int), ((0 : Int), (false, (false, ())))), ())
            else
              bif q p0 p1 [111, 109, 97, 112, 32, 100, 101, 108] then
              some ((((4 : Int) :: ([] : List Int)), ((-(1 : Int)), (false, (true, ())))), ())
            else
              bif q p0 p1 [109, 97, 120, 32, 114, 101, 97, 100] then
              some ((([] : List Int), ((4 : Int), (true, (true, ())))), ())
            else
              bif q p0 p1 [111, 109, 97, 112, 32, 112, 117, 116] then
              some ((((4 : Int) :: ((2 : Int) :: ([] : List Int))), ((-(1 : Int)), (false, (true, ())))), ())
            else
              bif q p0 p1 [111, 109, 97, 112, 32, 115, 99, 97, 110] then
              some ((((4 : Int) :: ((4 : Int) :: ([] : List Int))), ((99 : Int), (false, (true, ())))), ())
            else
              some ((([] : List Int), ((0 : Int), (false, (false, ())))), ())
            else
              bif q p0 p1 [108, 111, 99, 107, 32, 102, 114, 101, 101] then
              some ((([] : List Int), ((6 : Int), (false, (true, ())))), ())
            else
              bif q p0 p1 [99, 111, 117, 110, 116, 32, 97, 100, 100] then
              some ((((5 : Int) :: ([] : List Int)), ((-(1 : Int)), (false, (true, ())))), ())
            else
              bif q p0 p1 [99, 111, 117, 110, 116, 32, 114, 101, 97, 100] then
              some ((([] : List Int), ((5 : Int), (false, (true, ())))), ())
            else
              bif q p0 p1 [109, 97, 120, 32, 119, 114, 105, 116, 101] then
              bif q p0 p1 [109, 97, 120, 32, 119, 114, 105, 116, 101] then
              some ((((4 : Int) :: ([] : List Int)), ((-(1 : Int)), (false, (true, ())))), ())
            else
              bif q p0 p1 [109, 97, 120, 32, 114, 101, 97, 100] then
              some ((([] : List Int), ((4 : Int), (true, (true, ())))), ())
            else
              bif q p0 p1 [111, 109, 97, 112, 32, 112, 117, 116] then
              some ((((4 : Int) :: ((2 : Int) :: ([] : List Int))), ((-(1 : Int)), (false, (true, ())))), ())
            else
              bif q p0 p1 [111, 109, 97, 112, 32, 115, 99, 97, 110] then
              some ((((4 : Int) :: ((4 : Int) :: ([] : List Int))), ((99 : Int), (false, (true, ())))), ())
            else
              some ((([] : List Int), ((0 : Int), (false, (false, ())))), ())
            else
              bif q p0 p1 [111, 109, 97, 112, 32, 100, 101, 108] then
              some ((((4 : Int) :: ([] : List Int)), ((-(1 : Int)), (false, (true, ())))), ())
            else
              bif q p0 p1 [109, 97, 120, 32, 114, 101, 97, 100] then
              some ((([] : List Int), ((4 : Int), (true, (true, ())))), ())
            else
              bif q p0 p1 [111, 109, 97, 112, 32, 112, 117, 116] then
              some ((((4 : Int) :: ((2 : Int) :: ([] : List Int))), ((-(1 : Int)), (false, (true, ())))), ())
            else
              bif q p0 p1 [111, 109, 97, 112, 32, 115, 99, 97, 110] then
              some ((((4 : Int) :: ((4 : Int) :: ([] : List Int))), ((99 : Int), (false, (true, ())))), ())
            else
              some ((([] : List Int), ((0 : Int), (false, (false, ())))), ())
        else
          bif q p0 p1 [115, 101, 116, 32, 97, 100, 100] then
            bif q p0 p1 [115, 101, 116, 32, 97, 100, 100] then
              some ((((2 : Int) :: ([] : List Int)), ((-(1 : Int)), (false, (true, ())))), ())
            else
              bif q p0 p1 [114, 101, 103, 32, 114, 101, 97, 100] then
              bif q p0 p1 [114, 101, 103, 32, 114, 101, 97, 100] then
              some ((([] : List Int), ((2 : Int), (true, (true, ())))), ())
            else
              bif q p0 p1 [99, 97, 115, 32, 115, 119, 97, 112] then
              some ((((2 : Int) :: ((2 : Int) :: ([] : List Int))), ((6 : Int), (false, (true, ())))), ())
            else
              bif q p0 p1 [115, 101, 116, 32, 104, 97, 115] then
              some ((((2 : Int) :: ([] : List Int)), ((6 : Int), (false, (true, ())))), ())
            else
              bif q p0 p1 [109, 97, 112, 32, 112, 117, 116] then
              some ((((3 : Int) :: ((2 : Int) :: ([] : List Int))), ((-(1 : Int)), (false, (true, ())))), ())
            else
              bif q p0 p1 [109, 97, 112, 32, 103, 101, 116] then
              some ((((3 : Int) :: ([] : List Int)), ((2 : Int), (true, (true, ())))), ())
            else
              bif q p0 p1 [109, 97, 112, 32, 100, 101, 108] then
              some ((((3 : Int) :: ([] : List Int)), ((-(1 : Int)), (false, (true, ())))), ())
            else
              bif q p0 p1 [108, 111, 99, 107, 32, 116, 97, 107, 101] then
              bif q p0 p1 [108, 111, 99, 107, 32, 116, 97, 107, 101] then
              some ((([] : List Int), ((6 : Int), (false, (true, ())))), ())
            else
              bif q p0 p1 [99, 111, 117, 110, 116, 32, 97, 100, 100] then
              some ((((5 : Int) :: ([] : List Int)), ((-(1 : Int)), (false, (true, ())))), ())
            else
              bif q p0 p1 [99, 111, 117, 110, 116, 32, 114, 101, 97, 100] then
              some ((([] : List Int), ((5 : Int), (false, (true, ())))), ())
            else
              bif q p0 p1 [109, 97, 120, 32, 119, 114, 105, 116, 101] then
              bif q p0 p1 [109, 97, 120, 32, 119, 114, 105, 116, 101] then
              some ((((4 : Int) :: ([] : List Int)), ((-(1 : Int)), (false, (true, ())))), ())
            else
              bif q p0 p1 [109, 97, 120, 32, 114, 101, 97, 100] then
              some ((([] : List Int), ((4 : Int), (true, (true, ())))), ())
            else
              bif q p0 p1 [111, 109, 97, 112, 32, 112, 117, 116] then
              some ((((4 : Int) :: ((2 : Int) :: ([] : List Int))), ((-(1 : Int)), (false, (true, ())))), ())
            else
              bif q p0 p1 [111, 109, 97, 112, 32, 115, 99, 97, 110] then
              some ((((4 : Int) :: ((4 : Int) :: ([] : List Int))), ((99 : Int), (false, (true, ())))), ())
            else
              some ((([] : List Int), ((0 : Int), (false, (false, ())))), ())
            else
              bif q p0 p1 [111, 109, 97, 112, 32, 100, 101, 108] then
              some ((((4 : Int) :: ([] : List Int)), ((-(1 : Int)), (false, (true, ())))), ())
            else
              bif q p0 p1 [109, 97, 120, 32, 114, 101, 97, 100] then
              some ((([] : List Int), ((4 : Int), (true, (true, ())))), ())
            else
              bif q p0 p1 [111, 109, 97, 112, 32, 112, 117, 116] then
              some ((((4 : Int) :: ((2 : Int) :: ([] : List Int))), ((-(1 : Int)), (false, (true, ())))), ())
            else
              bif q p0 p1 [111, 109, 97, 112, 32, 115, 99, 97, 110] then
              some ((((4 : Int) :: ((4 : Int) :: ([] : List Int))), ((99 : Int), (false, (true, ())))), ())
            else
              some ((([] : List Int), ((0 : Int), (false, (false, ())))), ())
            else
              bif q p0 p1 [108, 111, 99, 107, 32, 102, 114, 101, 101] then
              some ((([] : List Int), ((6 : Int), (false, (true, ())))), ())
            else
              bif q p0 p1 [99, 111, 117, 110, 116, 32, 97, 100, 100] then
              some ((((5 : Int) :: ([] : List Int)), ((-(1 : Int)), (false, (true, ())))), ())
            else
              bif q p0 p1 [99, 111, 117, 110, 116, 32, 114, 101, 97, 100] then
              some ((([] : List Int), ((5 : Int), (false, (true, ())))), ())
            else
              bif q p0 p1 [109, 97, 120, 32, 119, 114, 105, 116, 101] then
              bif q p0 p1 [109, 97, 120, 32, 119, 114, 105, 116, 101] then
              some ((((4 : Int) :: ([] : List Int)), ((-(1 : Int)), (false, (true, ())))), ())
            else
              bif q p0 p1 [109, 97, 120, 32, 114, 101, 97, 100] then
              some ((([] : List Int), ((4 : Int), (true, (true, ())))), ())
            else
              bif q p0 p1 [111, 109, 97, 112, 32, 112, 117, 116] then
              some ((((4 : Int) :: ((2 : Int) :: ([] : List Int))), ((-(1 : Int)), (false, (true, ())))), ())
            else
              bif q p0 p1 [111, 109, 97, 112, 32, 115, 99, 97, 110] then
              some ((((4 : Int) :: ((4 : Int) :: ([] : List Int))), ((99 : Int), (false, (true, ())))), ())
            else
              some ((([] : List Int), ((0 : Int), (false, (false, ())))), ())
            else
              bif q p0 p1 [111, 109, 97, 112, 32, 100, 101, 108] then
              some ((((4 : Int) :: ([] : List Int)), ((-(1 : Int)), (false, (true, ())))), ())
            else
              bif q p0 p1 [109, 97, 120, 32, 114, 101, 97, 100] then
              some ((([] : List Int), ((4 : Int), (true, (true, ())))), ())
            else
              bif q p0 p1 [111, 109, 97, 112, 32, 112, 117, 116] then
              some ((((4 : Int) :: ((2 : Int) :: ([] : List Int))), ((-(1 : Int)), (false, (true, ())))), ())
            else
              bif q p0 p1 [111, 109, 97, 112, 32, 115, 99, 97, 110] then
              some ((((4 : Int) :: ((4 : Int) :: ([] : List Int))), ((99 : Int), (false, (true, ())))), ())
            else
              some ((([] : List Int), ((0 : Int), (false, (false, ())))), ())
            else
              bif q p0 p1 [99, 97, 115, 32, 114, 101, 97, 100] then
              bif q p0 p1 [99, 97, 115, 32, 114, 101, 97, 100] then
              some ((([] : List Int), ((2 : Int), (true, (true, ())))), ())
            else
              bif q p0 p1 [99, 97, 115, 32, 115, 119, 97, 112] then
              some ((((2 : Int) :: ((2 : Int) :: ([] : List Int))), ((6 : Int), (false, (true, ())))), ())
            else
              bif q p0 p1 [115, 101, 116, 32, 104, 97, 115] then
              some ((((2 : Int) :: ([] : List Int)), ((6 : Int), (false, (true, ())))), ())
            else
              bif q p0 p1 [109, 97, 112, 32, 112, 117, 116] then
              some ((((3 : Int) :: ((2 : Int) :: ([] : List Int))), ((-(1 : Int)), (false, (true, ())))), ())
            else
              bif q p0 p1 [109, 97, 112, 32, 103, 101, 116] then
              some ((((3 : Int) :: ([] : List Int)), ((2 : Int), (true, (true, ())))), ())
            else
              bif q p0 p1 [109, 97, 112, 32, 100, 101, 108] then
              some ((((3 : Int) :: ([] : List Int)), ((-(1 : Int)), (false, (true, ())))), ())
            else
              bif q p0 p1 [108, 111, 99, 107, 32, 116, 97, 107, 101] then
              bif q p0 p1 [108, 111, 99, 107, 32, 116, 97, 107, 101] then
              some ((([] : List Int), ((6 : Int), (false, (true, ())))), ())
            else
              bif q p0 p1 [99, 111, 117, 110, 116, 32, 97, 100, 100] then
              some ((((5 : Int) :: ([] : List Int)), ((-(1 : Int)), (false, (true, ())))), ())
            else
              bif q p0 p1 [99, 111, 117, 110, 116, 32, 114, 101, 97, 100] then
              some ((([] : List Int), ((5 : Int), (false, (true, ())))), ())
            else
              bif q p0 p1 [109, 97, 120, 32, 119, 114, 105, 116, 101] then
              bif q p0 p1 [109, 97, 120, 32, 119, 114, 105, 116, 101] then
              some ((((4 : Int) :: ([] : List Int)), ((-(1 : Int)), (false, (true, ())))), ())
            else
              bif q p0 p1 [109, 97, 120, 32, 114, 101, 97, 100] then
              some ((([] : List Int), ((4 : Int), (true, (true, ())))), ())
            else
              bif q p0 p1 [111, 109, 97, 112, 32, 112, 117, 116] then
              some ((((4 : Int) :: ((2 : Int) :: ([] : List Int))), ((-(1 : Int)), (false, (true, ())))), ())
            else
              bif q p0 p1 [111, 109, 97, 112, 32, 115, 99, 97, 110] then
              some ((((4 : Int) :: ((4 : Int) :: ([] : List Int))), ((99 : Int), (false, (true, ())))), ())
            else
              some ((([] : List Int), ((0 : Int), (false, (false, ())))), ())
            else
              bif q p0 p1 [111, 109, 97, 112, 32, 100, 101, 108] then
              some ((((4 : Int) :: ([] : List Int)), ((-(1 : Int)), (false, (true, ())))), ())
            else
              bif q p0 p1 [109, 97, 120, 32, 114, 101, 97, 100] then
              some ((([] : List Int), ((4 : Int), (true, (true, ())))), ())
            else
              bif q p0 p1 [111, 109, 97, 112, 32, 112, 117, 116] then
              some ((((4 : Int) :: ((2 : Int) :: ([] : List Int))), ((-(1 : Int)), (false, (true, ())))), ())
            else
              bif q p0 p1 [111, 109, 97, 112, 32, 115, 99, 97, 110] then
              some ((((4 : Int) :: ((4 : Int) :: ([] : List Int))), ((99 : Int), (false, (true, ())))), ())
            else
              some ((([] : List Int), ((0 : Int), (false, (false, ())))), ())
            else
              bif q p0 p1 [108, 111, 99, 107, 32, 102, 114, 101, 101] then
              some ((([] : List Int), ((6 : Int), (false, (true, ())))), ())
            else
              bif q p0 p1 [99, 111, 117, 110, 116, 32, 97, 100, 100] then
              some ((((5 : Int) :: ([] : List Int)), ((-(1 : Int)), (false, (true, ())))), ())
            else
              bif q p0 p1 [99, 111, 117, 110, 116, 32, 114, 101, 97, 100] then
              some ((([] : List Int), ((5 : Int), (false, (true, ())))), ())
            else
              bif q p0 p1 [109, 97, 120, 32, 119, 114, 105, 116, 101] then
              bif q p0 p1 [109, 97, 120, 32, 119, 114, 105, 116, 101] then
              some ((((4 : Int) :: ([] : List Int)), ((-(1 : Int)), (false, (true, ())))), ())
            else
              bif q p0 p1 [109, 97, 120, 32, 114, 101, 97, 100] then
              some ((([] : List Int), ((4 : Int), (true, (true, ())))), ())
            else
              bif q p0 p1 [111, 109, 97, 112, 32, 112, 117, 116] then
              some ((((4 : Int) :: ((2 : Int) :: ([] : List Int))), ((-(1 : Int)), (false, (true, ())))), ())
            else
              bif q p0 p1 [111, 109, 97, 112, 32, 115, 99, 97, 110] then
              some ((((4 : Int) :: ((4 : Int) :: ([] : List Int))), ((99 : Int), (false, (true, ())))), ())
            else
              some ((([] : List Int), ((0 : Int), (false, (false, ())))), ())
            else
              bif q p0 p1 [111, 109, 97, 112, 32, 100, 101, 108] then
              some ((((4 : Int) :: ([] : List Int)), ((-(1 : Int)), (false, (true, ())))), ())
            else
              bif q p0 p1 [109, 97, 120, 32, 114, 101, 97, 100] then
              some ((([] : List Int), ((4 : Int), (true, (true, ())))), ())
            else
              bif q p0 p1 [111, 109, 97, 112, 32, 112, 117, 116] then
              some ((((4 : Int) :: ((2 : Int) :: ([] : List Int))), ((-(1 : Int)), (false, (true, ())))), ())
            else
              bif q p0 p1 [111, 109, 97, 112, 32, 115, 99, 97, 110] then
              some ((((4 : Int) :: ((4 : Int) :: ([] : List Int))), ((99 : Int), (false, (true, ())))), ())
            else
              some ((([] : List Int), ((0 : Int), (false, (false, ())))), ())
            else
              bif q p0 p1 [102, 105, 102, 111, 32, 112, 111, 112] then
              bif q p0 p1 [102, 105, 102, 111, 32, 112, 111, 112] then
              some ((([] : List Int), ((2 : Int), (true, (true, ())))), ())
            else
              bif q p0 p1 [99, 97, 115, 32, 115, 119, 97, 112] then
              some ((((2 : Int) :: ((2 : Int) :: ([] : List Int))), ((6 : Int), (false, (true, ())))), ())
            else
              bif q p0 p1 [115, 101, 116, 32, 104, 97, 115] then
              some ((((2 : Int) :: ([] : List Int)), ((6 : Int), (false, (true, ())))), ())
            else
              bif q p0 p1 [109, 97, 112, 32, 112, 117, 116] then
              some ((((3 : Int) :: ((2 : Int) :: ([] : List Int))), ((-(1 : Int)), (false, (true, ())))), ())
            else
              bif q p0 p1 [109, 97, 112, 32, 103, 101, 116] then
              some ((((3 : Int) :: ([] : List Int)), ((2 : Int), (true, (true, ())))), ())
            else
              bif q p0 p1 [109, 97, 112, 32, 100, 101, 108] then
              some ((((3 : Int) :: ([] : List Int)), ((-(1 : Int)), (false, (true, ())))), ())
            else
              bif q p0 p1 [108, 111, 99, 107, 32, 116, 97, 107, 101] then
              bif q p0 p1 [108, 111, 99, 107, 32, 116, 97, 107, 101] then
              some ((([] : List Int), ((6 : Int), (false, (true, ())))), ())
            else
              bif q p0 p1 [99, 111, 117, 110, 116, 32, 97, 100, 100] then
              some ((((5 : Int) :: ([] : List Int)), ((-(1 : Int)), (false, (true, ())))), ())
            else
              bif q p0 p1 [99, 111, 117, 110, 116, 32, 114, 101, 97, 100] then
              some ((([] : List Int), ((5 : Int), (false, (true, ())))), ())
            else
              bif q p0 p1 [109, 97, 120, 32, 119, 114, 105, 116, 101] then
              bif q p0 p1 [109, 97, 120, 32, 119, 114, 105, 116, 101] then
              some ((((4 : Int) :: ([] : List Int)), ((-(1 : Int)), (false, (true, ())))), ())
            else
              bif q p0 p1 [109, 97, 120, 32, 114, 101, 97, 100] then
              some ((([] : List Int), ((4 : Int), (true, (true, ())))), ())
            else
              bif q p0 p1 [111, 109, 97, 112, 32, 112, 117, 116] then
              some ((((4 : Int) :: ((2 : Int) :: ([] : List Int))), ((-(1 : Int)), (false, (true, ())))), ())
            else
              bif q p0 p1 [111, 109, 97, 112, 32, 115, 99, 97, 110] then
              some ((((4 : Int) :: ((4 : Int) :: ([] : List Int))), ((99 : Int), (false, (true, ())))), ())
            else
              some ((([] : List Int), ((0 : Int), (false, (false, ())))), ())
            else
              bif q p0 p1 [111, 109, 97, 112, 32, 100, 101, 108] then
              some ((((4 : Int) :: ([] : List Int)), ((-(1 : Int)), (false, (true, ())))), ())
            else
              bif q p0 p1 [109, 97, 120, 32, 114, 101, 97, 100] then
              some ((([] : List Int), ((4 : Int), (true, (true, ())))), ())
            else
              bif q p0 p1 [111, 109, 97, 112, 32, 112, 117, 116] then
              some ((((4 : Int) :: ((2 : Int) :: ([] : List Int))), ((-(1 : Int)), (false, (true, ())))), ())
            else
              bif q p0 p1 [111, 109, 97, 112, 32, 115, 99, 97, 110] then
              some ((((4 : Int) :: ((4 : Int) :: ([] : List Int))), ((99 : Int), (false, (true, ())))), ())
            else
              some ((([] : List Int), ((0 : Int), (false, (false, ())))), ())
            else
              bif q p0 p1 [108, 111, 99, 107, 32, 102, 114, 101, 101] then
              some ((([] : List Int), ((6 : Int), (false, (true, ())))), ())
            else
              bif q p0 p1 [99, 111, 117, 110, 116, 32, 97, 100, 100] then
              some ((((5 : Int) :: ([] : List Int)), ((-(1 : Int)), (false, (true, ())))), ())
            else
              bif q p0 p1 [99, 111, 117, 110, 116, 32, 114, 101, 97, 100] then
              some ((([] : List Int), ((5 : Int), (false, (true, ())))), ())
            else
              bif q p0 p1 [109, 97, 120, 32, 119, 114, 105, 116, 101] then
              bif q p0 p1 [109, 97, 120, 32, 119, 114, 105, 116, 101] then
              some ((((4 : Int) :: ([] : List Int)), ((-(1 : Int)), (false, (true, ())))), ())
            else
              bif q p0 p1 [109, 97, 120, 32, 114, 101, 97, 100] then
              some ((([] : List Int), ((4 : Int), (true, (true, ())))), ())
            else
              bif q p0 p1 [111, 109, 97, 112, 32, 112, 117, 116] then
              some ((((4 : Int) :: ((2 : Int) :: ([] : List Int))), ((-(1 : Int)), (false, (true, ())))), ())
            else
              bif q p0 p1 [111, 109, 97, 112, 32, 115, 99, 97, 110] then
              some ((((4 : Int) :: ((4 : Int) :: ([] : List Int))), ((99 : Int), (false, (true, ())))), ())
            else
              some ((([] : List Int), ((0 : Int), (false, (false, ())))), ())
            else
              bif q p0 p1 [111, 109, 97, 112, 32, 100, 101, 108] then
              some ((((4 : Int) :: ([] : List Int)), ((-(1 : Int)), (false, (true, ())))), ())
            else
              bif q p0 p1 [109, 97, 120, 32, 114, 101, 97, 100] then
              some ((([] : List Int), ((4 : Int), (true, (true, ())))), ())
            else
              bif q p0 p1 [111, 109, 97, 112, 32, 112, 117, 116] then
              some ((((4 : Int) :: ((2 : Int) :: ([] : List Int))), ((-(1 : Int)), (false, (true, ())))), ())
            else
              bif q p0 p1 [111, 109, 97, 112, 32, 115, 99, 97, 110] then
              some ((((4 : Int) :: ((4 : Int) :: ([] : List Int))), ((99 : Int), (false, (true, ())))), ())
            else
              some ((([] : List Int), ((0 : Int), (false, (false, ())))), ())
            else
              bif q p0 p1 [115, 116, 97, 99, 107, 32, 112, 111, 112] then
              some ((([] : List Int), ((2 : Int), (true, (true, ())))), ())
            else
              bif q p0 p1 [99, 97, 115, 32, 115, 119, 97, 112] then
              some ((((2 : Int) :: ((2 : Int) :: ([] : List Int))), ((6 : Int), (false, (true, ())))), ())
            else
              bif q p0 p1 [115, 101, 116, 32, 104, 97, 115] then
              some ((((2 : Int) :: ([] : List Int)), ((6 : Int), (false, (true, ())))), ())
            else
              bif q p0 p1 [109, 97, 112, 32, 112, 117, 116] then
              some ((((3 : Int) :: ((2 : Int) :: ([] : List Int))), ((-(1 : Int)), (false, (true, ())))), ())
            else
              bif q p0 p1 [109, 97, 112, 32, 103, 101, 116] then
              some ((((3 : Int) :: ([] : List Int)), ((2 : Int), (true, (true, ())))), ())
            else
              bif q p0 p1 [109, 97, 112, 32, 100, 101, 108] then
              some ((((3 : Int) :: ([] : List Int)), ((-(1 : Int)), (false, (true, ())))), ())
            else
              bif q p0 p1 [108, 111, 99, 107, 32, 116, 97, 107, 101] then
              bif q p0 p1 [108, 111, 99, 107, 32, 116, 97, 107, 101] then
              some ((([] : List Int), ((6 : Int), (false, (true, ())))), ())
            else
              bif q p0 p1 [99, 111, 117, 110, 116, 32, 97, 100, 100] then
              some ((((5 : Int) :: ([] : List Int)), ((-(1 : Int)), (false, (true, ())))), ())
            else
              bif q p0 p1 [99, 111, 117, 110, 116, 32, 114, 101, 97, 100] then
              some ((([] : List Int), ((5 : Int), (false, (true, ())))), ())
            else
              bif q p0 p1 [109, 97, 120, 32, 119, 114, 105, 116, 101] then
              bif q p0 p1 [109, 97, 120, 32, 119, 114, 105, 116, 101] then
              some ((((4 : Int) :: ([] : List Int)), ((-(1 : Int)), (false, (true, ())))), ())
            else
              bif q p0 p1 [109, 97, 120, 32, 114, 101, 97, 100] then
              some ((([] : List Int), ((4 : Int), (true, (true, ())))), ())
            else
              bif q p0 p1 [111, 109, 97, 112, 32, 112, 117, 116] then
              some ((((4 : Int) :: ((2 : Int) :: ([] : List Int))), ((-(1 : Int)), (false, (true, ())))), ())
            else
              bif q p0 p1 [111, 109, 97, 112, 32, 115, 99, 97, 110] then
              some ((((4 : Int) :: ((4 : Int) :: ([] : List Int))), ((99 : Int), (false, (true, ())))), ())
            else
              some ((([] : List Int), ((0 : Int), (false, (false, ())))), ())
            else
              bif q p0 p1 [111, 109, 97, 112, 32, 100, 101, 108] then
              some ((((4 : Int) :: ([] : List Int)), ((-(1 : Int)), (false, (true, ())))), ())
            else
              bif q p0 p1 [109, 97, 120, 32, 114, 101, 97, 100] then
              some ((([] : List Int), ((4 : Int), (true, (true, ())))), ())
            else
              bif q p0 p1 [111, 109, 97, 112, 32, 112, 117, 116] then
              some ((((4 : Int) :: ((2 : Int) :: ([] : List Int))), ((-(1 : Int)), (false, (true, ())))), ())
            else
              bif q p0 p1 [111, 109, 97, 112, 32, 115, 99, 97, 110] then
              some ((((4 : Int) :: ((4 : Int) :: ([] : List Int))), ((99 : Int), (false, (true, ())))), ())
            else
              some ((([] : List Int), ((0 : Int), (false, (false, ())))), ())
            else
              bif q p0 p1 [108, 111, 99, 107, 32, 102, 114, 101, 101] then
              some ((([] : List Int), ((6 : Int), (false, (true, ())))), ())
            else
              bif q p0 p1 [99, 111, 117, 110, 116, 32, 97, 100, 100] then
              some ((((5 : Int) :: ([] : List Int)), ((-(1 : Int)), (false, (true, ())))), ())
            else
              bif q p0 p1 [99, 111, 117, 110, 116, 32, 114, 101, 97, 100] then
              some ((([] : List Int), ((5 : Int), (false, (true, ())))), ())
            else
              bif q p0 p1 [109, 97, 120, 32, 119, 114, 105, 116, 101] then
              bif q p0 p1 [109, 97, 120, 32, 119, 114, 105, 116, 101] then
              some ((((4 : Int) :: ([] : List Int)), ((-(1 : Int)), (false, (true, ())))), ())
            else
              bif q p0 p1 [109, 97, 120, 32, 114, 101, 97, 100] then
              some ((([] : List Int), ((4 : Int), (true, (true, ())))), ())
            else
              bif q p0 p1 [111, 109, 97, 112, 32, 112, 117, 116] then
              some ((((4 : Int) :: ((2 : Int) :: ([] : List Int))), ((-(1 : Int)), (false, (true, ())))), ())
            else
              bif q p0 p1 [111, 109, 97, 112, 32, 115, 99, 97, 110] then
              some ((((4 : Int) :: ((4 : Int) :: ([] : List Int))), ((99 : Int), (false, (true, ())))), ())
            else
              some ((([] : List Int), ((0 : Int), (false, (false, ())))), ())
            else
              bif q p0 p1 [111, 109, 97, 112, 32, 100, 101, 108] then
              some ((((4 : Int) :: ([] : List Int)), ((-(1 : Int)), (false, (true, ())))), ())
            else
              bif q p0 p1 [109, 97, 120, 32, 114, 101, 97, 100] then
              some ((([] : List Int), ((4 : Int), (true, (true, ())))), ())
            else
              bif q p0 p1 [111, 109, 97, 112, 32, 112, 117, 116] then
              some ((((4 : Int) :: ((2 : Int) :: ([] : List Int))), ((-(1 : Int)), (false, (true, ())))), ())
            else
              bif q p0 p1 [111, 109, 97, 112, 32, 115, 99, 97, 110] then
              some ((((4 : Int) :: ((4 : Int) :: ([] : List Int))), ((99 : Int), (false, (true, ())))), ())
            else
              some ((([] : List Int), ((0 : Int), (false, (false, ())))), ())
          else
            bif q p0 p1 [115, 101, 116, 32, 100, 101, 108] then
              bif q p0 p1 [115, 101, 116, 32, 100, 101, 108] then
              some ((((2 : Int) :: ([] : List Int)), ((-(1 : Int)), (false, (true, ())))), ())
            else
              bif q p0 p1 [114, 101, 103, 32, 114, 101, 97, 100] then
              bif q p0 p1 [114, 101, 103, 32, 114, 101, 97, 100] then
              some ((([] : List Int), ((2 : Int), (true, (true, ())))), ())
            else
              bif q p0 p1 [99, 97, 115, 32, 115, 119, 97, 112] then
              some ((((2 : Int) :: ((2 : Int) :: ([] : List Int))), ((6 : Int), (false, (true, ())))), ())
            else
              bif q p0 p1 [115, 101, 116, 32, 104, 97, 115] then
              some ((((2 : Int) :: ([] : List Int)), ((6 : Int), (false, (true, ())))), ())
            else
              bif q p0 p1 [109, 97, 112, 32, 112, 117, 116] then
              some ((((3 : Int) :: ((2 : Int) :: ([] : List Int))), ((-(1 : Int)), (false, (true, ())))), ())
            else
              bif q p0 p1 [109, 97, 112, 32, 103, 101, 116] then
              some ((((3 : Int) :: ([] : List Int)), ((2 : Int), (true, (true, ())))), ())
            else
              bif q p0 p1 [109, 97, 112, 32, 100, 101, 108] then
              some ((((3 : Int) :: ([] : List Int)), ((-(1 : Int)), (false, (true, ())))), ())
            else
              bif q p0 p1 [108, 111, 99, 107, 32, 116, 97, 107, 101] then
              bif q p0 p1 [108, 111, 99, 107, 32, 116, 97, 107, 101] then
              some ((([] : List Int), ((6 : Int), (false, (true, ())))), ())
            else
              bif q p0 p1 [99, 111, 117, 110, 116, 32, 97, 100, 100] then
              some ((((5 : Int) :: ([] : List Int)), ((-(1 : Int)), (false, (true, ())))), ())
            else
              bif q p0 p1 [99, 111, 117, 110, 116, 32, 114, 101, 97, 100] then
              some ((([] : List Int), ((5 : Int), (false, (true, ())))), ())
            else
              bif q p0 p1 [109, 97, 120, 32, 119, 114, 105, 116, 101] then
              bif q p0 p1 [109, 97, 120, 32, 119, 114, 105, 116, 101] then
              some ((((4 : Int) :: ([] : List Int)), ((-(1 : Int)), (false, (true, ())))), ())
            else
              bif q p0 p1 [109, 97, 120, 32, 114, 101, 97, 100] then
              some ((([] : List Int), ((4 : Int), (true, (true, ())))), ())
            else
              bif q p0 p1 [111, 109, 97, 112, 32, 112, 117, 116] then
              some ((((4 : Int) :: ((2 : Int) :: ([] : List Int))), ((-(1 : Int)), (false, (true, ())))), ())
            else
              bif q p0 p1 [111, 109, 97, 112, 32, 115, 99, 97, 110] then
              some ((((4 : Int) :: ((4 : Int) :: ([] : List Int))), ((99 : Int), (false, (true, ())))), ())
            else
              some ((([] : List Int), ((0 : Int), (false, (false, ())))), ())
            else
              bif q p0 p1 [111, 109, 97, 112, 32, 100, 101, 108] then
              some ((((4 : Int) :: ([] : List Int)), ((-(1 : Int)), (false, (true, ())))), ())
            else
              bif q p0 p1 [109, 97, 120, 32, 114, 101, 97, 100] then
              some ((([] : List Int), ((4 : Int), (true, (true, ())))), ())
            else
              bif q p0 p1 [111, 109, 97, 112, 32, 112, 117, 116] then
              some ((((4 : Int) :: ((2 : Int) :: ([] : List Int))), ((-(1 : Int)), (false, (true, ())))), ())
            else
              bif q p0 p1 [111, 109, 97, 112, 32, 115, 99, 97, 110] then
              some ((((4 : Int) :: ((4 : Int) :: ([] : List Int))), ((99 : Int), (false, (true, ())))), ())
            else
              some ((([] : List Int), ((0 : Int), (false, (false, ())))), ())
            else
              bif q p0 p1 [108, 111, 99, 107, 32, 102, 114, 101, 101] then
              some ((([] : List Int), ((6 : Int), (false, (true, ())))), ())
            else
              bif q p0 p1 [99, 111, 117, 110, 116, 32, 97, 100, 100] then
              some ((((5 : Int) :: ([] : List Int)), ((-(1 : Int)), (false, (true, ())))), ())
            else
              bif q p0 p1 [99, 111, 117, 110, 116, 32, 114, 101, 97, 100] then
              some ((([] : List Int), ((5 : Int), (false, (true, ())))), ())
            else
              bif q p0 p1 [109, 97, 120, 32, 119, 114, 105, 116, 101] then
              bif q p0 p1 [109, 97, 120, 32, 119, 114, 105, 116, 101] then
              some ((((4 : Int) :: ([] : List Int)), ((-(1 : Int)), (false, (true, ())))), ())
            else
              bif q p0 p1 [109, 97, 120, 32, 114, 101, 97, 100] then
              some ((([] : List Int), ((4 : Int), (true, (true, ())))), ())
            else
              bif q p0 p1 [111, 109, 97, 112, 32, 112, 117, 116] then
              some ((((4 : Int) :: ((2 : Int) :: ([] : List Int))), ((-(1 : Int)), (false, (true, ())))), ())
            else
              bif q p0 p1 [111, 109, 97, 112, 32, 115, 99, 97, 110] then
              some ((((4 : Int) :: ((4 : Int) :: ([] : List Int))), ((99 : Int), (false, (true, ())))), ())
            else
              some ((([] : List Int), ((0 : Int), (false, (false, ())))), ())
            else
              bif q p0 p1 [111, 109, 97, 112, 32, 100, 101, 108] then
              some ((((4 : Int) :: ([] : List Int)), ((-(1 : Int)), (false, (true, ())))), ())
            else
              bif q p0 p1 [109, 97, 120, 32, 114, 101, 97, 100] then
              some ((([] : List Int), ((4 : Int), (true, (true, ())))), ())
            else
              bif q p0 p1 [111, 109, 97, 112, 32, 112, 117, 116] then
              some ((((4 : Int) :: ((2 : Int) :: ([] : List Int))), ((-(1 : Int)), (false, (true, ())))), ())
            else
              bif q p0 p1 [111, 109, 97, 112, 32, 115, 99, 97, 110] then
              some ((((4 : Int) :: ((4 : Int) :: ([] : List Int))), ((99 : Int), (false, (true, ())))), ())
            else
              some ((([] : List Int), ((0 : Int), (false, (false, ())))), ())
            else
              bif q p0 p1 [99, 97, 115, 32, 114, 101, 97, 100] then
              bif q p0 p1 [99, 97, 115, 32, 114, 101, 97, 100] then
              some ((([] : List Int), ((2 : Int), (true, (true, ())))), ())
            else
              bif q p0 p1 [99, 97, 115, 32, 115, 119, 97, 112] then
              some ((((2 : Int) :: ((2 : Int) :: ([] : List Int))), ((6 : Int), (false, (true, ())))), ())
            else
              bif q p0 p1 [115, 101, 116, 32, 104, 97, 115] then
              some ((((2 : Int) :: ([] : List Int)), ((6 : Int), (false, (true, ())))), ())
            else
              bif q p0 p1 [109, 97, 112, 32, 112, 117, 116] then
              some ((((3 : Int) :: ((2 : Int) :: ([] : List Int))), ((-(1 : Int)), (false, (true, ())))), ())
            else
              bif q p0 p1 [109, 97, 112, 32, 103, 101, 116] then
              some ((((3 : Int) :: ([] : List Int)), ((2 : Int), (true, (true, ())))), ())
            else
              bif q p0 p1 [109, 97, 112, 32, 100, 101, 108] then
              some ((((3 : Int) :: ([] : List Int)), ((-(1 : Int)), (false, (true, ())))), ())
            else
              bif q p0 p1 [108, 111, 99, 107, 32, 116, 97, 107, 101] then
              bif q p0 p1 [108, 111, 99, 107, 32, 116, 97, 107, 101] then
              some ((([] : List Int), ((6 : Int), (false, (true, ())))), ())
            else
              bif q p0 p1 [99, 111, 117, 110, 116, 32, 97, 100, 100] then
              some ((((5 : Int) :: ([] : List Int)), ((-(1 : Int)), (false, (true, ())))), ())
            else
              bif q p0 p1 [99, 111, 117, 110, 116, 32, 114, 101, 97, 100] then
              some ((([] : List Int), ((5 : Int), (false, (true, ())))), ())
            else
              bif q p0 p1 [109, 97, 120, 32, 119, 114, 105, 116, 101] then
              bif q p0 p1 [109, 97, 120, 32, 119, 114, 105, 116, 101] then
              some ((((4 : Int) :: ([] : List Int)), ((-(1 : Int)), (false, (true, ())))), ())
            else
              bif q p0 p1 [109, 97, 120, 32, 114, 101, 97, 100] then
              some ((([] : List Int), ((4 : Int), (true, (true, ())))), ())
            else
              bif q p0 p1 [111, 109, 97, 112, 32, 112, 117, 116] then
              some ((((4 : Int) :: ((2 : Int) :: ([] : List Int))), ((-(1 : Int)), (false, (true, ())))), ())
            else
              bif q p0 p1 [111, 109, 97, 112, 32, 115, 99, 97, 110] then
              some ((((4 : Int) :: ((4 : Int) :: ([] : List Int))), ((99 : Int), (false, (true, ())))), ())
            else
              some ((([] : List Int), ((0 : Int), (false, (false, ())))), ())
            else
              bif q p0 p1 [111, 109, 97, 112, 32, 100, 101, 108] then
              some ((((4 : Int) :: ([] : List Int)), ((-(1 : Int)), (false, (true, ())))), ())
            else
              bif q p0 p1 [109, 97, 120, 32, 114, 101, 97, 100] then
              some ((([] : List Int), ((4 : Int), (true, (true, ())))), ())
            else
              bif q p0 p1 [111, 109, 97, 112, 32, 112, 117, 116] then
              some ((((4 : Int) :: ((2 : Int) :: ([] : List Int))), ((-(1 : Int)), (false, (true, ())))), ())
            else
              bif q p0 p1 [111, 109, 97, 112, 32, 115, 99, 97, 110] then
              some ((((4 : Int) :: ((4 : Int) :: ([] : List Int))), ((99 : Int), (false, (true, ())))), ())
            else
              some ((([] : List Int), ((0 : Int), (false, (false, ())))), ())
            else
              bif q p0 p1 [108, 111, 99, 107, 32, 102, 114, 101, 101] then
              some ((([] : List Int), ((6 : Int), (false, (true, ())))), ())
            else
              bif q p0 p1 [99, 111, 117, 110, 116, 32, 97, 100, 100] then
              some ((((5 : Int) :: ([] : List Int)), ((-(1 : Int)), (false, (true, ())))), ())
            else
              bif q p0 p1 [99, 111, 117, 110, 116, 32, 114, 101, 97, 100] then
              some ((([] : List Int), ((5 : Int), (false, (true, ())))), ())
            else
              bif q p0 p1 [109, 97, 120, 32, 119, 114, 105, 116, 101] then
              bif q p0 p1 [109, 97, 120, 32, 119, 114, 105, 116, 101] then
              some ((((4 : Int) :: ([] : List Int)), ((-(1 : Int)), (false, (true, ())))), ())
            else
              bif q p0 p1 [109, 97, 120, 32, 114, 101, 97, 100] then
              some ((([] : List Int), ((4 : Int), (true, (true, ())))), ())
            else
              bif q p0 p1 [111, 109, 97, 112, 32, 112, 117, 116] then
              some ((((4 : Int) :: ((2 : Int) :: ([] : List Int))), ((-(1 : Int)), (false, (true, ())))), ())
            else
              bif q p0 p1 [111, 109, 97, 112, 32, 115, 99, 97, 110] then
              some ((((4 : Int) :: ((4 : Int) :: ([] : List Int))), ((99 : Int), (false, (true, ())))), ())
            else
              some ((([] : List Int), ((0 : Int), (false, (false, ())))), ())
            else
              bif q p0 p1 [111, 109, 97, 112, 32, 100, 101, 108] then
              some ((((4 : Int) :: ([] : List Int)), ((-(1 : Int)), (false, (true, ())))), ())
            else
              bif q p0 p1 [109, 97, 120, 32, 114, 101, 97, 100] then
              some ((([] : List Int), ((4 : Int), (true, (true, ())))), ())
            else
              bif q p0 p1 [111, 109, 97, 112, 32, 112, 117, 116] then
              some ((((4 : Int) :: ((2 : Int) :: ([] : List Int))), ((-(1 : Int)), (false, (true, ())))), ())
            else
              bif q p0 p1 [111, 109, 97, 112, 32, 115, 99, 97, 110] then
              some ((((4 : Int) :: ((4 : Int) :: ([] : List Int))), ((99 : Int), (false, (true, ())))), ())
            else
              some ((([] : List Int), ((0 : Int), (false, (false, ())))), ())
            else
              bif q p0 p1 [102, 105, 102, 111, 32, 112, 111, 112] then
              bif q p0 p1 [102, 105, 102, 111, 32, 112, 111, 112] then
              some ((([] : List Int), ((2 : Int), (true, (true, ())))), ())
            else
              bif q p0 p1 [99, 97, 115, 32, 115, 119, 97, 112] then
              some ((((2 : Int) :: ((2 : Int) :: ([] : List Int))), ((6 : Int), (false, (true, ())))), ())
            else
              bif q p0 p1 [115, 101, 116, 32, 104, 97, 115] then
              some ((((2 : Int) :: ([] : List Int)), ((6 : Int), (false, (true, ())))), ())
            else
              bif q p0 p1 [109, 97, 112, 32, 112, 117, 116] then
              some ((((3 : Int) :: ((2 : Int) :: ([] : List Int))), ((-(1 : Int)), (false, (true, ())))), ())
            else
              bif q p0 p1 [109, 97, 112, 32, 103, 101, 116] then
              some ((((3 : Int) :: ([] : List Int)), ((2 : Int), (true, (true, ())))), ())
            else
              bif q p0 p1 [109, 97, 112, 32, 100, 101, 108] then
              some ((((3 : Int) :: ([] : List Int)), ((-(1 : Int)), (false, (true, ())))), ())
            else
              bif q p0 p1 [108, 111, 99, 107, 32, 116, 97, 107, 101] then
              bif q p0 p1 [108, 111, 99, 107, 32, 116, 97, 107, 101] then
              some ((([] : List Int), ((6 : Int), (false, (true, ())))), ())
            else
              bif q p0 p1 [99, 111, 117, 110, 116, 32, 97, 100, 100] then
              some ((((5 : Int) :: ([] : List Int)), ((-(1 : Int)), (false, (true, ())))), ())
            else
              bif q p0 p1 [99, 111, 117, 110, 116, 32, 114, 101, 97, 100] then
              some ((([] : List Int), ((5 : Int), (false, (true, ())))), ())
            else
              bif q p0 p1 [109, 97, 120, 32, 119, 114, 105, 116, 101] then
              bif q p0 p1 [109, 97, 120, 32, 119, 114, 105, 116, 101] then
              some ((((4 : Int) :: ([] : List Int)), ((-(1 : Int)), (false, (true, ())))), ())
            else
              bif q p0 p1 [109, 97, 120, 32, 114, 101, 97, 100] then
              some ((([] : List Int), ((4 : Int), (true, (true, ())))), ())
            else
              bif q p0 p1 [111, 109, 97, 112, 32, 112, 117, 116] then
              some ((((4 : Int) :: ((2 : Int) :: ([] : List Int))), ((-(1 : Int)), (false, (true, ())))), ())
            else
              bif q p0 p1 [111, 109, 97, 112, 32, 115, 99, 97, 110] then
              some ((((4 : Int) :: ((4 : Int) :: ([] : List Int))), ((99 : Int), (false, (true, ())))), ())
            else
              some ((([] : List Int), ((0 : Int), (false, (false, ())))), ())
            else
              bif q p0 p1 [111, 109, 97, 112, 32, 100, 101, 108] then
              some ((((4 : Int) :: ([] : List Int)), ((-(1 : Int)), (false, (true, ())))), ())
            else
              bif q p0 p1 [109, 97, 120, 32, 114, 101, 97, 100] then
              some ((([] : List Int), ((4 : Int), (true, (true, ())))), ())
            else
              bif q p0 p1 [111, 109, 97, 112, 32, 112, 117, 116] then
              some ((((4 : Int) :: ((2 : Int) :: ([] : List Int))), ((-(1 : Int)), (false, (true, ())))), ())
            else
              bif q p0 p1 [111, 109, 97, 112, 32, 115, 99, 97, 110] then
              some ((((4 : Int) :: ((4 : Int) :: ([] : List Int))), ((99 : Int), (false, (true, ())))), ())
            else
              some ((([] : List Int), ((0 : Int), (false, (false, ())))), ())
            else
              bif q p0 p1 [108, 111, 99, 107, 32, 102, 114, 101, 101] then
              some ((([] : List Int), ((6 : Int), (false, (true, ())))), ())
            else
              bif q p0 p1 [99, 111, 117, 110, 116, 32, 97, 100, 100] then
              some ((((5 : Int) :: ([] : List Int)), ((-(1 : Int)), (false, (true, ())))), ())
            else
              bif q p0 p1 [99, 111, 117, 110, 116, 32, 114, 101, 97, 100] then
              some ((([] : List Int), ((5 : Int), (false, (true, ())))), ())
            else
              bif q p0 p1 [109, 97, 120, 32, 119, 114, 105, 116, 101] then
              bif q p0 p1 [109, 97, 120, 32, 119, 114, 105, 116, 101] then
              some ((((4 : Int) :: ([] : List Int)), ((-(1 : Int)), (false, (true, ())))), ())
            else
              bif q p0 p1 [109, 97, 120, 32, 114, 101, 97, 100] then
              some ((([] : List Int), ((4 : Int), (true, (true, ())))), ())
            else
              bif q p0 p1 [111, 109, 97, 112, 32, 112, 117, 116] then
              some ((((4 : Int) :: ((2 : Int) :: ([] : List Int))), ((-(1 : Int)), (false, (true, ())))), ())
            else
              bif q p0 p1 [111, 109, 97, 112, 32, 115, 99, 97, 110] then
              some ((((4 : Int) :: ((4 : Int) :: ([] : List Int))), ((99 : Int), (false, (true, ())))), ())
            else
              some ((([] : List Int), ((0 : Int), (false, (false, ())))), ())
            else
              bif q p0 p1 [111, 109, 97, 112, 32, 100, 101, 108] then
              some ((((4 : Int) :: ([] : List Int)), ((-(1 : Int)), (false, (true, ())))), ())
            else
              bif q p0 p1 [109, 97, 120, 32, 114, 101, 97, 100] then
              some ((([] : List Int), ((4 : Int), (true, (true, ())))), ())
            else
              bif q p0 p1 [111, 109, 97, 112, 32, 112, 117, 116] then
              some ((((4 : Int) :: ((2 : Int) :: ([] : List Int))), ((-(1 : Int)), (false, (true, ())))), ())
            else
              bif q p0 p1 [111, 109, 97, 112, 32, 115, 99, 97, 110] then
              some ((((4 : Int) :: ((4 : Int) :: ([] : List Int))), ((99 : Int), (false, (true, ())))), ())
            else
              some ((([] : List Int), ((0 : Int), (false, (false, ())))), ())
            else
              bif q p0 p1 [115, 116, 97, 99, 107, 32, 112, 111, 112] then
              some ((([] : List Int), ((2 : Int), (true, (true, ())))), ())
            else
              bif q p0 p1 [99, 97, 115, 32, 115, 119, 97, 112] then
              some ((((2 : Int) :: ((2 : Int) :: ([] : List Int))), ((6 : Int), (false, (true, ())))), ())
            else
              bif q p0 p1 [115, 101, 116, 32, 104, 97, 115] then
              some ((((2 : Int) :: ([] : List Int)), ((6 : Int), (false, (true, ())))), ())
            else
              bif q p0 p1 [109, 97, 112, 32, 112, 117, 116] then
              some ((((3 : Int) :: ((2 : Int) :: ([] : List Int))), ((-(1 : Int)), (false, (true, ())))), ())
            else
              bif q p0 p1 [109, 97, 112, 32, 103, 101, 116] then
              some ((((3 : Int) :: ([] : List Int)), ((2 : Int), (true, (true, ())))), ())
            else
              bif q p0 p1 [109, 97, 112, 32, 100, 101, 108] then
              some ((((3 : Int) :: ([] : List Int)), ((-(1 : Int)), (false, (true, ())))), ())
            else
              bif q p0 p1 [108, 111, 99, 107, 32, 116, 97, 107, 101] then
              bif q p0 p1 [108, 111, 99, 107, 32, 116, 97, 107, 101] then
              some ((([] : List Int), ((6 : Int), (false, (true, ())))), ())
            else
              bif q p0 p1 [99, 111, 117, 110, 116, 32, 97, 100, 100] then
              some ((((5 : Int) :: ([] : List Int)), ((-(1 : Int)), (false, (true, ())))), ())
            else
              bif q p0 p1 [99, 111, 117, 110, 116, 32, 114, 101, 97, 100] then
              some ((([] : List Int), ((5 : Int), (false, (true, ())))), ())
            else
              bif q p0 p1 [109, 97, 120, 32, 119, 114, 105, 116, 101] then
              bif q p0 p1 [109, 97, 120, 32, 119, 114, 105, 116, 101] then
              some ((((4 : Int) :: ([] : List Int)), ((-(1 : Int)), (false, (true, ())))), ())
            else
              bif q p0 p1 [109, 97, 120, 32, 114, 101, 97, 100] then
              some ((([] : List Int), ((4 : Int), (true, (true, ())))), ())
            else
              bif q p0 p1 [111, 109, 97, 112, 32, 112, 117, 116] then
              some ((((4 : Int) :: ((2 : Int) :: ([] : List Int))), ((-(1 : Int)), (false, (true, ())))), ())
            else
              bif q p0 p1 [111, 109, 97, 112, 32, 115, 99, 97, 110] then
              some ((((4 : Int) :: ((4 : Int) :: ([] : List Int))), ((99 : Int), (false, (true, ())))), ())
            else
              some ((([] : List Int), ((0 : Int), (false, (false, ())))), ())
            else
              bif q p0 p1 [111, 109, 97, 112, 32, 100, 101, 108] then
              some ((((4 : Int) :: ([] : List Int)), ((-(1 : Int)), (false, (true, ())))), ())
            else
              bif q p0 p1 [109, 97, 120, 32, 114, 101, 97, 100] then
              some ((([] : List Int), ((4 : Int), (true, (true, ())))), ())
            else
              bif q p0 p1 [111, 109, 97, 112, 32, 112, 117, 116] then
              some ((((4 : Int) :: ((2 : Int) :: ([] : List Int))), ((-(1 : Int)), (false, (true, ())))), ())
            else
              bif q p0 p1 [111, 109, 97, 112, 32, 115, 99, 97, 110] then
              some ((((4 : Int) :: ((4 : Int) :: ([] : List Int))), ((99 : Int), (false, (true, ())))), ())
            else
              some ((([] : List Int), ((0 : Int), (false, (false, ())))), ())
            else
              bif q p0 p1 [108, 111, 99, 107, 32, 102, 114, 101, 101] then
              some ((([] : List Int), ((6 : Int), (false, (true, ())))), ())
            else
              bif q p0 p1 [99, 111, 117, 110, 116, 32, 97, 100, 100] then
              some ((((5 : Int) :: ([] : List Int)), ((-(1 : Int)), (false, (true, ())))), ())
            else
              bif q p0 p1 [99, 111, 117, 110, 116, 32, 114, 101, 97, 100] then
              some ((([] : List Int), ((5 : Int), (false, (true, ())))), ())
            else
              bif q p0 p1 [109, 97, 120, 32, 119, 114, 105, 116, 101] then
              bif q p0 p1 [109, 97, 120, 32, 119, 114, 105, 116, 101] then
              some ((((4 : Int) :: ([] : List Int)), ((-(1 : Int)), (false, (true, ())))), ())
            else
              bif q p0 p1 [109, 97, 120, 32, 114, 101, 97, 100] then
              some ((([] : List Int), ((4 : Int), (true, (true, ())))), ())
            else
              bif q p0 p1 [111, 109, 97, 112, 32, 112, 117, 116] then
              some ((((4 : Int) :: ((2 : Int) :: ([] : List Int))), ((-(1 : Int)), (false, (true, ())))), ())
            else
              bif q p0 p1 [111, 109, 97, 112, 32, 115, 99, 97, 110] then
              some ((((4 : Int) :: ((4 : Int) :: ([] : List Int))), ((99 : Int), (false, (true, ())))), ())
            else
              some ((([] : List Int), ((0 : Int), (false, (false, ())))), ())
            else
              bif q p0 p1 [111, 109, 97, 112, 32, 100, 101, 108] then
              some ((((4 : Int) :: ([] : List Int)), ((-(1 : Int)), (false, (true, ())))), ())
            else
              bif q p0 p1 [109, 97, 120, 32, 114, 101, 97, 100] then
              some ((([] : List Int), ((4 : Int), (true, (true, ())))), ())
            else
              bif q p0 p1 [111, 109, 97, 112, 32, 112, 117, 116] then
              some ((((4 : Int) :: ((2 : Int) :: ([] : List Int))), ((-(1 : Int)), (false, (true, ())))), ())
            else
              bif q p0 p1 [111, 109, 97, 112, 32, 115, 99, 97, 110] then
              some ((((4 : Int) :: ((4 : Int) :: ([] : List Int))), ((99 : Int), (false, (true, ())))), ())
            else
              some ((([] : List Int), ((0 : Int), (false, (false, ())))), ())
            else
              bif q p0 p1 [102, 105, 102, 111, 32, 112, 117, 115, 104] then
              bif q p0 p1 [102, 105, 102, 111, 32, 112, 117, 115, 104] then
              some ((((2 : Int) :: ([] : List Int)), ((-(1 : Int)), (false, (true, ())))), ())
            else
              bif q p0 p1 [114, 101, 103, 32, 114, 101, 97, 100] then
              bif q p0 p1 [114, 101, 103, 32, 114, 101, 97, 100] then
              some ((([] : List Int), ((2 : Int), (true, (true, ())))), ())
            else
              bif q p0 p1 [99, 97, 115, 32, 115, 119, 97, 112] then
              some ((((2 : Int) :: ((2 : Int) :: ([] : List Int))), ((6 : Int), (false, (true, ())))), ())
            else
              bif q p0 p1 [115, 101, 116, 32, 104, 97, 115] then
              some ((((2 : Int) :: ([] : List Int)), ((6 : Int), (false, (true, ())))), ())
            else
              bif q p0 p1 [109, 97, 112, 32, 112, 117, 116] then
              some ((((3 : Int) :: ((2 : Int) :: ([] : List Int))), ((-(1 : Int)), (false, (true, ())))), ())
            else
              bif q p0 p1 [109, 97, 112, 32, 103, 101, 116] then
              some ((((3 : Int) :: ([] : List Int)), ((2 : Int), (true, (true, ())))), ())
            else
              bif q p0 p1 [109, 97, 112, 32, 100, 101, 108] then
              some ((((3 : Int) :: ([] : List Int)), ((-(1 : Int)), (false, (true, ())))), ())
            else
              bif q p0 p1 [108, 111, 99, 107, 32, 116, 97, 107, 101] then
              bif q p0 p1 [108, 111, 99, 107, 32, 116, 97, 107, 101] then
              some ((([] : List Int), ((6 : Int), (false, (true, ())))), ())
            else
              bif q p0 p1 [99, 111, 117, 110, 116, 32, 97, 100, 100] then
              some ((((5 : Int) :: ([] : List Int)), ((-(1 : Int)), (false, (true, ())))), ())
            else
              bif q p0 p1 [99, 111, 117, 110, 116, 32, 114, 101, 97, 100] then
              some ((([] : List Int), ((5 : Int), (false, (true, ())))), ())
            else
              bif q p0 p1 [109, 97, 120, 32, 119, 114, 105, 116, 101] then
              bif q p0 p1 [109, 97, 120, 32, 119, 114, 105, 116, 101] then
              some ((((4 : Int) :: ([] : List Int)), ((-(1 : Int)), (false, (true, ())))), ())
            else
              bif q p0 p1 [109, 97, 120, 32, 114, 101, 97, 100] then
              some ((([] : List Int), ((4 : Int), (true, (true, ())))), ())
            else
              bif q p0 p1 [111, 109, 97, 112, 32, 112, 117, 116] then
              some ((((4 : Int) :: ((2 : Int) :: ([] : List Int))), ((-(1 : Int)), (false, (true, ())))), ())
            else
              bif q p0 p1 [111, 109, 97, 112, 32, 115, 99, 97, 110] then
              some ((((4 : Int) :: ((4 : Int) :: ([] : List Int))), ((99 : Int), (false, (true, ())))), ())
            else
              some ((([] : List Int), ((0 : Int), (false, (false, ())))), ())
            else
              bif q p0 p1 [111, 109, 97, 112, 32, 100, 101, 108] then
              some ((((4 : Int) :: ([] : List Int)), ((-(1 : Int)), (false, (true, ())))), ())
            else
              bif q p0 p1 [109, 97, 120, 32, 114, 101, 97, 100] then
              some ((([] : List Int), ((4 : Int), (true, (true, ())))), ())
            else
              bif q p0 p1 [111, 109, 97, 112, 32, 112, 117, 116] then
              some ((((4 : Int) :: ((2 : Int) :: ([] : List Int))), ((-(1 : Int)), (false, (true, ())))), ())
            else
              bif q p0 p1 [111, 109, 97, 112, 32, 115, 99, 97, 110] then
              some ((((4 : Int) :: ((4 : Int) :: ([] : List Int))), ((99 : Int), (false, (true, ())))), ())
            else
              some ((([] : List Int), ((0 : Int), (false, (false, ())))), ())
            else
              bif q p0 p1 [108, 111, 99, 107, 32, 102, 114, 101, 101] then
              some ((([] : List Int), ((6 : Int), (false, (true, ())))), ())
            else
              bif q p0 p1 [99, 111, 117, 110, 116, 32, 97, 100, 100] then
              some ((((5 : Int) :: ([] : List Int)), ((-(1 : Int)), (false, (true, ())))), ())
            else
              bif q p0 p1 [99, 111, 117, 110, 116, 32, 114, 101, 97, 100] then
              some ((([] : List Int), ((5 : Int), (false, (true, ())))), ())
            else
              bif q p0 p1 [109, 97, 120, 32, 119, 114, 105, 116, 101] then
              bif q p0 p1 [109, 97, 120, 32, 119, 114, 105, 116, 101] then
              some ((((4 : Int) :: ([] : List Int)), ((-(1 : Int)), (false, (true, ())))), ())
            else
              bif q p0 p1 [109, 97, 120, 32, 114, 101, 97, 100] then
              some ((([] : List Int), ((4 : Int), (true, (true, ())))), ())
            else
              bif q p0 p1 [111, 109, 97, 112, 32, 112, 117, 116] then
              some ((((4 : Int) :: ((2 : Int) :: ([] : List Int))), ((-(1 : Int)), (false, (true, ())))), ())
            else
              bif q p0 p1 [111, 109, 97, 112, 32, 115, 99, 97, 110] then
              some ((((4 : Int) :: ((4 : Int) :: ([] : List Int))), ((99 : Int), (false, (true, ())))), ())
            else
              some ((([] : List Int), ((0 : Int), (false, (false, ())))), ())
            else
              bif q p0 p1 [111, 109, 97, 112, 32, 100, 101, 108] then
              some ((((4 : Int) :: ([] : List Int)), ((-(1 : Int)), (false, (true, ())))), ())
            else
              bif q p0 p1 [109, 97, 120, 32, 114, 101, 97, 100] then
              some ((([] : List Int), ((4 : Int), (true, (true, ())))), ())
            else
              bif q p0 p1 [111, 109, 97, 112, 32, 112, 117, 116] then
              some ((((4 : Int) :: ((2 : Int) :: ([] : List Int))), ((-(1 : Int)), (false, (true, ())))), ())
            else
              bif q p0 p1 [111, 109, 97, 112, 32, 115, 99, 97, 110] then
              some ((((4 : Int) :: ((4 : Int) :: ([] : List Int))), ((99 : Int), (false, (true, ())))), ())
            else
              some ((([] : List Int), ((0 : Int), (false, (false, ())))), ())
            else
              bif q p0 p1 [99, 97, 115, 32, 114, 101, 97, 100] then
              bif q p0 p1 [99, 97, 115, 32, 114, 101, 97, 100] then
              some ((([] : List Int), ((2 : Int), (true, (true, ())))), ())
            else
              bif q p0 p1 [99, 97, 115, 32, 115, 119, 97, 112] then
              some ((((2 : Int) :: ((2 : Int) :: ([] : List Int))), ((6 : Int), (false, (true, ())))), ())
            else
              bif q p0 p1 [115, 101, 116, 32, 104, 97, 115] then
              some ((((2 : Int) :: ([] : List Int)), ((6 : Int), (false, (true, ())))), ())
            else
              bif q p0 p1 [109, 97, 112, 32, 112, 117, 116] then
              some ((((3 : Int) :: ((2 : Int) :: ([] : List Int))), ((-(1 : Int)), (false, (true, ())))), ())
            else
              bif q p0 p1 [109, 97, 112, 32, 103, 101, 116] then
              some ((((3 : Int) :: ([] : List Int)), ((2 : Int), (true, (true, ())))), ())
            else
              bif q p0 p1 [109, 97, 112, 32, 100, 101, 108] then
              some ((((3 : Int) :: ([] : List Int)), ((-(1 : Int)), (false, (true, ())))), ())
            else
              bif q p0 p1 [108, 111, 99, 107, 32, 116, 97, 107, 101] then
              bif q p0 p1 [108, 111, 99, 107, 32, 116, 97, 107, 101] then
              some ((([] : List Int), ((6 : Int), (false, (true, ())))), ())
            else
              bif q p0 p1 [99, 111, 117, 110, 116, 32, 97, 100, 100] then
              some ((((5 : Int) :: ([] : List Int)), ((-(1 : Int)), (false, (true, ())))), ())
            else
              bif q p0 p1 [99, 111, 117, 110, 116, 32, 114, 101, 97, 100] then
              some ((([] : List Int), ((5 : Int), (false, (true, ())))), ())
            else
              bif q p0 p1 [109, 97, 120, 32, 119, 114, 105, 116, 101] then
              bif q p0 p1 [109, 97, 120, 32, 119, 114, 105, 116, 101] then
              some ((((4 : Int) :: ([] : List Int)), ((-(1 : Int)), (false, (true, ())))), ())
            else
              bif q p0 p1 [109, 97, 120, 32, 114, 101, 97, 100] then
              some ((([] : List Int), ((4 : Int), (true, (true, ())))), ())
            else
              bif q p0 p1 [111, 109, 97, 112, 32, 112, 117, 116] then
              some ((((4 : Int) :: ((2 : Int) :: ([] : List Int))), ((-(1 : Int)), (false, (true, ())))), ())
            else
              bif q p0 p1 [111, 109, 97, 112, 32, 115, 99, 97, 110] then
              some ((((4 : Int) :: ((4 : Int) :: ([] : List Int))), ((99 : Int), (false, (true, ())))), ())
            else
              some ((([] : List Int), ((0 : Int), (false, (false, ())))), ())
            else
              bif q p0 p1 [111, 109, 97, 112, 32, 100, 101, 108] then
              some ((((4 : Int) :: ([] : List Int)), ((-(1 : Int)), (false, (true, ())))), ())
            else
              bif q p0 p1 [109, 97, 120, 32, 114, 101, 97, 100] then
              some ((([] : List Int), ((4 : Int), (true, (true, ())))), ())
            else
              bif q p0 p1 [111, 109, 97, 112, 32, 112, 117, 116] then
              some ((((4 : Int) :: ((2 : Int) :: ([] : List Int))), ((-(1 : Int)), (false, (true, ())))), ())
            else
              bif q p0 p1 [111, 109, 97, 112, 32, 115, 99, 97, 110] then
              some ((((4 : Int) :: ((4 : Int) :: ([] : List Int))), ((99 : Int), (false, (true, ())))), ())
            else
              some ((([] : List Int), ((0 : Int), (false, (false, ())))), ())
            else
              bif q p0 p1 [108, 111, 99, 107, 32, 102, 114, 101, 101] then
              some ((([] : List Int), ((6 : Int), (false, (true, ())))), ())
            else
              bif q p0 p1 [99, 111, 117, 110, 116, 32, 97, 100, 100] then
              some ((((5 : Int) :: ([] : List Int)), ((-(1 : Int)), (false, (true, ())))), ())
            else
              bif q p0 p1 [99, 111, 117, 110, 116, 32, 114, 101, 97, 100] then
              some ((([] : List Int), ((5 : Int), (false, (true, ())))), ())
            else
              bif q p0 p1 [109, 97, 120, 32, 119, 114, 105, 116, 101] then
              bif q p0 p1 [109, 97, 120, 32, 119, 114, 105, 116, 101] then
              some ((((4 : Int) :: ([] : List Int)), ((-(1 : Int)), (false, (true, ())))), ())
            else
              bif q p0 p1 [109, 97, 120, 32, 114, 101, 97, 100] then
              some ((([] : List Int), ((4 : Int), (true, (true, ())))), ())
            else
              bif q p0 p1 [111, 109, 97, 112, 32, 112, 117, 116] then
              some ((((4 : Int) :: ((2 : Int) :: ([] : List Int))), ((-(1 : Int)), (false, (true, ())))), ())
            else
              bif q p0 p1 [111, 109, 97, 112, 32, 115, 99, 97, 110] then
              some ((((4 : Int) :: ((4 : Int) :: ([] : List Int))), ((99 : Int), (false, (true, ())))), ())
            else
              some ((([] : List Int), ((0 : Int), (false, (false, ())))), ())
            else
              bif q p0 p1 [111, 109, 97, 112, 32, 100, 101, 108] then
              some ((((4 : Int) :: ([] : List Int)), ((-(1 : Int)), (false, (true, ())))), ())
            else
              bif q p0 p1 [109, 97, 120, 32, 114, 101, 97, 100] then
              some ((([] : List Int), ((4 : Int), (true, (true, ())))), ())
            else
              bif q p0 p1 [111, 109, 97, 112, 32, 112, 117, 116] then
              some ((((4 : Int) :: ((2 : Int) :: ([] : List Int))), ((-(1 : Int)), (false, (true, ())))), ())
            else
              bif q p0 p1 [111, 109, 97, 112, 32, 115, 99, 97, 110] then
              some ((((4 : Int) :: ((4 : Int) :: ([] : List Int))), ((99 : Int), (false, (true, ())))), ())
            else
              some ((([] : List Int), ((0 : Int), (false, (false, ())))), ())
            else
              bif q p0 p1 [102, 105, 102, 111, 32, 112, 111, 112] then
              bif q p0 p1 [102, 105, 102, 111, 32, 112, 111, 112] then
              some ((([] : List Int), ((2 : Int), (true, (true, ())))), ())
            else
              bif q p0 p1 [99, 97, 115, 32, 115, 119, 97, 112] then
              some ((((2 : Int) :: ((2 : Int) :: ([] : List Int))), ((6 : Int), (false, (true, ())))), ())
            else
              bif q p0 p1 [115, 101, 116, 32, 104, 97, 115] then
              some ((((2 : Int) :: ([] : List Int)), ((6 : Int), (false, (true, ())))), ())
            else
              bif q p0 p1 [109, 97, 112, 32, 112, 117, 116] then
              some ((((3 : Int) :: ((2 : Int) :: ([] : List Int))), ((-(1 : Int)), (false, (true, ())))), ())
            else
              bif q p0 p1 [109, 97, 112, 32, 103, 101, 116] then
              some ((((3 : Int) :: ([] : List Int)), ((2 : Int), (true, (true, ())))), ())
            else
              bif q p0 p1 [109, 97, 112, 32, 100, 101, 108] then
              some ((((3 : Int) :: ([] : List Int)), ((-(1 : Int)), (false, (true, ())))), ())
            else
              bif q p0 p1 [108, 111, 99, 107, 32, 116, 97, 107, 101] then
              bif q p0 p1 [108, 111, 99, 107, 32, 116, 97, 107, 101] then
              some ((([] : List Int), ((6 : Int), (false, (true, ())))), ())
            else
              bif q p0 p1 [99, 111, 117, 110, 116, 32, 97, 100, 100] then
              some ((((5 : Int) :: ([] : List Int)), ((-(1 : Int)), (false, (true, ())))), ())
            else
              bif q p0 p1 [99, 111, 117, 110, 116, 32, 114, 101, 97, 100] then
              some ((([] : List Int), ((5 : Int), (false, (true, ())))), ())
            else
              bif q p0 p1 [109, 97, 120, 32, 119, 114, 105, 116, 101] then
              bif q p0 p1 [109, 97, 120, 32, 119, 114, 105, 116, 101] then
              some ((((4 : Int) :: ([] : List Int)), ((-(1 : Int)), (false, (true, ())))), ())
            else
              bif q p0 p1 [109, 97, 120, 32, 114, 101, 97, 100] then
              some ((([] : List Int), ((4 : Int), (true, (true, ())))), ())
            else
              bif q p0 p1 [111, 109, 97, 112, 32, 112, 117, 116] then
              some ((((4 : Int) :: ((2 : Int) :: ([] : List Int))), ((-(1 : Int)), (false, (true, ())))), ())
            else
              bif q p0 p1 [111, 109, 97, 112, 32, 115, 99, 97, 110] then
              some ((((4 : Int) :: ((4 : Int) :: ([] : List Int))), ((99 : Int), (false, (true, ())))), ())
            else
              some ((([] : List Int), ((0 : Int), (false, (false, ())))), ())
            else
              bif q p0 p1 [111, 109, 97, 112, 32, 100, 101, 108] then
              some ((((4 : Int) :: ([] : List Int)), ((-(1 : Int)), (false, (true, ())))), ())
            else
              bif q p0 p1 [109, 97, 120, 32, 114, 101, 97, 100] then
              some ((([] : List Int), ((4 : Int), (true, (true, ())))), ())
            else
              bif q p0 p1 [111, 109, 97, 112, 32, 112, 117, 116] then
              some ((((4 : Int) :: ((2 : Int) :: ([] : List Int))), ((-(1 : Int)), (false, (true, ())))), ())
            else
              bif q p0 p1 [111, 109, 97, 112, 32, 115, 99, 97, 110] then
              some ((((4 : Int) :: ((4 : Int) :: ([] : List Int))), ((99 : Int), (false, (true, ())))), ())
            else
              some ((([] : List Int), ((0 : Int), (false, (false, ())))), ())
            else
              bif q p0 p1 [108, 111, 99, 107, 32, 102, 114, 101, 101] then
              some ((([] : List Int), ((6 : Int), (false, (true, ())))), ())
            else
              bif q p0 p1 [99, 111, 117, 110, 116, 32, 97, 100, 100] then
              some ((((5 : Int) :: ([] : List Int)), ((-(1 : Int)), (false, (true, ())))), ())
            else
              bif q p0 p1 [99, 111, 117, 110, 116, 32, 114, 101, 97, 100] then
              some ((([] : List Int), ((5 : Int), (false, (true, ())))), ())
            else
              bif q p0 p1 [109, 97, 120, 32, 119, 114, 105, 116, 101] then
              bif q p0 p1 [109, 97, 120, 32, 119, 114, 105, 116, 101] then
              some ((((4 : Int) :: ([] : List Int)), ((-(1 : Int)), (false, (true, ())))), ())
            else
              bif q p0 p1 [109, 97, 120, 32, 114, 101, 97, 100] then
              some ((([] : List Int), ((4 : Int), (true, (true, ())))), ())
            else
              bif q p0 p1 [111, 109, 97, 112, 32, 112, 117, 116] then
              some ((((4 : Int) :: ((2 : Int) :: ([] : List Int))), ((-(1 : Int)), (false, (true, ())))), ())
            else
              bif q p0 p1 [111, 109, 97, 112, 32, 115, 99, 97, 110] then
              some ((((4 : Int) :: ((4 : Int) :: ([] : List Int))), ((99 : Int), (false, (true, ())))), ())
            else
              some ((([] : List Int), ((0 : Int), (false, (false, ())))), ())
            else
              bif q p0 p1 [111, 109, 97, 112, 32, 100, 101, 108] then
              some ((((4 : Int) :: ([] : List Int)), ((-(1 : Int)), (false, (true, ())))), ())
            else
              bif q p0 p1 [109, 97, 120, 32, 114, 101, 97, 100] then
              some ((([] : List Int), ((4 : Int), (true, (true, ())))), ())
            else
              bif q p0 p1 [111, 109, 97, 112, 32, 112, 117, 116] then
              some ((((4 : Int) :: ((2 : Int) :: ([] : List Int))), ((-(1 : Int)), (false, (true, ())))), ())
            else
              bif q p0 p1 [111, 109, 97, 112, 32, 115, 99, 97, 110] then
              some ((((4 : Int) :: ((4 : Int) :: ([] : List Int))), ((99 : Int), (false, (true, ())))), ())
            else
              some ((([] : List Int), ((0 : Int), (false, (false, ())))), ())
            else
              bif q p0 p1 [115, 116, 97, 99, 107, 32, 112, 111, 112] then
              some ((([] : List Int), ((2 : Int), (true, (true, ())))), ())
            else
              bif q p0 p1 [99, 97, 115, 32, 115, 119, 97, 112] then
              some ((((2 : Int) :: ((2 : Int) :: ([] : List Int))), ((6 : Int), (false, (true, ())))), ())
            else
              bif q p0 p1 [115, 101, 116, 32, 104, 97, 115] then
              some ((((2 : Int) :: ([] : List Int)), ((6 : Int), (false, (true, ())))), ())
            else
              bif q p0 p1 [109, 97, 112, 32, 112, 117, 116] then
              some ((((3 : Int) :: ((2 : Int) :: ([] : List Int))), ((-(1 : Int)), (false, (true, ())))), ())
            else
              bif q p0 p1 [109, 97, 112, 32, 103, 101, 116] then
              some ((((3 : Int) :: ([] : List Int)), ((2 : Int), (true, (true, ())))), ())
            else
              bif q p0 p1 [109, 97, 112, 32, 100, 101, 108] then
              some ((((3 : Int) :: ([] : List Int)), ((-(1 : Int)), (false, (true, ())))), ())
            else
              bif q p0 p1 [108, 111, 99, 107, 32, 116, 97, 107, 101] then
              bif q p0 p1 [108, 111, 99, 107, 32, 116, 97, 107, 101] then
              some ((([] : List Int), ((6 : Int), (false, (true, ())))), ())
            else
              bif q p0 p1 [99, 111, 117, 110, 116, 32, 97, 100, 100] then
              some ((((5 : Int) :: ([] : List Int)), ((-(1 : Int)), (false, (true, ())))), ())
            else
              bif q p0 p1 [99, 111, 117, 110, 116, 32, 114, 101, 97, 100] then
              some ((([] : List Int), ((5 : Int), (false, (true, ())))), ())
            else
              bif q p0 p1 [109, 97, 120, 32, 119, 114, 105, 116, 101] then
              bif q p0 p1 [109, 97, 120, 32, 119, 114, 105, 116, 101] then
              some ((((4 : Int) :: ([] : List Int)), ((-(1 : Int)), (false, (true, ())))), ())
            else
              bif q p0 p1 [109, 97, 120, 32, 114, 101, 97, 100] then
              some ((([] : List Int), ((4 : Int), (true, (true, ())))), ())
            else
              bif q p0 p1 [111, 109, 97, 112, 32, 112, 117, 116] then
              some ((((4 : Int) :: ((2 : Int) :: ([] : List Int))), ((-(1 : Int)), (false, (true, ())))), ())
            else
              bif q p0 p1 [111, 109, 97, 112, 32, 115, 99, 97, 110] then
              some ((((4 : Int) :: ((4 : Int) :: ([] : List Int))), ((99 : Int), (false, (true, ())))), ())
            else
              some ((([] : List Int), ((0 : Int), (false, (false, ())))), ())
            else
              bif q p0 p1 [111, 109, 97, 112, 32, 100, 101, 108] then
              some ((((4 : Int) :: ([] : List Int)), ((-(1 : Int)), (false, (true, ())))), ())
            else
              bif q p0 p1 [109, 97, 120, 32, 114, 101, 97, 100] then
              some ((([] : List Int), ((4 : Int), (true, (true, ())))), ())
            else
              bif q p0 p1 [111, 109, 97, 112, 32, 112, 117, 116] then
              some ((((4 : Int) :: ((2 : Int) :: ([] : List Int))), ((-(1 : Int)), (false, (true, ())))), ())
            else
              bif q p0 p1 [111, 109, 97, 112, 32, 115, 99, 97, 110] then
              some ((((4 : Int) :: ((4 : Int) :: ([] : List Int))), ((99 : Int), (false, (true, ())))), ())
            else
              some ((([] : List Int), ((0 : Int), (false, (false, ())))), ())
            else
              bif q p0 p1 [108, 111, 99, 107, 32, 102, 114, 101, 101] then
              some ((([] : List Int), ((6 : Int), (false, (true, ())))), ())
            else
              bif q p0 p1 [99, 111, 117, 110, 116, 32, 97, 100, 100] then
              some ((((5 : Int) :: ([] : List Int)), ((-(1 : Int)), (false, (true, ())))), ())
            else
              bif q p0 p1 [99, 111, 117, 110, 116, 32, 114, 101, 97, 100] then
              some ((([] : List Int), ((5 : Int), (false, (true, ())))), ())
            else
              bif q p0 p1 [109, 97, 120, 32, 119, 114, 105, 116, 101] then
              bif q p0 p1 [109, 97, 120, 32, 119, 114, 105, 116, 101] then
              some ((((4 : Int) :: ([] : List Int)), ((-(1 : Int)), (false, (true, ())))), ())
            else
              bif q p0 p1 [109, 97, 120, 32, 114, 101, 97, 100] then
              some ((([] : List Int), ((4 : Int), (true, (true, ())))), ())
            else
              bif q p0 p1 [111, 109, 97, 112, 32, 112, 117, 116] then
              some ((((4 : Int) :: ((2 : Int) :: ([] : List Int))), ((-(1 : Int)), (false, (true, ())))), ())
            else
              bif q p0 p1 [111, 109, 97, 112, 32, 115, 99, 97, 110] then
              some ((((4 : Int) :: ((4 : Int) :: ([] : List Int))), ((99 : Int), (false, (true, ())))), ())
            else
              some ((([] : List Int), ((0 : Int), (false, (false, ())))), ())
            else
              bif q p0 p1 [111, 109, 97, 112, 32, 100, 101, 108] then
              some ((((4 : Int) :: ([] : List Int)), ((-(1 : Int)), (false, (true, ())))), ())
            else
              bif q p0 p1 [109, 97, 120, 32, 114, 101, 97, 100] then
              some ((([] : List Int), ((4 : Int), (true, (true, ())))), ())
            else
              bif q p0 p1 [111, 109, 97, 112, 32, 112, 117, 116] then
              some ((((4 : Int) :: ((2 : Int) :: ([] : List Int))), ((-(1 : Int)), (false, (true, ())))), ())
            else
              bif q p0 p1 [111, 109, 97, 112, 32, 115, 99, 97, 110] then
              some ((((4 : Int) :: ((4 : Int) :: ([] : List Int))), ((99 : Int), (false, (true, ())))), ())
            else
              some ((([] : List Int), ((0 : Int), (false, (false, ())))), ())
            else
              bif q p0 p1 [115, 116, 97, 99, 107, 32, 112, 117, 115, 104] then
              some ((((2 : Int) :: ([] : List Int)), ((-(1 : Int)), (false, (true, ())))), ())
            else
              bif q p0 p1 [114, 101, 103, 32, 114, 101, 97, 100] then
              bif q p0 p1 [114, 101, 103, 32, 114, 101, 97, 100] then
              some ((([] : List Int), ((2 : Int), (true, (true, ())))), ())
            else
              bif q p0 p1 [99, 97, 115, 32, 115, 119, 97, 112] then
              some ((((2 : Int) :: ((2 : Int) :: ([] : List Int))), ((6 : Int), (false, (true, ())))), ())
            else
              bif q p0 p1 [115, 101, 116, 32, 104, 97, 115] then
              some ((((2 : Int) :: ([] : List Int)), ((6 : Int), (false, (true, ())))), ())
            else
              bif q p0 p1 [109, 97, 112, 32, 112, 117, 116] then
              some ((((3 : Int) :: ((2 : Int) :: ([] : List Int))), ((-(1 : Int)), (false, (true, ())))), ())
            else
              bif q p0 p1 [109, 97, 112, 32, 103, 101, 116] then
              some ((((3 : Int) :: ([] : List Int)), ((2 : Int), (true, (true, ())))), ())
            else
              bif q p0 p1 [109, 97, 112, 32, 100, 101, 108] then
              some ((((3 : Int) :: ([] : List Int)), ((-(1 : Int)), (false, (true, ())))), ())
            else
              bif q p0 p1 [108, 111, 99, 107, 32, 116, 97, 107, 101] then
              bif q p0 p1 [108, 111, 99, 107, 32, 116, 97, 107, 101] then
              some ((([] : List Int), ((6 : Int), (false, (true, ())))), ())
            else
              bif q p0 p1 [99, 111, 117, 110, 116, 32, 97, 100, 100] then
              some ((((5 : Int) :: ([] : List Int)), ((-(1 : Int)), (false, (true, ())))), ())
            else
              bif q p0 p1 [99, 111, 117, 110, 116, 32, 114, 101, 97, 100] then
              some ((([] : List Int), ((5 : Int), (false, (true, ())))), ())
            else
              bif q p0 p1 [109, 97, 120, 32, 119, 114, 105, 116, 101] then
              bif q p0 p1 [109, 97, 120, 32, 119, 114, 105, 116, 101] then
              some ((((4 : Int) :: ([] : List Int)), ((-(1 : Int)), (false, (true, ())))), ())
            else
              bif q p0 p1 [109, 97, 120, 32, 114, 101, 97, 100] then
              some ((([] : List Int), ((4 : Int), (true, (true, ())))), ())
            else
              bif q p0 p1 [111, 109, 97, 112, 32, 112, 117, 116] then
              some ((((4 : Int) :: ((2 : Int) :: ([] : List Int))), ((-(1 : Int)), (false, (true, ())))), ())
            else
              bif q p0 p1 [111, 109, 97, 112, 32, 115, 99, 97, 110] then
              some ((((4 : Int) :: ((4 : Int) :: ([] : List Int))), ((99 : Int), (false, (true, ())))), ())
            else
              some ((([] : List Int), ((0 : Int), (false, (false, ())))), ())
            else
              bif q p0 p1 [111, 109, 97, 112, 32, 100, 101, 108] then
              some ((((4 : Int) :: ([] : List Int)), ((-(1 : Int)), (false, (true, ())))), ())
            else
              bif q p0 p1 [109, 97, 120, 32, 114, 101, 97, 100] then
              some ((([] : List Int), ((4 : Int), (true, (true, ())))), ())
            else
              bif q p0 p1 [111, 109, 97, 112, 32, 112, 117, 116] then
              some ((((4 : Int) :: ((2 : Int) :: ([] : List Int))), ((-(1 : Int)), (false, (true, ())))), ())
            else
              bif q p0 p1 [111, 109, 97, 112, 32, 115, 99, 97, 110] then
              some ((((4 : Int) :: ((4 : Int) :: ([] : List Int))), ((99 : Int), (false, (true, ())))), ())
            else
              some ((([] : List Int), ((0 : Int), (false, (false, ())))), ())
            else
              bif q p0 p1 [108, 111, 99, 107, 32, 102, 114, 101, 101] then
              some ((([] : List Int), ((6 : Int), (false, (true, ())))), ())
            else
              bif q p0 p1 [99, 111, 117, 110, 116, 32, 97, 100, 100] then
              some ((((5 : Int) :: ([] : List Int)), ((-(1 : Int)), (false, (true, ())))), ())
            else
              bif q p0 p1 [99, 111, 117, 110, 116, 32, 114, 101, 97, 100] then
              some ((([] : List Int), ((5 : Int), (false, (true, ())))), ())
            else
              bif q p0 p1 [109, 97, 120, 32, 119, 114, 105, 116, 101] then
              bif q p0 p1 [109, 97, 120, 32, 119, 114, 105, 116, 101] then
              some ((((4 : Int) :: ([] : List Int)), ((-(1 : Int)), (false, (true, ())))), ())
            else
              bif q p0 p1 [109, 97, 120, 32, 114, 101, 97, 100] then
              some ((([] : List Int), ((4 : Int), (true, (true, ())))), ())
            else
              bif q p0 p1 [111, 109, 97, 112, 32, 112, 117, 116] then
              some ((((4 : Int) :: ((2 : Int) :: ([] : List Int))), ((-(1 : Int)), (false, (true, ())))), ())
            else
              bif q p0 p1 [111, 109, 97, 112, 32, 115, 99, 97, 110] then
              some ((((4 : Int) :: ((4 : Int) :: ([] : List Int))), ((99 : Int), (false, (true, ())))), ())
            else
              some ((([] : List Int), ((0 : Int), (false, (false, ())))), ())
            else
              bif q p0 p1 [111, 109, 97, 112, 32, 100, 101, 108] then
              some ((((4 : Int) :: ([] : List Int)), ((-(1 : Int)), (false, (true, ())))), ())
            else
              bif q p0 p1 [109, 97, 120, 32, 114, 101, 97, 100] then
              some ((([] : List Int), ((4 : Int), (true, (true, ())))), ())
            else
              bif q p0 p1 [111, 109, 97, 112, 32, 112, 117, 116] then
              some ((((4 : Int) :: ((2 : Int) :: ([] : List Int))), ((-(1 : Int)), (false, (true, ())))), ())
            else
              bif q p0 p1 [111, 109, 97, 112, 32, 115, 99, 97, 110] then
              some ((((4 : Int) :: ((4 : Int) :: ([] : List Int))), ((99 : Int), (false, (true, ())))), ())
            else
              some ((([] : List Int), ((0 : Int), (false, (false, ())))), ())
            else
              bif q p0 p1 [99, 97, 115, 32, 114, 101, 97, 100] then
              bif q p0 p1 [99, 97, 115, 32, 114, 101, 97, 100] then
              some ((([] : List Int), ((2 : Int), (true, (true, ())))), ())
            else
              bif q p0 p1 [99, 97, 115, 32, 115, 119, 97, 112] then
              some ((((2 : Int) :: ((2 : Int) :: ([] : List Int))), ((6 : Int), (false, (true, ())))), ())
            else
              bif q p0 p1 [115, 101, 116, 32, 104, 97, 115] then
              some ((((2 : Int) :: ([] : List Int)), ((6 : Int), (false, (true, ())))), ())
            else
              bif q p0 p1 [109, 97, 112, 32, 112, 117, 116] then
              some ((((3 : Int) :: ((2 : Int) :: ([] : List Int))), ((-(1 : Int)), (false, (true, ())))), ())
            else
              bif q p0 p1 [109, 97, 112, 32, 103, 101, 116] then
              some ((((3 : Int) :: ([] : List Int)), ((2 : Int), (true, (true, ())))), ())
            else
              bif q p0 p1 [109, 97, 112, 32, 100, 101, 108] then
              some ((((3 : Int) :: ([] : List Int)), ((-(1 : Int)), (false, (true, ())))), ())
            else
              bif q p0 p1 [108, 111, 99, 107, 32, 116, 97, 107, 101] then
              bif q p0 p1 [108, 111, 99, 107, 32, 116, 97, 107, 101] then
              some ((([] : List Int), ((6 : Int), (false, (true, ())))), ())
            else
              bif q p0 p1 [99, 111, 117, 110, 116, 32, 97, 100, 100] then
              some ((((5 : Int) :: ([] : List Int)), ((-(1 : Int)), (false, (true, ())))), ())
            else
              bif q p0 p1 [99, 111, 117, 110, 116, 32, 114, 101, 97, 100] then
              some ((([] : List Int), ((5 : Int), (false, (true, ())))), ())
            else
              bif q p0 p1 [109, 97, 120, 32, 119, 114, 105, 116, 101] then
              bif q p0 p1 [109, 97, 120, 32, 119, 114, 105, 116, 101] then
              some ((((4 : Int) :: ([] : List Int)), ((-(1 : Int)), (false, (true, ())))), ())
            else
              bif q p0 p1 [109, 97, 120, 32, 114, 101, 97, 100] then
              some ((([] : List Int), ((4 : Int), (true, (true, ())))), ())
            else
              bif q p0 p1 [111, 109, 97, 112, 32, 112, 117, 116] then
              some ((((4 : Int) :: ((2 : Int) :: ([] : List Int))), ((-(1 : Int)), (false, (true, ())))), ())
            else
              bif q p0 p1 [111, 109, 97, 112, 32, 115, 99, 97, 110] then
              some ((((4 : Int) :: ((4 : Int) :: ([] : List Int))), ((99 : Int), (false, (true, ())))), ())
            else
              some ((([] : List Int), ((0 : Int), (false, (false, ())))), ())
            else
              bif q p0 p1 [111, 109, 97, 112, 32, 100, 101, 108] then
              some ((((4 : Int) :: ([] : List Int)), ((-(1 : Int)), (false, (true, ())))), ())
            else
              bif q p0 p1 [109, 97, 120, 32, 114, 101, 97, 100] then
              some ((([] : List Int), ((4 : Int), (true, (true, ())))), ())
            else
              bif q p0 p1 [111, 109, 97, 112, 32, 112, 117, 116] then
              some ((((4 : Int) :: ((2 : Int) :: ([] : List Int))), ((-(1 : Int)), (false, (true, ())))), ())
            else
              bif q p0 p1 [111, 109, 97, 112, 32, 115, 99, 97, 110] then
              some ((((4 : Int) :: ((4 : Int) :: ([] : List Int))), ((99 : Int), (false, (true, ())))), ())
            else
              some ((([] : List Int), ((0 : Int), (false, (false, ())))), ())
            else
              bif q p0 p1 [108, 111, 99, 107, 32, 102, 114, 101, 101] then
              some ((([] : List Int), ((6 : Int), (false, (true, ())))), ())
            else
              bif q p0 p1 [99, 111, 117, 110, 116, 32, 97, 100, 100] then
              some ((((5 : Int) :: ([] : List Int)), ((-(1 : Int)), (false, (true, ())))), ())
            else
              bif q p0 p1 [99, 111, 117, 110, 116, 32, 114, 101, 97, 100] then
              some ((([] : List Int), ((5 : Int), (false, (true, ())))), ())
            else
              bif q p0 p1 [109, 97, 120, 32, 119, 114, 105, 116, 101] then
              bif q p0 p1 [109, 97, 120, 32, 119, 114, 105, 116, 101] then
              some ((((4 : Int) :: ([] : List Int)), ((-(1 : Int)), (false, (true, ())))), ())
            else
              bif q p0 p1 [109, 97, 120, 32, 114, 101, 97, 100] then
              some ((([] : List Int), ((4 : Int), (true, (true, ())))), ())
            else
              bif q p0 p1 [111, 109, 97, 112, 32, 112, 117, 116] then
              some ((((4 : Int) :: ((2 : Int) :: ([] : List Int))), ((-(1 : Int)), (false, (true, ())))), ())
            else
              bif q p0 p1 [111, 109, 97, 112, 32, 115, 99, 97, 110] then
              some ((((4 : Int) :: ((4 : Int) :: ([] : List Int))), ((99 : Int), (false, (true, ())))), ())
            else
              some ((([] : List Int), ((0 : Int), (false, (false, ())))), ())
            else
              bif q p0 p1 [111, 109, 97, 112, 32, 100, 101, 108] then
              some ((((4 : Int) :: ([] : List Int)), ((-(1 : Int)), (false, (true, ())))), ())
            else
              bif q p0 p1 [109, 97, 120, 32, 114, 101, 97, 100] then
              some ((([] : List Int), ((4 : Int), (true, (true, ())))), ())
            else
              bif q p0 p1 [111, 109, 97, 112, 32, 112, 117, 116] then
              some ((((4 : Int) :: ((2 : Int) :: ([] : List Int))), ((-(1 : Int)), (false, (true, ())))), ())
            else
              bif q p0 p1 [111, 109, 97, 112, 32, 115, 99, 97, 110] then
              some ((((4 : Int) :: ((4 : Int) :: ([] : List Int))), ((99 : Int), (false, (true, ())))), ())
            else
              some ((([] : List Int), ((0 : Int), (false, (false, ())))), ())
            else
              bif q p0 p1 [102, 105, 102, 111, 32, 112, 111, 112] then
              bif q p0 p1 [102, 105, 102, 111, 32, 112, 111, 112] then
              some ((([] : List Int), ((2 : Int), (true, (true, ())))), ())
            else
              bif q p0 p1 [99, 97, 115, 32, 115, 119, 97, 112] then
              some ((((2 : Int) :: ((2 : Int) :: ([] : List Int))), ((6 : Int), (false, (true, ())))), ())
            else
              bif q p0 p1 [115, 101, 116, 32, 104, 97, 115] then
              some ((((2 : Int) :: ([] : List Int)), ((6 : Int), (false, (true, ())))), ())
            else
              bif q p0 p1 [109, 97, 112, 32, 112, 117, 116] then
              some ((((3 : Int) :: ((2 : Int) :: ([] : List Int))), ((-(1 : Int)), (false, (true, ())))), ())
            else
              bif q p0 p1 [109, 97, 112, 32, 103, 101, 116] then
              some ((((3 : Int) :: ([] : List Int)), ((2 : Int), (true, (true, ())))), ())
            else
              bif q p0 p1 [109, 97, 112, 32, 100, 101, 108] then
              some ((((3 : Int) :: ([] : List Int)), ((-(1 : Int)), (false, (true, ())))), ())
            else
              bif q p0 p1 [108, 111, 99, 107, 32, 116, 97, 107, 101] then
              bif q p0 p1 [108, 111, 99, 107, 32, 116, 97, 107, 101] then
              some ((([] : List Int), ((6 : Int), (false, (true, ())))), ())
            else
              bif q p0 p1 [99, 111, 117, 110, 116, 32, 97, 100, 100] then
              some ((((5 : Int) :: ([] : List Int)), ((-(1 : Int)), (false, (true, ())))), ())
            else
              bif q p0 p1 [99, 111, 117, 110, 116, 32, 114, 101, 97, 100] then
              some ((([] : List Int), ((5 : Int), (false, (true, ())))), ())
            else
              bif q p0 p1 [109, 97, 120, 32, 119, 114, 105, 116, 101] then
              bif q p0 p1 [109, 97, 120, 32, 119, 114, 105, 116, 101] then
              some ((((4 : Int) :: ([] : List Int)), ((-(1 : Int)), (false, (true, ())))), ())
            else
              bif q p0 p1 [109, 97, 120, 32, 114, 101, 97, 100] then
              some ((([] : List Int), ((4 : Int), (true, (true, ())))), ())
            else
              bif q p0 p1 [111, 109, 97, 112, 32, 112, 117, 116] then
              some ((((4 : Int) :: ((2 : Int) :: ([] : List Int))), ((-(1 : Int)), (false, (true, ())))), ())
            else
              bif q p0 p1 [111, 109, 97, 112, 32, 115, 99, 97, 110] then
              some ((((4 : Int) :: ((4 : Int) :: ([] : List Int))), ((99 : Int), (false, (true, ())))), ())
            else
              some ((([] : List Int), ((0 : Int), (false, (false, ())))), ())
            else
              bif q p0 p1 [111, 109, 97, 112, 32, 100, 101, 108] then
              some ((((4 : Int) :: ([] : List Int)), ((-(1 : Int)), (false, (true, ())))), ())
            else
              bif q p0 p1 [109, 97, 120, 32, 114, 101, 97, 100] then
              some ((([] : List Int), ((4 : Int), (true, (true, ())))), ())
            else
              bif q p0 p1 [111, 109, 97, 112, 32, 112, 117, 116] then
              some ((((4 : Int) :: ((2 : Int) :: ([] : List Int))), ((-(1 : Int)), (false, (true, ())))), ())
            else
              bif q p0 p1 [111, 109, 97, 112, 32, 115, 99, 97, 110] then
              some ((((4 : Int) :: ((4 : Int) :: ([] : List Int))), ((99 : Int), (false, (true, ())))), ())
            else
              some ((([] : List Int), ((0 : Int), (false, (false, ())))), ())
            else
              bif q p0 p1 [108, 111, 99, 107, 32, 102, 114, 101, 101] then
              some ((([] : List Int), ((6 : Int), (false, (true, ())))), ())
            else
              bif q p0 p1 [99, 111, 117, 110, 116, 32, 97, 100, 100] then
              some ((((5 : Int) :: ([] : List Int)), ((-(1 : Int)), (false, (true, ())))), ())
            else
              bif q p0 p1 [99, 111, 117, 110, 116, 32, 114, 101, 97, 100] then
              some ((([] : List Int), ((5 : Int), (false, (true, ())))), ())
            else
              bif q p0 p1 [109, 97, 120, 32, 119, 114, 105, 116, 101] then
              bif q p0 p1 [109, 97, 120, 32, 119, 114, 105, 116, 101] then
              some ((((4 : Int) :: ([] : List Int)), ((-(1 : Int)), (false, (true, ())))), ())
            else
              bif q p0 p1 [109, 97, 120, 32, 114, 101, 97, 100] then
              some ((([] : List Int), ((4 : Int), (true, (true, ())))), ())
            else
              bif q p0 p1 [111, 109, 97, 112, 32, 112, 117, 116] then
              some ((((4 : Int) :: ((2 : Int) :: ([] : List Int))), ((-(1 : Int)), (false, (true, ())))), ())
            else
              bif q p0 p1 [111, 109, 97, 112, 32, 115, 99, 97, 110] then
              some ((((4 : Int) :: ((4 : Int) :: ([] : List Int))), ((99 : Int), (false, (true, ())))), ())
            else
              some ((([] : List Int), ((0 : Int), (false, (false, ())))), ())
            else
              bif q p0 p1 [111, 109, 97, 112, 32, 100, 101, 108] then
              some ((((4 : Int) :: ([] : List Int)), ((-(1 : Int)), (false, (true, ())))), ())
            else
              bif q p0 p1 [109, 97, 120, 32, 114, 101, 97, 100] then
              some ((([] : List Int), ((4 : Int), (true, (true, ())))), ())
            else
              bif q p0 p1 [111, 109, 97, 112, 32, 112, 117, 116] then
              some ((((4 : Int) :: ((2 : Int) :: ([] : List Int))), ((-(1 : Int)), (false, (true, ())))), ())
            else
              bif q p0 p1 [111, 109, 97, 112, 32, 115, 99, 97, 110] then
              some ((((4 : Int) :: ((4 : Int) :: ([] : List Int))), ((99 : Int), (false, (true, ())))), ())
            else
              some ((([] : List Int), ((0 : Int), (false, (false, ())))), ())
            else
              bif q p0 p1 [115, 116, 97, 99, 107, 32, 112, 111, 112] then
              some ((([] : List Int), ((2 : Int), (true, (true, ())))), ())
            else
              bif q p0 p1 [99, 97, 115, 32, 115, 119, 97, 112] then
              some ((((2 : Int) :: ((2 : Int) :: ([] : List Int))), ((6 : Int), (false, (true, ())))), ())
            else
              bif q p0 p1 [115, 101, 116, 32, 104, 97, 115] then
              some ((((2 : Int) :: ([] : List Int)), ((6 : Int), (false, (true, ())))), ())
            else
              bif q p0 p1 [109, 97, 112, 32, 112, 117, 116] then
              some ((((3 : Int) :: ((2 : Int) :: ([] : List Int))), ((-(1 : Int)), (false, (true, ())))), ())
            else
              bif q p0 p1 [109, 97, 112, 32, 103, 101, 116] then
              some ((((3 : Int) :: ([] : List Int)), ((2 : Int), (true, (true, ())))), ())
            else
              bif q p0 p1 [109, 97, 112, 32, 100, 101, 108] then
              some ((((3 : Int) :: ([] : List Int)), ((-(1 : Int)), (false, (true, ())))), ())
            else
              bif q p0 p1 [108, 111, 99, 107, 32, 116, 97, 107, 101] then
              bif q p0 p1 [108, 111, 99, 107, 32, 116, 97, 107, 101] then
              some ((([] : List Int), ((6 : Int), (false, (true, ())))), ())
            else
              bif q p0 p1 [99, 111, 117, 110, 116, 32, 97, 100, 100] then
              some ((((5 : Int) :: ([] : List Int)), ((-(1 : Int)), (false, (true, ())))), ())
            else
              bif q p0 p1 [99, 111, 117, 110, 116, 32, 114, 101, 97, 100] then
              some ((([] : List Int), ((5 : Int), (false, (true, ())))), ())
            else
              bif q p0 p1 [109, 97, 120, 32, 119, 114, 105, 116, 101] then
              bif q p0 p1 [109, 97, 120, 32, 119, 114, 105, 116, 101] then
              some ((((4 : Int) :: ([] : List Int)), ((-(1 : Int)), (false, (true, ())))), ())
            else
              bif q p0 p1 [109, 97, 120, 32, 114, 101, 97, 100] then
              some ((([] : List Int), ((4 : Int), (true, (true, ())))), ())
            else
              bif q p0 p1 [111, 109, 97, 112, 32, 112, 117, 116] then
              some ((((4 : Int) :: ((2 : Int) :: ([] : List Int))), ((-(1 : Int)), (false, (true, ())))), ())
            else
              bif q p0 p1 [111, 109, 97, 112, 32, 115, 99, 97, 110] then
              some ((((4 : Int) :: ((4 : Int) :: ([] : List Int))), ((99 : Int), (false, (true, ())))), ())
            else
              some ((([] : List Int), ((0 : Int), (false, (false, ())))), ())
            else
              bif q p0 p1 [111, 109, 97, 112, 32, 100, 101, 108] then
              some ((((4 : Int) :: ([] : List Int)), ((-(1 : Int)), (false, (true, ())))), ())
            else
              bif q p0 p1 [109, 97, 120, 32, 114, 101, 97, 100] then
              some ((([] : List Int), ((4 : Int), (true, (true, ())))), ())
            else
              bif q p0 p1 [111, 109, 97, 112, 32, 112, 117, 116] then
              some ((((4 : Int) :: ((2 : Int) :: ([] : List Int))), ((-(1 : Int)), (false, (true, ())))), ())
            else
              bif q p0 p1 [111, 109, 97, 112, 32, 115, 99, 97, 110] then
              some ((((4 : Int) :: ((4 : Int) :: ([] : List Int))), ((99 : Int), (false, (true, ())))), ())
            else
              some ((([] : List Int), ((0 : Int), (false, (false, ())))), ())
            else
              bif q p0 p1 [108, 111, 99, 107, 32, 102, 114, 101, 101] then
              some ((([] : List Int), ((6 : Int), (false, (true, ())))), ())
            else
              bif q p0 p1 [99, 111, 117, 110, 116, 32, 97, 100, 100] then
              some ((((5 : Int) :: ([] : List Int)), ((-(1 : Int)), (false, (true, ())))), ())
            else
              bif q p0 p1 [99, 111, 117, 110, 116, 32, 114, 101, 97, 100] then
              some ((([] : List Int), ((5 : Int), (false, (true, ())))), ())
            else
              bif q p0 p1 [109, 97, 120, 32, 119, 114, 105, 116, 101] then
              bif q p0 p1 [109, 97, 120, 32, 119, 114, 105, 116, 101] then
              some ((((4 : Int) :: ([] : List Int)), ((-(1 : Int)), (false, (true, ())))), ())
            else
              bif q p0 p1 [109, 97, 120, 32, 114, 101, 97, 100] then
              some ((([] : List Int), ((4 : Int), (true, (true, ())))), ())
            else
              bif q p0 p1 [111, 109, 97, 112, 32, 112, 117, 116] then
              some ((((4 : Int) :: ((2 : Int) :: ([] : List Int))), ((-(1 : Int)), (false, (true, ())))), ())
            else
              bif q p0 p1 [111, 109, 97, 112, 32, 115, 99, 97, 110] then
              some ((((4 : Int) :: ((4 : Int) :: ([] : List Int))), ((99 : Int), (false, (true, ())))), ())
            else
              some ((([] : List Int), ((0 : Int), (false, (false, ())))), ())
            else
              bif q p0 p1 [111, 109, 97, 112, 32, 100, 101, 108] then
              some ((((4 : Int) :: ([] : List Int)), ((-(1 : Int)), (false, (true, ())))), ())
            else
              bif q p0 p1 [109, 97, 120, 32, 114, 101, 97, 100] then
              some ((([] : List Int), ((4 : Int), (true, (true, ())))), ())
            else
              bif q p0 p1 [111, 109, 97, 112, 32, 112, 117, 116] then
              some ((((4 : Int) :: ((2 : Int) :: ([] : List Int))), ((-(1 : Int)), (false, (true, ())))), ())
            else
              bif q p0 p1 [111, 109, 97, 112, 32, 115, 99, 97, 110] then
              some ((((4 : Int) :: ((4 : Int) :: ([] : List Int))), ((99 : Int), (false, (true, ())))), ())
            else
              some ((([] : List Int), ((0 : Int), (false, (false, ())))), ())
    else
      none
  else
    none
def F38 (N : Nat) (p0 : Int) (p1 : Int) : Option (((List Int) × Int × Bool × Bool × Unit) × Unit) := F38q q38 p0 p1
theorem loops38 (N : Nat) : loopsOk C38 (L38 N) Go.Proofs.Tryd.f38 := ⟨trivial, ⟨⟨trivial, ⟨⟨trivial, ⟨trivial, ⟨trivial, ⟨trivial, ⟨trivial, ⟨trivial, ⟨trivial, ⟨trivial, ⟨trivial, ⟨trivial, trivial⟩⟩⟩⟩⟩⟩⟩⟩⟩⟩, ⟨⟨trivial, trivial⟩, ⟨⟨trivial, ⟨trivial, ⟨trivial, ⟨trivial, ⟨trivial, ⟨trivial, trivial⟩⟩⟩⟩⟩⟩, ⟨⟨trivial, trivial⟩, ⟨trivial, ⟨⟨trivial, trivial⟩, ⟨trivial, ⟨⟨trivial, trivial⟩, ⟨trivial, ⟨⟨trivial, trivial⟩, ⟨trivial, ⟨⟨trivial, trivial⟩, ⟨trivial, ⟨⟨trivial, trivial⟩, ⟨⟨trivial, ⟨trivial, trivial⟩⟩, ⟨⟨trivial, trivial⟩, ⟨trivial, ⟨⟨trivial, trivial⟩, ⟨trivial, ⟨⟨trivial, trivial⟩, ⟨⟨trivial, ⟨trivial, trivial⟩⟩, ⟨⟨trivial, trivial⟩, ⟨trivial, ⟨⟨trivial, trivial⟩, ⟨trivial, ⟨⟨trivial, trivial⟩, ⟨trivial, ⟨⟨trivial, trivial⟩, trivial⟩⟩⟩⟩⟩⟩⟩⟩⟩⟩⟩⟩⟩⟩⟩⟩⟩⟩⟩⟩⟩⟩⟩⟩⟩⟩⟩⟩⟩, ⟨trivial, trivial⟩⟩⟩
theorem runs38 (N : Nat) (x : S38.ta.den) : run C38 S38 (L38 N) Go.Proofs.Tryd.f38 x = F38 N x.1 x.2.1 := by kernel_rfl


end Go.L12
