/- The walks of package dict and its statements. Printed by a program of this session. -/
import Derived.Test.YtallccfhkhonbaaDoorW0
set_option linter.unusedVariables false
set_option maxRecDepth 100000
namespace Go.L17
open Go Go.Abs Go.Inc

/-! ### 7: incognito/dict.New -/
def L7 (_ : Nat) : Loops ((Int × (Int × Int × ByteArray × Unit) × Int × (List (Int × Int × ByteArray × Unit)) × Unit) × Bool × Unit) := fun _ _ _ => none
def F7 (N : Nat) (p0 : Int) : Option ((Int × (Int × Int × ByteArray × Unit) × Int × (List (Int × Int × ByteArray × Unit)) × Unit) × Bool × Unit) :=
  bif (p0 != (4 : Int)) then
    bif (p0 != (10 : Int)) then
      some (((0 : Int), (((0 : Int), ((0 : Int), (ByteArray.empty, ()))), ((0 : Int), (([] : List (Int × (Int × (ByteArray × Unit)))), ())))), (false, ()))
    else
      some ((p0, (((0 : Int), ((0 : Int), (ByteArray.empty, ()))), ((0 : Int), (([] : List (Int × (Int × (ByteArray × Unit)))), ())))), (true, ()))
  else
    some ((p0, (((0 : Int), ((0 : Int), (ByteArray.empty, ()))), ((0 : Int), (([] : List (Int × (Int × (ByteArray × Unit)))), ())))), (true, ()))
theorem loops7 (N : Nat) : loopsOk C7 (L7 N) Go.Proofs.Tryd.f7 := ⟨trivial, ⟨⟨trivial, ⟨⟨trivial, trivial⟩, trivial⟩⟩, ⟨trivial, trivial⟩⟩⟩
theorem runs7 (N : Nat) (x : S7.ta.den) : run C7 S7 (L7 N) Go.Proofs.Tryd.f7 x = F7 N x.1 := by kernel_rfl

/-! ### 31: incognito/value.Right -/
def L31 (_ : Nat) : Loops (Bool × Unit) := fun _ _ _ => none
def F31 (N : Nat) (p0 : Int × Int × ByteArray × Unit) : Option (Bool × Unit) :=
  bif (p0.1 == (0 : Int)) then
    some (((p0.1 == (0 : Int)) && ((p0.2.1 == (0 : Int)) && ((p0.2.2.1 == ByteArray.empty) && true))), ())
  else
    bif (p0.1 == (1 : Int)) then
      some (((ByteArray.toList p0.2.2.1) == (ByteArray.toList (strL []))), ())
    else
      bif (p0.1 == (2 : Int)) then
        bif (p0.2.1 == (0 : Int)) then
          bif (Go.Inc.okS p0.2.2.1) then
            some ((Go.Inc.isWord p0.2.2.1), ())
          else
            none
        else
          some (false, ())
      else
        bif ((p0.1 == (3 : Int)) && ((p0.2.1 == (1 : Int)) && ((p0.2.2.1 == ByteArray.empty) && true))) then
          some (true, ())
        else
          some (((p0.1 == (3 : Int)) && ((p0.2.1 == (0 : Int)) && ((p0.2.2.1 == ByteArray.empty) && true))), ())
theorem loops31 (N : Nat) : loopsOk C31 (L31 N) Go.Proofs.Tryd.f31 := ⟨trivial, ⟨⟨trivial, ⟨trivial, ⟨⟨trivial, trivial⟩, ⟨trivial, ⟨⟨trivial, trivial⟩, ⟨trivial, ⟨⟨trivial, trivial⟩, trivial⟩⟩⟩⟩⟩⟩⟩, ⟨trivial, trivial⟩⟩⟩
theorem runs31 (N : Nat) (x : S31.ta.den) : run C31 S31 (L31 N) Go.Proofs.Tryd.f31 x = F31 N x.1 := by kernel_rfl

/-! ### 21: incognito/sign.Takes -/
def L21 (_ : Nat) : Loops (Bool × Unit) := fun _ _ _ => none
def F21 (N : Nat) (p0 : Int) (p1 : Int × Int × ByteArray × Unit) : Option (Bool × Unit) :=
  bif (Go.Inc.okV p1) then
    bif (!(Go.Inc.right p1)) then
      some (false, ())
    else
      bif (p0 == (0 : Int)) then
        bif (p0 == (0 : Int)) then
          bif (p1.1 == (1 : Int)) then
            some (true, ())
          else
            some ((p1.1 == (2 : Int)), ())
        else
          bif (p0 == (5 : Int)) then
            some ((p1.1 == (1 : Int)), ())
          else
            bif (p0 == (6 : Int)) then
              some ((p1.1 == (3 : Int)), ())
            else
              some (false, ())
      else
        bif (p0 == (1 : Int)) then
          bif (p0 == (1 : Int)) then
            bif (p1.1 == (1 : Int)) then
              some (true, ())
            else
              some ((p1.1 == (2 : Int)), ())
          else
            bif (p0 == (5 : Int)) then
              some ((p1.1 == (1 : Int)), ())
            else
              bif (p0 == (6 : Int)) then
              some ((p1.1 == (3 : Int)), ())
            else
              some (false, ())
        else
          bif (p0 == (2 : Int)) then
            bif (p0 == (2 : Int)) then
              bif (p1.1 == (1 : Int)) then
              some (true, ())
            else
              some ((p1.1 == (2 : Int)), ())
            else
              bif (p0 == (5 : Int)) then
              some ((p1.1 == (1 : Int)), ())
            else
              bif (p0 == (6 : Int)) then
              some ((p1.1 == (3 : Int)), ())
            else
              some (false, ())
          else
            bif (p0 == (3 : Int)) then
              bif (p0 == (3 : Int)) then
              bif (p1.1 == (1 : Int)) then
              some (true, ())
            else
              some ((p1.1 == (2 : Int)), ())
            else
              bif (p0 == (5 : Int)) then
              some ((p1.1 == (1 : Int)), ())
            else
              bif (p0 == (6 : Int)) then
              some ((p1.1 == (3 : Int)), ())
            else
              some (false, ())
            else
              bif (p0 == (4 : Int)) then
              bif (p1.1 == (1 : Int)) then
              some (true, ())
            else
              some ((p1.1 == (2 : Int)), ())
            else
              bif (p0 == (5 : Int)) then
              some ((p1.1 == (1 : Int)), ())
            else
              bif (p0 == (6 : Int)) then
              some ((p1.1 == (3 : Int)), ())
            else
              some (false, ())
  else
    none
theorem loops21 (N : Nat) : loopsOk C21 (L21 N) Go.Proofs.Tryd.f21 := ⟨trivial, ⟨⟨trivial, ⟨⟨trivial, trivial⟩, trivial⟩⟩, ⟨⟨trivial, ⟨⟨trivial, ⟨trivial, ⟨trivial, ⟨trivial, ⟨trivial, ⟨trivial, ⟨trivial, ⟨trivial, trivial⟩⟩⟩⟩⟩⟩⟩⟩, ⟨⟨trivial, trivial⟩, ⟨trivial, ⟨⟨trivial, trivial⟩, trivial⟩⟩⟩⟩⟩, ⟨trivial, trivial⟩⟩⟩⟩
theorem runs21 (N : Nat) (x : S21.ta.den) : run C21 S21 (L21 N) Go.Proofs.Tryd.f21 x = F21 N x.1 x.2.1 := by kernel_rfl

/-! ### 53: incognito/sign.find$1 -/
def L53 (_ : Nat) : Loops (HS.den X53.hout) := fun _ _ _ => none
def F53 (N : Nat) (t0a : Int) (t0ba : Int) (t0bba : ByteArray) (t0bbba : Int) (t0bbbba : Bool) (b1000a : Int) (b1001a : Int) : Option (HS.den X53.hout) :=
  bif (t0a == b1000a) then
    some ((t0ba == b1001a), ((b1000a, ()), ((b1001a, ()), ())))
  else
    some (false, ((b1000a, ()), ((b1001a, ()), ())))
theorem loops53 (N : Nat) : loopsOk C53 (L53 N) Go.Proofs.Tryd.f53 := ⟨trivial, ⟨trivial, trivial⟩⟩
theorem runs53 (N : Nat) (x : HS.den X53.hin) : runX C53 X53 (L53 N) Go.Proofs.Tryd.f53 x = F53 N x.1.1 x.1.2.1 x.1.2.2.1 x.1.2.2.2.1 x.1.2.2.2.2.1 x.2.2.2.1.1 x.2.2.2.2.1.1 := by kernel_rfl

/-! ### 41: incognito/sign.find -/
def L41 (_ : Nat) : Loops ((Int × Int × ByteArray × Int × Bool × Unit) × Bool × Unit) := fun _ _ _ => none
def F41 (N : Nat) (p0 : Int) (p1 : Int) : Option ((Int × Int × ByteArray × Int × Bool × Unit) × Bool × Unit) :=
  bif decide ((Go.Inc.idxR (((1 : Int), ((1 : Int), ((strL [118]), ((-(1 : Int)), (false, ()))))) :: (((1 : Int), ((2 : Int), ((strL []), ((2 : Int), (true, ()))))) :: (((2 : Int), ((1 : Int), ((strL [118]), ((-(1 : Int)), (false, ()))))) :: (((2 : Int), ((2 : Int), ((strL []), ((2 : Int), (true, ()))))) :: (((2 : Int), ((3 : Int), ((strL [118, 118]), ((6 : Int), (false, ()))))) :: (((3 : Int), ((4 : Int), ((strL [118]), ((-(1 : Int)), (false, ()))))) :: (((3 : Int), ((5 : Int), ((strL [118]), ((-(1 : Int)), (false, ()))))) :: (((3 : Int), ((6 : Int), ((strL [118]), ((6 : Int), (false, ()))))) :: (((4 : Int), ((7 : Int), ((strL [102, 118]), ((-(1 : Int)), (false, ()))))) :: (((4 : Int), ((8 : Int), ((strL [102]), ((2 : Int), (true, ()))))) :: (((4 : Int), ((5 : Int), ((strL [102]), ((-(1 : Int)), (false, ()))))) :: (((5 : Int), ((9 : Int), ((strL [118]), ((-(1 : Int)), (false, ()))))) :: (((5 : Int), ((10 : Int), ((strL []), ((2 : Int), (true, ()))))) :: (((6 : Int), ((9 : Int), ((strL [118]), ((-(1 : Int)), (false, ()))))) :: (((6 : Int), ((10 : Int), ((strL []), ((2 : Int), (true, ()))))) :: (((7 : Int), ((11 : Int), ((strL []), ((6 : Int), (false, ()))))) :: (((7 : Int), ((12 : Int), ((strL []), ((6 : Int), (false, ()))))) :: (((8 : Int), ((4 : Int), ((strL [110]), ((-(1 : Int)), (false, ()))))) :: (((8 : Int), ((2 : Int), ((strL []), ((5 : Int), (false, ()))))) :: (((9 : Int), ((1 : Int), ((strL [111]), ((-(1 : Int)), (false, ()))))) :: (((9 : Int), ((2 : Int), ((strL []), ((4 : Int), (true, ()))))) :: (((10 : Int), ((7 : Int), ((strL [111, 118]), ((-(1 : Int)), (false, ()))))) :: (((10 : Int), ((5 : Int), ((strL [111]), ((-(1 : Int)), (false, ()))))) :: (((10 : Int), ((13 : Int), ((strL [111, 111]), ((99 : Int), (false, ()))))) :: ([] : List (Int × (Int × (ByteArray × (Int × (Bool × Unit)))))))))))))))))))))))))))))) p0 p1) < (0 : Int)) then
    some (((0 : Int), ((0 : Int), (ByteArray.empty, ((0 : Int), (false, ()))))), (false, ()))
  else
    bif ((decide ((0 : Int) ≤ (Go.Inc.idxR (((1 : Int), ((1 : Int), ((strL [118]), ((-(1 : Int)), (false, ()))))) :: (((1 : Int), ((2 : Int), ((strL []), ((2 : Int), (true, ()))))) :: (((2 : Int), ((1 : Int), ((strL [118]), ((-(1 : Int)), (false, ()))))) :: (((2 : Int), ((2 : Int), ((strL []), ((2 : Int), (true, ()))))) :: (((2 : Int), ((3 : Int), ((strL [118, 118]), ((6 : Int), (false, ()))))) :: (((3 : Int), ((4 : Int), ((strL [118]), ((-(1 : Int)), (false, ()))))) :: (((3 : Int), ((5 : Int), ((strL [118]), ((-(1 : Int)), (false, ()))))) :: (((3 : Int), ((6 : Int), ((strL [118]), ((6 : Int), (false, ()))))) :: (((4 : Int), ((7 : Int), ((strL [102, 118]), ((-(1 : Int)), (false, ()))))) :: (((4 : Int), ((8 : Int), ((strL [102]), ((2 : Int), (true, ()))))) :: (((4 : Int), ((5 : Int), ((strL [102]), ((-(1 : Int)), (false, ()))))) :: (((5 : Int), ((9 : Int), ((strL [118]), ((-(1 : Int)), (false, ()))))) :: (((5 : Int), ((10 : Int), ((strL []), ((2 : Int), (true, ()))))) :: (((6 : Int), ((9 : Int), ((strL [118]), ((-(1 : Int)), (false, ()))))) :: (((6 : Int), ((10 : Int), ((strL []), ((2 : Int), (true, ()))))) :: (((7 : Int), ((11 : Int), ((strL []), ((6 : Int), (false, ()))))) :: (((7 : Int), ((12 : Int), ((strL []), ((6 : Int), (false, ()))))) :: (((8 : Int), ((4 : Int), ((strL [110]), ((-(1 : Int)), (false, ()))))) :: (((8 : Int), ((2 : Int), ((strL []), ((5 : Int), (false, ()))))) :: (((9 : Int), ((1 : Int), ((strL [111]), ((-(1 : Int)), (false, ()))))) :: (((9 : Int), ((2 : Int), ((strL []), ((4 : Int), (true, ()))))) :: (((10 : Int), ((7 : Int), ((strL [111, 118]), ((-(1 : Int)), (false, ()))))) :: (((10 : Int), ((5 : Int), ((strL [111]), ((-(1 : Int)), (false, ()))))) :: (((10 : Int), ((13 : Int), ((strL [111, 111]), ((99 : Int), (false, ()))))) :: ([] : List (Int × (Int × (ByteArray × (Int × (Bool × Unit)))))))))))))))))))))))))))))) p0 p1))) && (decide ((Go.Inc.idxR (((1 : Int), ((1 : Int), ((strL [118]), ((-(1 : Int)), (false, ()))))) :: (((1 : Int), ((2 : Int), ((strL []), ((2 : Int), (true, ()))))) :: (((2 : Int), ((1 : Int), ((strL [118]), ((-(1 : Int)), (false, ()))))) :: (((2 : Int), ((2 : Int), ((strL []), ((2 : Int), (true, ()))))) :: (((2 : Int), ((3 : Int), ((strL [118, 118]), ((6 : Int), (false, ()))))) :: (((3 : Int), ((4 : Int), ((strL [118]), ((-(1 : Int)), (false, ()))))) :: (((3 : Int), ((5 : Int), ((strL [118]), ((-(1 : Int)), (false, ()))))) :: (((3 : Int), ((6 : Int), ((strL [118]), ((6 : Int), (false, ()))))) :: (((4 : Int), ((7 : Int), ((strL [102, 118]), ((-(1 : Int)), (false, ()))))) :: (((4 : Int), ((8 : Int), ((strL [102]), ((2 : Int), (true, ()))))) :: (((4 : Int), ((5 : Int), ((strL [102]), ((-(1 : Int)), (false, ()))))) :: (((5 : Int), ((9 : Int), ((strL [118]), ((-(1 : Int)), (false, ()))))) :: (((5 : Int), ((10 : Int), ((strL []), ((2 : Int), (true, ()))))) :: (((6 : Int), ((9 : Int), ((strL [118]), ((-(1 : Int)), (false, ()))))) :: (((6 : Int), ((10 : Int), ((strL []), ((2 : Int), (true, ()))))) :: (((7 : Int), ((11 : Int), ((strL []), ((6 : Int), (false, ()))))) :: (((7 : Int), ((12 : Int), ((strL []), ((6 : Int), (false, ()))))) :: (((8 : Int), ((4 : Int), ((strL [110]), ((-(1 : Int)), (false, ()))))) :: (((8 : Int), ((2 : Int), ((strL []), ((5 : Int), (false, ()))))) :: (((9 : Int), ((1 : Int), ((strL [111]), ((-(1 : Int)), (false, ()))))) :: (((9 : Int), ((2 : Int), ((strL []), ((4 : Int), (true, ()))))) :: (((10 : Int), ((7 : Int), ((strL [111, 118]), ((-(1 : Int)), (false, ()))))) :: (((10 : Int), ((5 : Int), ((strL [111]), ((-(1 : Int)), (false, ()))))) :: (((10 : Int), ((13 : Int), ((strL [111, 111]), ((99 : Int), (false, ()))))) :: ([] : List (Int × (Int × (ByteArray × (Int × (Bool × Unit)))))))))))))))))))))))))))))) p0 p1) < (((List.length (((1 : Int), ((1 : Int), ((strL [118]), ((-(1 : Int)), (false, ()))))) :: (((1 : Int), ((2 : Int), ((strL []), ((2 : Int), (true, ()))))) :: (((2 : Int), ((1 : Int), ((strL [118]), ((-(1 : Int)), (false, ()))))) :: (((2 : Int), ((2 : Int), ((strL []), ((2 : Int), (true, ()))))) :: (((2 : Int), ((3 : Int), ((strL [118, 118]), ((6 : Int), (false, ()))))) :: (((3 : Int), ((4 : Int), ((strL [118]), ((-(1 : Int)), (false, ()))))) :: (((3 : Int), ((5 : Int), ((strL [118]), ((-(1 : Int)), (false, ()))))) :: (((3 : Int), ((6 : Int), ((strL [118]), ((6 : Int), (false, ()))))) :: (((4 : Int), ((7 : Int), ((strL [102, 118]), ((-(1 : Int)), (false, ()))))) :: (((4 : Int), ((8 : Int), ((strL [102]), ((2 : Int), (true, ()))))) :: (((4 : Int), ((5 : Int), ((strL [102]), ((-(1 : Int)), (false, ()))))) :: (((5 : Int), ((9 : Int), ((strL [118]), ((-(1 : Int)), (false, ()))))) :: (((5 : Int), ((10 : Int), ((strL []), ((2 : Int), (true, ()))))) :: (((6 : Int), ((9 : Int), ((strL [118]), ((-(1 : Int)), (false, ()))))) :: (((6 : Int), ((10 : Int), ((strL []), ((2 : Int), (true, ()))))) :: (((7 : Int), ((11 : Int), ((strL []), ((6 : Int), (false, ()))))) :: (((7 : Int), ((12 : Int), ((strL []), ((6 : Int), (false, ()))))) :: (((8 : Int), ((4 : Int), ((strL [110]), ((-(1 : Int)), (false, ()))))) :: (((8 : Int), ((2 : Int), ((strL []), ((5 : Int), (false, ()))))) :: (((9 : Int), ((1 : Int), ((strL [111]), ((-(1 : Int)), (false, ()))))) :: (((9 : Int), ((2 : Int), ((strL []), ((4 : Int), (true, ()))))) :: (((10 : Int), ((7 : Int), ((strL [111, 118]), ((-(1 : Int)), (false, ()))))) :: (((10 : Int), ((5 : Int), ((strL [111]), ((-(1 : Int)), (false, ()))))) :: (((10 : Int), ((13 : Int), ((strL [111, 111]), ((99 : Int), (false, ()))))) :: ([] : List (Int × (Int × (ByteArray × (Int × (Bool × Unit))))))))))))))))))))))))))))))) : Nat) : Int)))) then
      some ((List.getD (((1 : Int), ((1 : Int), ((strL [118]), ((-(1 : Int)), (false, ()))))) :: (((1 : Int), ((2 : Int), ((strL []), ((2 : Int), (true, ()))))) :: (((2 : Int), ((1 : Int), ((strL [118]), ((-(1 : Int)), (false, ()))))) :: (((2 : Int), ((2 : Int), ((strL []), ((2 : Int), (true, ()))))) :: (((2 : Int), ((3 : Int), ((strL [118, 118]), ((6 : Int), (false, ()))))) :: (((3 : Int), ((4 : Int), ((strL [118]), ((-(1 : Int)), (false, ()))))) :: (((3 : Int), ((5 : Int), ((strL [118]), ((-(1 : Int)), (false, ()))))) :: (((3 : Int), ((6 : Int), ((strL [118]), ((6 : Int), (false, ()))))) :: (((4 : Int), ((7 : Int), ((strL [102, 118]), ((-(1 : Int)), (false, ()))))) :: (((4 : Int), ((8 : Int), ((strL [102]), ((2 : Int), (true, ()))))) :: (((4 : Int), ((5 : Int), ((strL [102]), ((-(1 : Int)), (false, ()))))) :: (((5 : Int), ((9 : Int), ((strL [118]), ((-(1 : Int)), (false, ()))))) :: (((5 : Int), ((10 : Int), ((strL []), ((2 : Int), (true, ()))))) :: (((6 : Int), ((9 : Int), ((strL [118]), ((-(1 : Int)), (false, ()))))) :: (((6 : Int), ((10 : Int), ((strL []), ((2 : Int), (true, ()))))) :: (((7 : Int), ((11 : Int), ((strL []), ((6 : Int), (false, ()))))) :: (((7 : Int), ((12 : Int), ((strL []), ((6 : Int), (false, ()))))) :: (((8 : Int), ((4 : Int), ((strL [110]), ((-(1 : Int)), (false, ()))))) :: (((8 : Int), ((2 : Int), ((strL []), ((5 : Int), (false, ()))))) :: (((9 : Int), ((1 : Int), ((strL [111]), ((-(1 : Int)), (false, ()))))) :: (((9 : Int), ((2 : Int), ((strL []), ((4 : Int), (true, ()))))) :: (((10 : Int), ((7 : Int), ((strL [111, 118]), ((-(1 : Int)), (false, ()))))) :: (((10 : Int), ((5 : Int), ((strL [111]), ((-(1 : Int)), (false, ()))))) :: (((10 : Int), ((13 : Int), ((strL [111, 111]), ((99 : Int), (false, ()))))) :: ([] : List (Int × (Int × (ByteArray × (Int × (Bool × Unit)))))))))))))))))))))))))))))) (Int.toNat (Go.Inc.idxR (((1 : Int), ((1 : Int), ((strL [118]), ((-(1 : Int)), (false, ()))))) :: (((1 : Int), ((2 : Int), ((strL []), ((2 : Int), (true, ()))))) :: (((2 : Int), ((1 : Int), ((strL [118]), ((-(1 : Int)), (false, ()))))) :: (((2 : Int), ((2 : Int), ((strL []), ((2 : Int), (true, ()))))) :: (((2 : Int), ((3 : Int), ((strL [118, 118]), ((6 : Int), (false, ()))))) :: (((3 : Int), ((4 : Int), ((strL [118]), ((-(1 : Int)), (false, ()))))) :: (((3 : Int), ((5 : Int), ((strL [118]), ((-(1 : Int)), (false, ()))))) :: (((3 : Int), ((6 : Int), ((strL [118]), ((6 : Int), (false, ()))))) :: (((4 : Int), ((7 : Int), ((strL [102, 118]), ((-(1 : Int)), (false, ()))))) :: (((4 : Int), ((8 : Int), ((strL [102]), ((2 : Int), (true, ()))))) :: (((4 : Int), ((5 : Int), ((strL [102]), ((-(1 : Int)), (false, ()))))) :: (((5 : Int), ((9 : Int), ((strL [118]), ((-(1 : Int)), (false, ()))))) :: (((5 : Int), ((10 : Int), ((strL []), ((2 : Int), (true, ()))))) :: (((6 : Int), ((9 : Int), ((strL [118]), ((-(1 : Int)), (false, ()))))) :: (((6 : Int), ((10 : Int), ((strL []), ((2 : Int), (true, ()))))) :: (((7 : Int), ((11 : Int), ((strL []), ((6 : Int), (false, ()))))) :: (((7 : Int), ((12 : Int), ((strL []), ((6 : Int), (false, ()))))) :: (((8 : Int), ((4 : Int), ((strL [110]), ((-(1 : Int)), (false, ()))))) :: (((8 : Int), ((2 : Int), ((strL []), ((5 : Int), (false, ()))))) :: (((9 : Int), ((1 : Int), ((strL [111]), ((-(1 : Int)), (false, ()))))) :: (((9 : Int), ((2 : Int), ((strL []), ((4 : Int), (true, ()))))) :: (((10 : Int), ((7 : Int), ((strL [111, 118]), ((-(1 : Int)), (false, ()))))) :: (((10 : Int), ((5 : Int), ((strL [111]), ((-(1 : Int)), (false, ()))))) :: (((10 : Int), ((13 : Int), ((strL [111, 111]), ((99 : Int), (false, ()))))) :: ([] : List (Int × (Int × (ByteArray × (Int × (Bool × Unit)))))))))))))))))))))))))))))) p0 p1)) ((0 : Int), ((0 : Int), (ByteArray.empty, ((0 : Int), (false, ())))))), (true, ()))
    else
      none
theorem loops41 (N : Nat) : loopsOk C41 (L41 N) Go.Proofs.Tryd.f41 := ⟨trivial, ⟨trivial, ⟨trivial, ⟨⟨trivial, ⟨⟨trivial, trivial⟩, trivial⟩⟩, ⟨trivial, trivial⟩⟩⟩⟩⟩
theorem runs41 (N : Nat) (x : S41.ta.den) : run C41 S41 (L41 N) Go.Proofs.Tryd.f41 x = F41 N x.1 x.2.1 := by kernel_rfl

/-! ### 32: incognito/sign.Args -/
def W32_6 {β : Type} (N : Nat) (x1 : (List Int) → Option β) : Nat → Int → Int → ByteArray → Int → Bool → (List Int) → Int → Int → Option β
  | 0, _, _, _, _, _, _, _, _ => none
  | n + 1, b6a, b6ba, b6bba, b6bbba, b6bbbba, t8, t20, t21 =>
  bif decide (t21 < t20) then
    bif ((decide ((0 : Int) ≤ t21)) && (decide (t21 < (((ByteArray.size b6bba) : Nat) : Int)))) then
      bif decide ((((List.length t8) + (List.length ((Go.Inc.domain (((UInt8.toNat (List.getD (Array.toList (ByteArray.data b6bba)) (Int.toNat t21) (0 : UInt8))) : Nat) : Int)) :: ([] : List Int)))) * 8) ≤ 140737488351232) then
        W32_6 N x1 n b6a b6ba b6bba b6bbba b6bbbba (t8 ++ ((Go.Inc.domain (((UInt8.toNat (List.getD (Array.toList (ByteArray.data b6bba)) (Int.toNat t21) (0 : UInt8))) : Nat) : Int)) :: ([] : List Int))) t20 (Go.IntKind.wrap .i64 (t21 + (1 : Int)))
      else
        none
    else
      none
  else
    x1 t8
def L32 (N : Nat) : Loops ((List Int) × Bool × Unit) := fun k ρ K => match Nat.beq k 6 with
  | true => (match adH ρ H32_6.hd with
    | some v => W32_6 N (fun t8 => K (.exit 0) (encH [(16, (.sl (.int .i64) (.own 31)))] (t8, ()))) N v.2.1.1 v.2.1.2.1 v.2.1.2.2.1 v.2.1.2.2.2.1 v.2.1.2.2.2.2.1 v.2.2.1 v.2.2.2.1 v.2.2.2.2.1
    | none => none)
  | false => none
def F32 (N : Nat) (p0 : Int) (p1 : Int) : Option ((List Int) × Bool × Unit) :=
  bif (!(((Go.Inc.findGo p0 p1).2).1)) then
    some (([] : List Int), (false, ()))
  else
    W32_6 N
      (fun t8 =>
        some (t8, (true, ())))
      N (((Go.Inc.findGo p0 p1).1).1) ((((Go.Inc.findGo p0 p1).1).2).1) (((((Go.Inc.findGo p0 p1).1).2).2).1) ((((((Go.Inc.findGo p0 p1).1).2).2).2).1) (((((((Go.Inc.findGo p0 p1).1).2).2).2).2).1) ([] : List Int) (((ByteArray.size (((((Go.Inc.findGo p0 p1).1).2).2).1)) : Nat) : Int) (0 : Int)
theorem loops32 (N : Nat) : loopsOk C32 (L32 N) Go.Proofs.Tryd.f32 := ⟨trivial, ⟨trivial, ⟨⟨trivial, ⟨⟨trivial, trivial⟩, trivial⟩⟩, ⟨trivial, ⟨⟨trivial, ⟨loopOk_of H32_6 N (fun K n v => W32_6 N (fun t8 => K (.exit 0) (encH [(16, (.sl (.int .i64) (.own 31)))] (t8, ()))) n v.2.1.1 v.2.1.2.1 v.2.1.2.2.1 v.2.1.2.2.2.1 v.2.1.2.2.2.2.1 v.2.2.1 v.2.2.2.1 v.2.2.2.2.1) (by kernel_rfl) (fun K v => by kernel_rfl) (fun K v => by kernel_rfl) (fun K n v => by kernel_rfl), ⟨trivial, ⟨⟨trivial, trivial⟩, ⟨⟨trivial, trivial⟩, trivial⟩⟩⟩⟩⟩, ⟨trivial, trivial⟩⟩⟩⟩⟩⟩
theorem runs32 (N : Nat) (x : S32.ta.den) : run C32 S32 (L32 N) Go.Proofs.Tryd.f32 x = F32 N x.1 x.2.1 := by kernel_rfl

/-! ### 54: cmp.isNaN[int] -/
def L54 (_ : Nat) : Loops (Bool × Unit) := fun _ _ _ => none
def F54 (N : Nat) (p0 : Int) : Option (Bool × Unit) :=
  some ((p0 != p0), ())
theorem loops54 (N : Nat) : loopsOk C54 (L54 N) Go.Proofs.Tryd.f54 := ⟨trivial, ⟨trivial, trivial⟩⟩
theorem runs54 (N : Nat) (x : S54.ta.den) : run C54 S54 (L54 N) Go.Proofs.Tryd.f54 x = F54 N x.1 := by kernel_rfl

/-! ### 55: cmp.isNaN[int64] -/
def L55 (_ : Nat) : Loops (Bool × Unit) := fun _ _ _ => none
def F55 (N : Nat) (p0 : Int) : Option (Bool × Unit) :=
  some ((p0 != p0), ())
theorem loops55 (N : Nat) : loopsOk C55 (L55 N) Go.Proofs.Tryd.f55 := ⟨trivial, ⟨trivial, trivial⟩⟩
theorem runs55 (N : Nat) (x : S55.ta.den) : run C55 S55 (L55 N) Go.Proofs.Tryd.f55 x = F55 N x.1 := by kernel_rfl

/-! ### 46: cmp.Compare[int64] -/
def L46 (_ : Nat) : Loops (Int × Unit) := fun _ _ _ => none
def F46 (N : Nat) (p0 : Int) (p1 : Int) : Option (Int × Unit) :=
  bif decide (p0 < p1) then
    some ((-(1 : Int)), ())
  else
    bif decide (p0 > p1) then
      some ((1 : Int), ())
    else
      some ((0 : Int), ())
theorem loops46 (N : Nat) : loopsOk C46 (L46 N) Go.Proofs.Tryd.f46 := ⟨trivial, ⟨trivial, ⟨trivial, ⟨⟨trivial, ⟨⟨⟨trivial, ⟨⟨trivial, trivial⟩, trivial⟩⟩, ⟨trivial, trivial⟩⟩, trivial⟩⟩, ⟨⟨trivial, ⟨⟨trivial, trivial⟩, trivial⟩⟩, ⟨⟨trivial, ⟨⟨trivial, trivial⟩, trivial⟩⟩, ⟨⟨trivial, ⟨⟨trivial, trivial⟩, trivial⟩⟩, ⟨trivial, trivial⟩⟩⟩⟩⟩⟩⟩⟩
theorem runs46 (N : Nat) (x : S46.ta.den) : run C46 S46 (L46 N) Go.Proofs.Tryd.f46 x = F46 N x.1 x.2.1 := by kernel_rfl

/-! ### 34: incognito/value.Compare -/
def L34 (_ : Nat) : Loops (Int × Unit) := fun _ _ _ => none
def F34 (N : Nat) (p0 : Int × Int × ByteArray × Unit) (p1 : Int × Int × ByteArray × Unit) : Option (Int × Unit) :=
  some ((Go.Inc.orI ((Go.Inc.cmpI p0.1 p1.1) :: ((Go.Inc.cmpI p0.2.1 p1.2.1) :: ((Go.Abs.cmpS p0.2.2.1 p1.2.2.1) :: ([] : List Int))))), ())
theorem loops34 (N : Nat) : loopsOk C34 (L34 N) Go.Proofs.Tryd.f34 := ⟨trivial, ⟨trivial, trivial⟩⟩
theorem runs34 (N : Nat) (x : S34.ta.den) : run C34 S34 (L34 N) Go.Proofs.Tryd.f34 x = F34 N x.1 x.2.1 := by kernel_rfl

/-! ### 12: incognito/dict.Step -/
def L12 (_ : Nat) : Loops ((Int × (Int × Int × ByteArray × Unit) × Int × (List (Int × Int × ByteArray × Unit)) × Unit) × (List (Int × Int × ByteArray × Unit)) × Bool × Unit) := fun _ _ _ => none
def F12 (N : Nat) (p0 : Int × (Int × Int × ByteArray × Unit) × Int × (List (Int × Int × ByteArray × Unit)) × Unit) (p1 : Int × Int × ByteArray × Unit) (p2 : Int) (p3 : List (Int × Int × ByteArray × Unit)) : Option ((Int × (Int × Int × ByteArray × Unit) × Int × (List (Int × Int × ByteArray × Unit)) × Unit) × (List (Int × Int × ByteArray × Unit)) × Bool × Unit) :=
  bif (!(((Go.Inc.dictNew p0.1).2).1)) then
    some (((0 : Int), (((0 : Int), ((0 : Int), (ByteArray.empty, ()))), ((0 : Int), (([] : List (Int × (Int × (ByteArray × Unit)))), ())))), (([] : List (Int × (Int × (ByteArray × Unit)))), (false, ())))
  else
    bif (Go.Inc.okT (0 : Int) p1) then
      bif (!(Go.Inc.takes (0 : Int) p1)) then
        some (((0 : Int), (((0 : Int), ((0 : Int), (ByteArray.empty, ()))), ((0 : Int), (([] : List (Int × (Int × (ByteArray × Unit)))), ())))), (([] : List (Int × (Int × (ByteArray × Unit)))), (false, ())))
      else
        bif (Go.Inc.okF p0.1 p2 p3) then
          bif (!(Go.Inc.fits p0.1 p2 p3)) then
            some (((0 : Int), (((0 : Int), ((0 : Int), (ByteArray.empty, ()))), ((0 : Int), (([] : List (Int × (Int × (ByteArray × Unit)))), ())))), (([] : List (Int × (Int × (ByteArray × Unit)))), (false, ())))
          else
            bif decide (((List.length p0.2.2.2.1) * 32) ≤ 140737488351232) then
              bif ((decide ((0 : Int) ≤ (0 : Int))) && (decide ((0 : Int) < (((List.length p3) : Nat) : Int)))) then
              bif (Go.Inc.okFind (List.length p0.2.2.2.1) p0.2.2.2.1) then
              bif (p2 == (13 : Int)) then
              bif ((decide ((0 : Int) ≤ (0 : Int))) && (decide ((0 : Int) < (((List.length p3) : Nat) : Int)))) then
              bif ((decide ((0 : Int) ≤ (1 : Int))) && (decide ((1 : Int) < (((List.length p3) : Nat) : Int)))) then
              bif (Go.Inc.okFind (List.length p0.2.2.2.1) ((((Go.Inc.findX (List.getD p3 (Int.toNat (0 : Int)) ((0 : Int), ((0 : Int), (ByteArray.empty, ())))) p0.2.2.2.1).2).2).1)) then
              bif decide ((List.length p0.2.2.2.1) = (List.length (((Go.Inc.scanX (List.getD p3 (Int.toNat (0 : Int)) ((0 : Int), ((0 : Int), (ByteArray.empty, ())))) (List.getD p3 (Int.toNat (1 : Int)) ((0 : Int), ((0 : Int), (ByteArray.empty, ())))) ((((Go.Inc.findX (List.getD p3 (Int.toNat (0 : Int)) ((0 : Int), ((0 : Int), (ByteArray.empty, ())))) p0.2.2.2.1).2).2).1)).2).1))) then
              some ((p0.1, (p0.2.1, (p0.2.2.1, (Go.Inc.scanX (List.getD p3 (Int.toNat (0 : Int)) ((0 : Int), ((0 : Int), (ByteArray.empty, ())))) (List.getD p3 (Int.toNat (1 : Int)) ((0 : Int), ((0 : Int), (ByteArray.empty, ())))) ((((Go.Inc.findX (List.getD p3 (Int.toNat (0 : Int)) ((0 : Int), ((0 : Int), (ByteArray.empty, ())))) p0.2.2.2.1).2).2).1)).2))), ((Go.Inc.scanX (List.getD p3 (Int.toNat (0 : Int)) ((0 : Int), ((0 : Int), (ByteArray.empty, ())))) (List.getD p3 (Int.toNat (1 : Int)) ((0 : Int), ((0 : Int), (ByteArray.empty, ())))) ((((Go.Inc.findX (List.getD p3 (Int.toNat (0 : Int)) ((0 : Int), ((0 : Int), (ByteArray.empty, ())))) p0.2.2.2.1).2).2).1)).1, (true, ())))
            else
              none
            else
              none
            else
              none
            else
              none
            else
              bif (p2 == (8 : Int)) then
              bif ((Go.Inc.findX (List.getD p3 (Int.toNat (0 : Int)) ((0 : Int), ((0 : Int), (ByteArray.empty, ())))) p0.2.2.2.1).2).1 then
              bif ((decide ((0 : Int) ≤ (Go.IntKind.wrap .i64 (((Go.Inc.findX (List.getD p3 (Int.toNat (0 : Int)) ((0 : Int), ((0 : Int), (ByteArray.empty, ())))) p0.2.2.2.1).1) + (1 : Int))))) && (decide ((Go.IntKind.wrap .i64 (((Go.Inc.findX (List.getD p3 (Int.toNat (0 : Int)) ((0 : Int), ((0 : Int), (ByteArray.empty, ())))) p0.2.2.2.1).1) + (1 : Int))) < (((List.length p0.2.2.2.1) : Nat) : Int)))) then
              bif decide ((Int.toNat (Go.IntKind.wrap .i64 (((Go.Inc.findX (List.getD p3 (Int.toNat (0 : Int)) ((0 : Int), ((0 : Int), (ByteArray.empty, ())))) p0.2.2.2.1).1) + (1 : Int)))) < (List.length ((((Go.Inc.findX (List.getD p3 (Int.toNat (0 : Int)) ((0 : Int), ((0 : Int), (ByteArray.empty, ())))) p0.2.2.2.1).2).2).1))) then
              bif decide ((List.length p0.2.2.2.1) = (List.length ((((Go.Inc.findX (List.getD p3 (Int.toNat (0 : Int)) ((0 : Int), ((0 : Int), (ByteArray.empty, ())))) p0.2.2.2.1).2).2).1))) then
              some ((p0.1, (p0.2.1, (p0.2.2.1, ((Go.Inc.findX (List.getD p3 (Int.toNat (0 : Int)) ((0 : Int), ((0 : Int), (ByteArray.empty, ())))) p0.2.2.2.1).2).2))), (((List.getD ((((Go.Inc.findX (List.getD p3 (Int.toNat (0 : Int)) ((0 : Int), ((0 : Int), (ByteArray.empty, ())))) p0.2.2.2.1).2).2).1) (Int.toNat (Go.IntKind.wrap .i64 (((Go.Inc.findX (List.getD p3 (Int.toNat (0 : Int)) ((0 : Int), ((0 : Int), (ByteArray.empty, ())))) p0.2.2.2.1).1) + (1 : Int)))) ((0 : Int), ((0 : Int), (ByteArray.empty, ())))) :: ([] : List (Int × (Int × (ByteArray × Unit))))), (true, ())))
            else
              none
            else
              none
            else
              none
            else
              bif (p2 == (8 : Int)) then
              bif decide ((List.length p0.2.2.2.1) = (List.length ((((Go.Inc.findX (List.getD p3 (Int.toNat (0 : Int)) ((0 : Int), ((0 : Int), (ByteArray.empty, ())))) p0.2.2.2.1).2).2).1))) then
              some ((p0.1, (p0.2.1, (p0.2.2.1, ((Go.Inc.findX (List.getD p3 (Int.toNat (0 : Int)) ((0 : Int), ((0 : Int), (ByteArray.empty, ())))) p0.2.2.2.1).2).2))), ((((0 : Int), ((0 : Int), (ByteArray.empty, ()))) :: ([] : List (Int × (Int × (ByteArray × Unit))))), (true, ())))
            else
              none
            else
              bif (p2 == (7 : Int)) then
              bif ((Go.Inc.findX (List.getD p3 (Int.toNat (0 : Int)) ((0 : Int), ((0 : Int), (ByteArray.empty, ())))) p0.2.2.2.1).2).1 then
              bif ((decide ((0 : Int) ≤ (1 : Int))) && (decide ((1 : Int) < (((List.length p3) : Nat) : Int)))) then
              bif ((decide ((0 : Int) ≤ (Go.IntKind.wrap .i64 (((Go.Inc.findX (List.getD p3 (Int.toNat (0 : Int)) ((0 : Int), ((0 : Int), (ByteArray.empty, ())))) p0.2.2.2.1).1) + (1 : Int))))) && (decide ((Go.IntKind.wrap .i64 (((Go.Inc.findX (List.getD p3 (Int.toNat (0 : Int)) ((0 : Int), ((0 : Int), (ByteArray.empty, ())))) p0.2.2.2.1).1) + (1 : Int))) < (((List.length p0.2.2.2.1) : Nat) : Int)))) then
              bif decide ((Int.toNat (Go.IntKind.wrap .i64 (((Go.Inc.findX (List.getD p3 (Int.toNat (0 : Int)) ((0 : Int), ((0 : Int), (ByteArray.empty, ())))) p0.2.2.2.1).1) + (1 : Int)))) < (List.length ((((Go.Inc.findX (List.getD p3 (Int.toNat (0 : Int)) ((0 : Int), ((0 : Int), (ByteArray.empty, ())))) p0.2.2.2.1).2).2).1))) then
              bif decide ((List.length p0.2.2.2.1) = (List.length (List.set ((((Go.Inc.findX (List.getD p3 (Int.toNat (0 : Int)) ((0 : Int), ((0 : Int), (ByteArray.empty, ())))) p0.2.2.2.1).2).2).1) (Int.toNat (Go.IntKind.wrap .i64 (((Go.Inc.findX (List.getD p3 (Int.toNat (0 : Int)) ((0 : Int), ((0 : Int), (ByteArray.empty, ())))) p0.2.2.2.1).1) + (1 : Int)))) (List.getD p3 (Int.toNat (1 : Int)) ((0 : Int), ((0 : Int), (ByteArray.empty, ()))))))) then
              some ((p0.1, (p0.2.1, (p0.2.2.1, ((List.set ((((Go.Inc.findX (List.getD p3 (Int.toNat (0 : Int)) ((0 : Int), ((0 : Int), (ByteArray.empty, ())))) p0.2.2.2.1).2).2).1) (Int.toNat (Go.IntKind.wrap .i64 (((Go.Inc.findX (List.getD p3 (Int.toNat (0 : Int)) ((0 : Int), ((0 : Int), (ByteArray.empty, ())))) p0.2.2.2.1).1) + (1 : Int)))) (List.getD p3 (Int.toNat (1 : Int)) ((0 : Int), ((0 : Int), (ByteArray.empty, ()))))), ())))), (([] : List (Int × (Int × (ByteArray × Unit)))), (true, ())))
            else
              none
            else
              none
            else
              none
            else
              none
            else
              bif (p2 == (7 : Int)) then
              bif ((decide ((0 : Int) ≤ (0 : Int))) && (decide ((0 : Int) < (((List.length p3) : Nat) : Int)))) then
              bif ((decide ((0 : Int) ≤ (1 : Int))) && (decide ((1 : Int) < (((List.length p3) : Nat) : Int)))) then
              bif ((decide ((List.length p0.2.2.2.1) = (List.length ((((Go.Inc.findX (List.getD p3 (Int.toNat (0 : Int)) ((0 : Int), ((0 : Int), (ByteArray.empty, ())))) p0.2.2.2.1).2).2).1)))) && ((decide ((0 : Int) ≤ ((Go.Inc.findX (List.getD p3 (Int.toNat (0 : Int)) ((0 : Int), ((0 : Int), (ByteArray.empty, ())))) p0.2.2.2.1).1))) && ((decide (((Go.Inc.findX (List.getD p3 (Int.toNat (0 : Int)) ((0 : Int), ((0 : Int), (ByteArray.empty, ())))) p0.2.2.2.1).1) ≤ (((List.length ((((Go.Inc.findX (List.getD p3 (Int.toNat (0 : Int)) ((0 : Int), ((0 : Int), (ByteArray.empty, ())))) p0.2.2.2.1).2).2).1)) : Nat) : Int))) && ((decide (0 < (List.length ((List.getD p3 (Int.toNat (0 : Int)) ((0 : Int), ((0 : Int), (ByteArray.empty, ())))) :: ((List.getD p3 (Int.toNat (1 : Int)) ((0 : Int), ((0 : Int), (ByteArray.empty, ())))) :: ([] : List (Int × (Int × (ByteArray × Unit))))))))) && (decide ((((List.length ((((Go.Inc.findX (List.getD p3 (Int.toNat (0 : Int)) ((0 : Int), ((0 : Int), (ByteArray.empty, ())))) p0.2.2.2.1).2).2).1)) + (List.length ((List.getD p3 (Int.toNat (0 : Int)) ((0 : Int), ((0 : Int), (ByteArray.empty, ())))) :: ((List.getD p3 (Int.toNat (1 : Int)) ((0 : Int), ((0 : Int), (ByteArray.empty, ())))) :: ([] : List (Int × (Int × (ByteArray × Unit)))))))) * 32) ≤ 140737488351232)))))) then
              bif decide (((List.length ((((Go.Inc.findX (List.getD p3 (Int.toNat (0 : Int)) ((0 : Int), ((0 : Int), (ByteArray.empty, ())))) p0.2.2.2.1).2).2).1)) + (List.length ((List.getD p3 (Int.toNat (0 : Int)) ((0 : Int), ((0 : Int), (ByteArray.empty, ())))) :: ((List.getD p3 (Int.toNat (1 : Int)) ((0 : Int), ((0 : Int), (ByteArray.empty, ())))) :: ([] : List (Int × (Int × (ByteArray × Unit)))))))) = (List.length ((List.take (Int.toNat ((Go.Inc.findX (List.getD p3 (Int.toNat (0 : Int)) ((0 : Int), ((0 : Int), (ByteArray.empty, ())))) p0.2.2.2.1).1)) ((((Go.Inc.findX (List.getD p3 (Int.toNat (0 : Int)) ((0 : Int), ((0 : Int), (ByteArray.empty, ())))) p0.2.2.2.1).2).2).1)) ++ (((List.getD p3 (Int.toNat (0 : Int)) ((0 : Int), ((0 : Int), (ByteArray.empty, ())))) :: ((List.getD p3 (Int.toNat (1 : Int)) ((0 : Int), ((0 : Int), (ByteArray.empty, ())))) :: ([] : List (Int × (Int × (ByteArray × Unit)))))) ++ (List.drop (Int.toNat ((Go.Inc.findX (List.getD p3 (Int.toNat (0 : Int)) ((0 : Int), ((0 : Int), (ByteArray.empty, ())))) p0.2.2.2.1).1)) ((((Go.Inc.findX (List.getD p3 (Int.toNat (0 : Int)) ((0 : Int), ((0 : Int), (ByteArray.empty, ())))) p0.2.2.2.1).2).2).1)))))) then
              some ((p0.1, (p0.2.1, (p0.2.2.1, (((List.take (Int.toNat ((Go.Inc.findX (List.getD p3 (Int.toNat (0 : Int)) ((0 : Int), ((0 : Int), (ByteArray.empty, ())))) p0.2.2.2.1).1)) ((((Go.Inc.findX (List.getD p3 (Int.toNat (0 : Int)) ((0 : Int), ((0 : Int), (ByteArray.empty, ())))) p0.2.2.2.1).2).2).1)) ++ (((List.getD p3 (Int.toNat (0 : Int)) ((0 : Int), ((0 : Int), (ByteArray.empty, ())))) :: ((List.getD p3 (Int.toNat (1 : Int)) ((0 : Int), ((0 : Int), (ByteArray.empty, ())))) :: ([] : List (Int × (Int × (ByteArray × Unit)))))) ++ (List.drop (Int.toNat ((Go.Inc.findX (List.getD p3 (Int.toNat (0 : Int)) ((0 : Int), ((0 : Int), (ByteArray.empty, ())))) p0.2.2.2.1).1)) ((((Go.Inc.findX (List.getD p3 (Int.toNat (0 : Int)) ((0 : Int), ((0 : Int), (ByteArray.empty, ())))) p0.2.2.2.1).2).2).1)))), ())))), (([] : List (Int × (Int × (ByteArray × Unit)))), (true, ())))
            else
              none
            else
              none
            else
              none
            else
              none
            else
              bif ((Go.Inc.findX (List.getD p3 (Int.toNat (0 : Int)) ((0 : Int), ((0 : Int), (ByteArray.empty, ())))) p0.2.2.2.1).2).1 then
              bif ((decide ((List.length p0.2.2.2.1) = (List.length ((((Go.Inc.findX (List.getD p3 (Int.toNat (0 : Int)) ((0 : Int), ((0 : Int), (ByteArray.empty, ())))) p0.2.2.2.1).2).2).1)))) && ((decide ((0 : Int) ≤ ((Go.Inc.findX (List.getD p3 (Int.toNat (0 : Int)) ((0 : Int), ((0 : Int), (ByteArray.empty, ())))) p0.2.2.2.1).1))) && ((decide (((Go.Inc.findX (List.getD p3 (Int.toNat (0 : Int)) ((0 : Int), ((0 : Int), (ByteArray.empty, ())))) p0.2.2.2.1).1) < (Go.IntKind.wrap .i64 (((Go.Inc.findX (List.getD p3 (Int.toNat (0 : Int)) ((0 : Int), ((0 : Int), (ByteArray.empty, ())))) p0.2.2.2.1).1) + (2 : Int))))) && ((decide ((Go.IntKind.wrap .i64 (((Go.Inc.findX (List.getD p3 (Int.toNat (0 : Int)) ((0 : Int), ((0 : Int), (ByteArray.empty, ())))) p0.2.2.2.1).1) + (2 : Int))) ≤ (((List.length ((((Go.Inc.findX (List.getD p3 (Int.toNat (0 : Int)) ((0 : Int), ((0 : Int), (ByteArray.empty, ())))) p0.2.2.2.1).2).2).1)) : Nat) : Int))) && (decide (((List.length ((((Go.Inc.findX (List.getD p3 (Int.toNat (0 : Int)) ((0 : Int), ((0 : Int), (ByteArray.empty, ())))) p0.2.2.2.1).2).2).1)) * 32) ≤ 140737488351232)))))) then
              bif decide (((List.length ((((Go.Inc.findX (List.getD p3 (Int.toNat (0 : Int)) ((0 : Int), ((0 : Int), (ByteArray.empty, ())))) p0.2.2.2.1).2).2).1)) - ((Int.toNat (Go.IntKind.wrap .i64 (((Go.Inc.findX (List.getD p3 (Int.toNat (0 : Int)) ((0 : Int), ((0 : Int), (ByteArray.empty, ())))) p0.2.2.2.1).1) + (2 : Int)))) - (Int.toNat ((Go.Inc.findX (List.getD p3 (Int.toNat (0 : Int)) ((0 : Int), ((0 : Int), (ByteArray.empty, ())))) p0.2.2.2.1).1)))) = (List.length ((List.take (Int.toNat ((Go.Inc.findX (List.getD p3 (Int.toNat (0 : Int)) ((0 : Int), ((0 : Int), (ByteArray.empty, ())))) p0.2.2.2.1).1)) ((((Go.Inc.findX (List.getD p3 (Int.toNat (0 : Int)) ((0 : Int), ((0 : Int), (ByteArray.empty, ())))) p0.2.2.2.1).2).2).1)) ++ (List.drop (Int.toNat (Go.IntKind.wrap .i64 (((Go.Inc.findX (List.getD p3 (Int.toNat (0 : Int)) ((0 : Int), ((0 : Int), (ByteArray.empty, ())))) p0.2.2.2.1).1) + (2 : Int)))) ((((Go.Inc.findX (List.getD p3 (Int.toNat (0 : Int)) ((0 : Int), ((0 : Int), (ByteArray.empty, ())))) p0.2.2.2.1).2).2).1))))) then
              some ((p0.1, (p0.2.1, (p0.2.2.1, (((List.take (Int.toNat ((Go.Inc.findX (List.getD p3 (Int.toNat (0 : Int)) ((0 : Int), ((0 : Int), (ByteArray.empty, ())))) p0.2.2.2.1).1)) ((((Go.Inc.findX (List.getD p3 (Int.toNat (0 : Int)) ((0 : Int), ((0 : Int), (ByteArray.empty, ())))) p0.2.2.2.1).2).2).1)) ++ (List.drop (Int.toNat (Go.IntKind.wrap .i64 (((Go.Inc.findX (List.getD p3 (Int.toNat (0 : Int)) ((0 : Int), ((0 : Int), (ByteArray.empty, ())))) p0.2.2.2.1).1) + (2 : Int)))) ((((Go.Inc.findX (List.getD p3 (Int.toNat (0 : Int)) ((0 : Int), ((0 : Int), (ByteArray.empty, ())))) p0.2.2.2.1).2).2).1))), ())))), (([] : List (Int × (Int × (ByteArray × Unit)))), (true, ())))
            else
              none
            else
              none
            else
              bif decide ((List.length p0.2.2.2.1) = (List.length ((((Go.Inc.findX (List.getD p3 (Int.toNat (0 : Int)) ((0 : Int), ((0 : Int), (ByteArray.empty, ())))) p0.2.2.2.1).2).2).1))) then
              some ((p0.1, (p0.2.1, (p0.2.2.1, ((Go.Inc.findX (List.getD p3 (Int.toNat (0 : Int)) ((0 : Int), ((0 : Int), (ByteArray.empty, ())))) p0.2.2.2.1).2).2))), (([] : List (Int × (Int × (ByteArray × Unit)))), (true, ())))
            else
              none
            else
              bif (p2 == (7 : Int)) then
              bif ((decide ((0 : Int) ≤ (0 : Int))) && (decide ((0 : Int) < (((List.length p3) : Nat) : Int)))) then
              bif ((decide ((0 : Int) ≤ (1 : Int))) && (decide ((1 : Int) < (((List.length p3) : Nat) : Int)))) then
              bif ((decide ((List.length p0.2.2.2.1) = (List.length ((((Go.Inc.findX (List.getD p3 (Int.toNat (0 : Int)) ((0 : Int), ((0 : Int), (ByteArray.empty, ())))) p0.2.2.2.1).2).2).1)))) && ((decide ((0 : Int) ≤ ((Go.Inc.findX (List.getD p3 (Int.toNat (0 : Int)) ((0 : Int), ((0 : Int), (ByteArray.empty, ())))) p0.2.2.2.1).1))) && ((decide (((Go.Inc.findX (List.getD p3 (Int.toNat (0 : Int)) ((0 : Int), ((0 : Int), (ByteArray.empty, ())))) p0.2.2.2.1).1) ≤ (((List.length ((((Go.Inc.findX (List.getD p3 (Int.toNat (0 : Int)) ((0 : Int), ((0 : Int), (ByteArray.empty, ())))) p0.2.2.2.1).2).2).1)) : Nat) : Int))) && ((decide (0 < (List.length ((List.getD p3 (Int.toNat (0 : Int)) ((0 : Int), ((0 : Int), (ByteArray.empty, ())))) :: ((List.getD p3 (Int.toNat (1 : Int)) ((0 : Int), ((0 : Int), (ByteArray.empty, ())))) :: ([] : List (Int × (Int × (ByteArray × Unit))))))))) && (decide ((((List.length ((((Go.Inc.findX (List.getD p3 (Int.toNat (0 : Int)) ((0 : Int), ((0 : Int), (ByteArray.empty, ())))) p0.2.2.2.1).2).2).1)) + (List.length ((List.getD p3 (Int.toNat (0 : Int)) ((0 : Int), ((0 : Int), (ByteArray.empty, ())))) :: ((List.getD p3 (Int.toNat (1 : Int)) ((0 : Int), ((0 : Int), (ByteArray.empty, ())))) :: ([] : List (Int × (Int × (ByteArray × Unit)))))))) * 32) ≤ 140737488351232)))))) then
              bif decide (((List.length ((((Go.Inc.findX (List.getD p3 (Int.toNat (0 : Int)) ((0 : Int), ((0 : Int), (ByteArray.empty, ())))) p0.2.2.2.1).2).2).1)) + (List.length ((List.getD p3 (Int.toNat (0 : Int)) ((0 : Int), ((0 : Int), (ByteArray.empty, ())))) :: ((List.getD p3 (Int.toNat (1 : Int)) ((0 : Int), ((0 : Int), (ByteArray.empty, ())))) :: ([] : List (Int × (Int × (ByteArray × Unit)))))))) = (List.length ((List.take (Int.toNat ((Go.Inc.findX (List.getD p3 (Int.toNat (0 : Int)) ((0 : Int), ((0 : Int), (ByteArray.empty, ())))) p0.2.2.2.1).1)) ((((Go.Inc.findX (List.getD p3 (Int.toNat (0 : Int)) ((0 : Int), ((0 : Int), (ByteArray.empty, ())))) p0.2.2.2.1).2).2).1)) ++ (((List.getD p3 (Int.toNat (0 : Int)) ((0 : Int), ((0 : Int), (ByteArray.empty, ())))) :: ((List.getD p3 (Int.toNat (1 : Int)) ((0 : Int), ((0 : Int), (ByteArray.empty, ())))) :: ([] : List (Int × (Int × (ByteArray × Unit)))))) ++ (List.drop (Int.toNat ((Go.Inc.findX (List.getD p3 (Int.toNat (0 : Int)) ((0 : Int), ((0 : Int), (ByteArray.empty, ())))) p0.2.2.2.1).1)) ((((Go.Inc.findX (List.getD p3 (Int.toNat (0 : Int)) ((0 : Int), ((0 : Int), (ByteArray.empty, ())))) p0.2.2.2.1).2).2).1)))))) then
              some ((p0.1, (p0.2.1, (p0.2.2.1, (((List.take (Int.toNat ((Go.Inc.findX (List.getD p3 (Int.toNat (0 : Int)) ((0 : Int), ((0 : Int), (ByteArray.empty, ())))) p0.2.2.2.1).1)) ((((Go.Inc.findX (List.getD p3 (Int.toNat (0 : Int)) ((0 : Int), ((0 : Int), (ByteArray.empty, ())))) p0.2.2.2.1).2).2).1)) ++ (((List.getD p3 (Int.toNat (0 : Int)) ((0 : Int), ((0 : Int), (ByteArray.empty, ())))) :: ((List.getD p3 (Int.toNat (1 : Int)) ((0 : Int), ((0 : Int), (ByteArray.empty, ())))) :: ([] : List (Int × (Int × (ByteArray × Unit)))))) ++ (List.drop (Int.toNat ((Go.Inc.findX (List.getD p3 (Int.toNat (0 : Int)) ((0 : Int), ((0 : Int), (ByteArray.empty, ())))) p0.2.2.2.1).1)) ((((Go.Inc.findX (List.getD p3 (Int.toNat (0 : Int)) ((0 : Int), ((0 : Int), (ByteArray.empty, ())))) p0.2.2.2.1).2).2).1)))), ())))), (([] : List (Int × (Int × (ByteArray × Unit)))), (true, ())))
            else
              none
            else
              none
            else
              none
            else
              none
            else
              bif ((Go.Inc.findX (List.getD p3 (Int.toNat (0 : Int)) ((0 : Int), ((0 : Int), (ByteArray.empty, ())))) p0.2.2.2.1).2).1 then
              bif ((decide ((List.length p0.2.2.2.1) = (List.length ((((Go.Inc.findX (List.getD p3 (Int.toNat (0 : Int)) ((0 : Int), ((0 : Int), (ByteArray.empty, ())))) p0.2.2.2.1).2).2).1)))) && ((decide ((0 : Int) ≤ ((Go.Inc.findX (List.getD p3 (Int.toNat (0 : Int)) ((0 : Int), ((0 : Int), (ByteArray.empty, ())))) p0.2.2.2.1).1))) && ((decide (((Go.Inc.findX (List.getD p3 (Int.toNat (0 : Int)) ((0 : Int), ((0 : Int), (ByteArray.empty, ())))) p0.2.2.2.1).1) < (Go.IntKind.wrap .i64 (((Go.Inc.findX (List.getD p3 (Int.toNat (0 : Int)) ((0 : Int), ((0 : Int), (ByteArray.empty, ())))) p0.2.2.2.1).1) + (2 : Int))))) && ((decide ((Go.IntKind.wrap .i64 (((Go.Inc.findX (List.getD p3 (Int.toNat (0 : Int)) ((0 : Int), ((0 : Int), (ByteArray.empty, ())))) p0.2.2.2.1).1) + (2 : Int))) ≤ (((List.length ((((Go.Inc.findX (List.getD p3 (Int.toNat (0 : Int)) ((0 : Int), ((0 : Int), (ByteArray.empty, ())))) p0.2.2.2.1).2).2).1)) : Nat) : Int))) && (decide (((List.length ((((Go.Inc.findX (List.getD p3 (Int.toNat (0 : Int)) ((0 : Int), ((0 : Int), (ByteArray.empty, ())))) p0.2.2.2.1).2).2).1)) * 32) ≤ 140737488351232)))))) then
              bif decide (((List.length ((((Go.Inc.findX (List.getD p3 (Int.toNat (0 : Int)) ((0 : Int), ((0 : Int), (ByteArray.empty, ())))) p0.2.2.2.1).2).2).1)) - ((Int.toNat (Go.IntKind.wrap .i64 (((Go.Inc.findX (List.getD p3 (Int.toNat (0 : Int)) ((0 : Int), ((0 : Int), (ByteArray.empty, ())))) p0.2.2.2.1).1) + (2 : Int)))) - (Int.toNat ((Go.Inc.findX (List.getD p3 (Int.toNat (0 : Int)) ((0 : Int), ((0 : Int), (ByteArray.empty, ())))) p0.2.2.2.1).1)))) = (List.length ((List.take (Int.toNat ((Go.Inc.findX (List.getD p3 (Int.toNat (0 : Int)) ((0 : Int), ((0 : Int), (ByteArray.empty, ())))) p0.2.2.2.1).1)) ((((Go.Inc.findX (List.getD p3 (Int.toNat (0 : Int)) ((0 : Int), ((0 : Int), (ByteArray.empty, ())))) p0.2.2.2.1).2).2).1)) ++ (List.drop (Int.toNat (Go.IntKind.wrap .i64 (((Go.Inc.findX (List.getD p3 (Int.toNat (0 : Int)) ((0 : Int), ((0 : Int), (ByteArray.empty, ())))) p0.2.2.2.1).1) + (2 : Int)))) ((((Go.Inc.findX (List.getD p3 (Int.toNat (0 : Int)) ((0 : Int), ((0 : Int), (ByteArray.empty, ())))) p0.2.2.2.1).2).2).1))))) then
              some ((p0.1, (p0.2.1, (p0.2.2.1, (((List.take (Int.toNat ((Go.Inc.findX (List.getD p3 (Int.toNat (0 : Int)) ((0 : Int), ((0 : Int), (ByteArray.empty, ())))) p0.2.2.2.1).1)) ((((Go.Inc.findX (List.getD p3 (Int.toNat (0 : Int)) ((0 : Int), ((0 : Int), (ByteArray.empty, ())))) p0.2.2.2.1).2).2).1)) ++ (List.drop (Int.toNat (Go.IntKind.wrap .i64 (((Go.Inc.findX (List.getD p3 (Int.toNat (0 : Int)) ((0 : Int), ((0 : Int), (ByteArray.empty, ())))) p0.2.2.2.1).1) + (2 : Int)))) ((((Go.Inc.findX (List.getD p3 (Int.toNat (0 : Int)) ((0 : Int), ((0 : Int), (ByteArray.empty, ())))) p0.2.2.2.1).2).2).1))), ())))), (([] : List (Int × (Int × (ByteArray × Unit)))), (true, ())))
            else
              none
            else
              none
            else
              bif decide ((List.length p0.2.2.2.1) = (List.length ((((Go.Inc.findX (List.getD p3 (Int.toNat (0 : Int)) ((0 : Int), ((0 : Int), (ByteArray.empty, ())))) p0.2.2.2.1).2).2).1))) then
              some ((p0.1, (p0.2.1, (p0.2.2.1, ((Go.Inc.findX (List.getD p3 (Int.toNat (0 : Int)) ((0 : Int), ((0 : Int), (ByteArray.empty, ())))) p0.2.2.2.1).2).2))), (([] : List (Int × (Int × (ByteArray × Unit)))), (true, ())))
            else
              none
            else
              bif (p2 == (8 : Int)) then
              bif decide ((List.length p0.2.2.2.1) = (List.length ((((Go.Inc.findX (List.getD p3 (Int.toNat (0 : Int)) ((0 : Int), ((0 : Int), (ByteArray.empty, ())))) p0.2.2.2.1).2).2).1))) then
              some ((p0.1, (p0.2.1, (p0.2.2.1, ((Go.Inc.findX (List.getD p3 (Int.toNat (0 : Int)) ((0 : Int), ((0 : Int), (ByteArray.empty, ())))) p0.2.2.2.1).2).2))), ((((0 : Int), ((0 : Int), (ByteArray.empty, ()))) :: ([] : List (Int × (Int × (ByteArray × Unit))))), (true, ())))
            else
              none
            else
              bif (p2 == (7 : Int)) then
              bif ((Go.Inc.findX (List.getD p3 (Int.toNat (0 : Int)) ((0 : Int), ((0 : Int), (ByteArray.empty, ())))) p0.2.2.2.1).2).1 then
              bif ((decide ((0 : Int) ≤ (1 : Int))) && (decide ((1 : Int) < (((List.length p3) : Nat) : Int)))) then
              bif ((decide ((0 : Int) ≤ (Go.IntKind.wrap .i64 (((Go.Inc.findX (List.getD p3 (Int.toNat (0 : Int)) ((0 : Int), ((0 : Int), (ByteArray.empty, ())))) p0.2.2.2.1).1) + (1 : Int))))) && (decide ((Go.IntKind.wrap .i64 (((Go.Inc.findX (List.getD p3 (Int.toNat (0 : Int)) ((0 : Int), ((0 : Int), (ByteArray.empty, ())))) p0.2.2.2.1).1) + (1 : Int))) < (((List.length p0.2.2.2.1) : Nat) : Int)))) then
              bif decide ((Int.toNat (Go.IntKind.wrap .i64 (((Go.Inc.findX (List.getD p3 (Int.toNat (0 : Int)) ((0 : Int), ((0 : Int), (ByteArray.empty, ())))) p0.2.2.2.1).1) + (1 : Int)))) < (List.length ((((Go.Inc.findX (List.getD p3 (Int.toNat (0 : Int)) ((0 : Int), ((0 : Int), (ByteArray.empty, ())))) p0.2.2.2.1).2).2).1))) then
              bif decide ((List.length p0.2.2.2.1) = (List.length (List.set ((((Go.Inc.findX (List.getD p3 (Int.toNat (0 : Int)) ((0 : Int), ((0 : Int), (ByteArray.empty, ())))) p0.2.2.2.1).2).2).1) (Int.toNat (Go.IntKind.wrap .i64 (((Go.Inc.findX (List.getD p3 (Int.toNat (0 : Int)) ((0 : Int), ((0 : Int), (ByteArray.empty, ())))) p0.2.2.2.1).1) + (1 : Int)))) (List.getD p3 (Int.toNat (1 : Int)) ((0 : Int), ((0 : Int), (ByteArray.empty, ()))))))) then
              some ((p0.1, (p0.2.1, (p0.2.2.1, ((List.set ((((Go.Inc.findX (List.getD p3 (Int.toNat (0 : Int)) ((0 : Int), ((0 : Int), (ByteArray.empty, ())))) p0.2.2.2.1).2).2).1) (Int.toNat (Go.IntKind.wrap .i64 (((Go.Inc.findX (List.getD p3 (Int.toNat (0 : Int)) ((0 : Int), ((0 : Int), (ByteArray.empty, ())))) p0.2.2.2.1).1) + (1 : Int)))) (List.getD p3 (Int.toNat (1 : Int)) ((0 : Int), ((0 : Int), (ByteArray.empty, ()))))), ())))), (([] : List (Int × (Int × (ByteArray × Unit)))), (true, ())))
            else
              none
            else
              none
            else
              none
            else
              none
            else
              bif (p2 == (7 : Int)) then
              bif ((decide ((0 : Int) ≤ (0 : Int))) && (decide ((0 : Int) < (((List.length p3) : Nat) : Int)))) then
              bif ((decide ((0 : Int) ≤ (1 : Int))) && (decide ((1 : Int) < (((List.length p3) : Nat) : Int)))) then
              bif ((decide ((List.length p0.2.2.2.1) = (List.length ((((Go.Inc.findX (List.getD p3 (Int.toNat (0 : Int)) ((0 : Int), ((0 : Int), (ByteArray.empty, ())))) p0.2.2.2.1).2).2).1)))) && ((decide ((0 : Int) ≤ ((Go.Inc.findX (List.getD p3 (Int.toNat (0 : Int)) ((0 : Int), ((0 : Int), (ByteArray.empty, ())))) p0.2.2.2.1).1))) && ((decide (((Go.Inc.findX (List.getD p3 (Int.toNat (0 : Int)) ((0 : Int), ((0 : Int), (ByteArray.empty, ())))) p0.2.2.2.1).1) ≤ (((List.length ((((Go.Inc.findX (List.getD p3 (Int.toNat (0 : Int)) ((0 : Int), ((0 : Int), (ByteArray.empty, ())))) p0.2.2.2.1).2).2).1)) : Nat) : Int))) && ((decide (0 < (List.length ((List.getD p3 (Int.toNat (0 : Int)) ((0 : Int), ((0 : Int), (ByteArray.empty, ())))) :: ((List.getD p3 (Int.toNat (1 : Int)) ((0 : Int), ((0 : Int), (ByteArray.empty, ())))) :: ([] : List (Int × (Int × (ByteArray × Unit))))))))) && (decide ((((List.length ((((Go.Inc.findX (List.getD p3 (Int.toNat (0 : Int)) ((0 : Int), ((0 : Int), (ByteArray.empty, ())))) p0.2.2.2.1).2).2).1)) + (List.length ((List.getD p3 (Int.toNat (0 : Int)) ((0 : Int), ((0 : Int), (ByteArray.empty, ())))) :: ((List.getD p3 (Int.toNat (1 : Int)) ((0 : Int), ((0 : Int), (ByteArray.empty, ())))) :: ([] : List (Int × (Int × (ByteArray × Unit)))))))) * 32) ≤ 140737488351232)))))) then
              bif decide (((List.length ((((Go.Inc.findX (List.getD p3 (Int.toNat (0 : Int)) ((0 : Int), ((0 : Int), (ByteArray.empty, ())))) p0.2.2.2.1).2).2).1)) + (List.length ((List.getD p3 (Int.toNat (0 : Int)) ((0 : Int), ((0 : Int), (ByteArray.empty, ())))) :: ((List.getD p3 (Int.toNat (1 : Int)) ((0 : Int), ((0 : Int), (ByteArray.empty, ())))) :: ([] : List (Int × (Int × (ByteArray × Unit)))))))) = (List.length ((List.take (Int.toNat ((Go.Inc.findX (List.getD p3 (Int.toNat (0 : Int)) ((0 : Int), ((0 : Int), (ByteArray.empty, ())))) p0.2.2.2.1).1)) ((((Go.Inc.findX (List.getD p3 (Int.toNat (0 : Int)) ((0 : Int), ((0 : Int), (ByteArray.empty, ())))) p0.2.2.2.1).2).2).1)) ++ (((List.getD p3 (Int.toNat (0 : Int)) ((0 : Int), ((0 : Int), (ByteArray.empty, ())))) :: ((List.getD p3 (Int.toNat (1 : Int)) ((0 : Int), ((0 : Int), (ByteArray.empty, ())))) :: ([] : List (Int × (Int × (ByteArray × Unit)))))) ++ (List.drop (Int.toNat ((Go.Inc.findX (List.getD p3 (Int.toNat (0 : Int)) ((0 : Int), ((0 : Int), (ByteArray.empty, ())))) p0.2.2.2.1).1)) ((((Go.Inc.findX (List.getD p3 (Int.toNat (0 : Int)) ((0 : Int), ((0 : Int), (ByteArray.empty, ())))) p0.2.2.2.1).2).2).1)))))) then
              some ((p0.1, (p0.2.1, (p0.2.2.1, (((List.take (Int.toNat ((Go.Inc.findX (List.getD p3 (Int.toNat (0 : Int)) ((0 : Int), ((0 : Int), (ByteArray.empty, ())))) p0.2.2.2.1).1)) ((((Go.Inc.findX (List.getD p3 (Int.toNat (0 : Int)) ((0 : Int), ((0 : Int), (ByteArray.empty, ())))) p0.2.2.2.1).2).2).1)) ++ (((List.getD p3 (Int.toNat (0 : Int)) ((0 : Int), ((0 : Int), (ByteArray.empty, ())))) :: ((List.getD p3 (Int.toNat (1 : Int)) ((0 : Int), ((0 : Int), (ByteArray.empty, ())))) :: ([] : List (Int × (Int × (ByteArray × Unit)))))) ++ (List.drop (Int.toNat ((Go.Inc.findX (List.getD p3 (Int.toNat (0 : Int)) ((0 : Int), ((0 : Int), (ByteArray.empty, ())))) p0.2.2.2.1).1)) ((((Go.Inc.findX (List.getD p3 (Int.toNat (0 : Int)) ((0 : Int), ((0 : Int), (ByteArray.empty, ())))) p0.2.2.2.1).2).2).1)))), ())))), (([] : List (Int × (Int × (ByteArray × Unit)))), (true, ())))
            else
              none
            else
              none
            else
              none
            else
              none
            else
              bif ((Go.Inc.findX (List.getD p3 (Int.toNat (0 : Int)) ((0 : Int), ((0 : Int), (ByteArray.empty, ())))) p0.2.2.2.1).2).1 then
              bif ((decide ((List.length p0.2.2.2.1) = (List.length ((((Go.Inc.findX (List.getD p3 (Int.toNat (0 : Int)) ((0 : Int), ((0 : Int), (ByteArray.empty, ())))) p0.2.2.2.1).2).2).1)))) && ((decide ((0 : Int) ≤ ((Go.Inc.findX (List.getD p3 (Int.toNat (0 : Int)) ((0 : Int), ((0 : Int), (ByteArray.empty, ())))) p0.2.2.2.1).1))) && ((decide (((Go.Inc.findX (List.getD p3 (Int.toNat (0 : Int)) ((0 : Int), ((0 : Int), (ByteArray.empty, ())))) p0.2.2.2.1).1) < (Go.IntKind.wrap .i64 (((Go.Inc.findX (List.getD p3 (Int.toNat (0 : Int)) ((0 : Int), ((0 : Int), (ByteArray.empty, ())))) p0.2.2.2.1).1) + (2 : Int))))) && ((decide ((Go.IntKind.wrap .i64 (((Go.Inc.findX (List.getD p3 (Int.toNat (0 : Int)) ((0 : Int), ((0 : Int), (ByteArray.empty, ())))) p0.2.2.2.1).1) + (2 : Int))) ≤ (((List.length ((((Go.Inc.findX (List.getD p3 (Int.toNat (0 : Int)) ((0 : Int), ((0 : Int), (ByteArray.empty, ())))) p0.2.2.2.1).2).2).1)) : Nat) : Int))) && (decide (((List.length ((((Go.Inc.findX (List.getD p3 (Int.toNat (0 : Int)) ((0 : Int), ((0 : Int), (ByteArray.empty, ())))) p0.2.2.2.1).2).2).1)) * 32) ≤ 140737488351232)))))) then
              bif decide (((List.length ((((Go.Inc.findX (List.getD p3 (Int.toNat (0 : Int)) ((0 : Int), ((0 : Int), (ByteArray.empty, ())))) p0.2.2.2.1).2).2).1)) - ((Int.toNat (Go.IntKind.wrap .i64 (((Go.Inc.findX (List.getD p3 (Int.toNat (0 : Int)) ((0 : Int), ((0 : Int), (ByteArray.empty, ())))) p0.2.2.2.1).1) + (2 : Int)))) - (Int.toNat ((Go.Inc.findX (List.getD p3 (Int.toNat (0 : Int)) ((0 : Int), ((0 : Int), (ByteArray.empty, ())))) p0.2.2.2.1).1)))) = (List.length ((List.take (Int.toNat ((Go.Inc.findX (List.getD p3 (Int.toNat (0 : Int)) ((0 : Int), ((0 : Int), (ByteArray.empty, ())))) p0.2.2.2.1).1)) ((((Go.Inc.findX (List.getD p3 (Int.toNat (0 : Int)) ((0 : Int), ((0 : Int), (ByteArray.empty, ())))) p0.2.2.2.1).2).2).1)) ++ (List.drop (Int.toNat (Go.IntKind.wrap .i64 (((Go.Inc.findX (List.getD p3 (Int.toNat (0 : Int)) ((0 : Int), ((0 : Int), (ByteArray.empty, ())))) p0.2.2.2.1).1) + (2 : Int)))) ((((Go.Inc.findX (List.getD p3 (Int.toNat (0 : Int)) ((0 : Int), ((0 : Int), (ByteArray.empty, ())))) p0.2.2.2.1).2).2).1))))) then
              some ((p0.1, (p0.2.1, (p0.2.2.1, (((List.take (Int.toNat ((Go.Inc.findX (List.getD p3 (Int.toNat (0 : Int)) ((0 : Int), ((0 : Int), (ByteArray.empty, ())))) p0.2.2.2.1).1)) ((((Go.Inc.findX (List.getD p3 (Int.toNat (0 : Int)) ((0 : Int), ((0 : Int), (ByteArray.empty, ())))) p0.2.2.2.1).2).2).1)) ++ (List.drop (Int.toNat (Go.IntKind.wrap .i64 (((Go.Inc.findX (List.getD p3 (Int.toNat (0 : Int)) ((0 : Int), ((0 : Int), (ByteArray.empty, ())))) p0.2.2.2.1).1) + (2 : Int)))) ((((Go.Inc.findX (List.getD p3 (Int.toNat (0 : Int)) ((0 : Int), ((0 : Int), (ByteArray.empty, ())))) p0.2.2.2.1).2).2).1))), ())))), (([] : List (Int × (Int × (ByteArray × Unit)))), (true, ())))
            else
              none
            else
              none
            else
              bif decide ((List.length p0.2.2.2.1) = (List.length ((((Go.Inc.findX (List.getD p3 (Int.toNat (0 : Int)) ((0 : Int), ((0 : Int), (ByteArray.empty, ())))) p0.2.2.2.1).2).2).1))) then
              some ((p0.1, (p0.2.1, (p0.2.2.1, ((Go.Inc.findX (List.getD p3 (Int.toNat (0 : Int)) ((0 : Int), ((0 : Int), (ByteArray.empty, ())))) p0.2.2.2.1).2).2))), (([] : List (Int × (Int × (ByteArray × Unit)))), (true, ())))
            else
              none
            else
              bif (p2 == (7 : Int)) then
              bif ((decide ((0 : Int) ≤ (0 : Int))) && (decide ((0 : Int) < (((List.length p3) : Nat) : Int)))) then
              bif ((decide ((0 : Int) ≤ (1 : Int))) && (decide ((1 : Int) < (((List.length p3) : Nat) : Int)))) then
              bif ((decide ((List.length p0.2.2.2.1) = (List.length ((((Go.Inc.findX (List.getD p3 (Int.toNat (0 : Int)) ((0 : Int), ((0 : Int), (ByteArray.empty, ())))) p0.2.2.2.1).2).2).1)))) && ((decide ((0 : Int) ≤ ((Go.Inc.findX (List.getD p3 (Int.toNat (0 : Int)) ((0 : Int), ((0 : Int), (ByteArray.empty, ())))) p0.2.2.2.1).1))) && ((decide (((Go.Inc.findX (List.getD p3 (Int.toNat (0 : Int)) ((0 : Int), ((0 : Int), (ByteArray.empty, ())))) p0.2.2.2.1).1) ≤ (((List.length ((((Go.Inc.findX (List.getD p3 (Int.toNat (0 : Int)) ((0 : Int), ((0 : Int), (ByteArray.empty, ())))) p0.2.2.2.1).2).2).1)) : Nat) : Int))) && ((decide (0 < (List.length ((List.getD p3 (Int.toNat (0 : Int)) ((0 : Int), ((0 : Int), (ByteArray.empty, ())))) :: ((List.getD p3 (Int.toNat (1 : Int)) ((0 : Int), ((0 : Int), (ByteArray.empty, ())))) :: ([] : List (Int × (Int × (ByteArray × Unit))))))))) && (decide ((((List.length ((((Go.Inc.findX (List.getD p3 (Int.toNat (0 : Int)) ((0 : Int), ((0 : Int), (ByteArray.empty, ())))) p0.2.2.2.1).2).2).1)) + (List.length ((List.getD p3 (Int.toNat (0 : Int)) ((0 : Int), ((0 : Int), (ByteArray.empty, ())))) :: ((List.getD p3 (Int.toNat (1 : Int)) ((0 : Int), ((0 : Int), (ByteArray.empty, ())))) :: ([] : List (Int × (Int × (ByteArray × Unit)))))))) * 32) ≤ 140737488351232)))))) then
              bif decide (((List.length ((((Go.Inc.findX (List.getD p3 (Int.toNat (0 : Int)) ((0 : Int), ((0 : Int), (ByteArray.empty, ())))) p0.2.2.2.1).2).2).1)) + (List.length ((List.getD p3 (Int.toNat (0 : Int)) ((0 : Int), ((0 : Int), (ByteArray.empty, ())))) :: ((List.getD p3 (Int.toNat (1 : Int)) ((0 : Int), ((0 : Int), (ByteArray.empty, ())))) :: ([] : List (Int × (Int × (ByteArray × Unit)))))))) = (List.length ((List.take (Int.toNat ((Go.Inc.findX (List.getD p3 (Int.toNat (0 : Int)) ((0 : Int), ((0 : Int), (ByteArray.empty, ())))) p0.2.2.2.1).1)) ((((Go.Inc.findX (List.getD p3 (Int.toNat (0 : Int)) ((0 : Int), ((0 : Int), (ByteArray.empty, ())))) p0.2.2.2.1).2).2).1)) ++ (((List.getD p3 (Int.toNat (0 : Int)) ((0 : Int), ((0 : Int), (ByteArray.empty, ())))) :: ((List.getD p3 (Int.toNat (1 : Int)) ((0 : Int), ((0 : Int), (ByteArray.empty, ())))) :: ([] : List (Int × (Int × (ByteArray × Unit)))))) ++ (List.drop (Int.toNat ((Go.Inc.findX (List.getD p3 (Int.toNat (0 : Int)) ((0 : Int), ((0 : Int), (ByteArray.empty, ())))) p0.2.2.2.1).1)) ((((Go.Inc.findX (List.getD p3 (Int.toNat (0 : Int)) ((0 : Int), ((0 : Int), (ByteArray.empty, ())))) p0.2.2.2.1).2).2).1)))))) then
              some ((p0.1, (p0.2.1, (p0.2.2.1, (((List.take (Int.toNat ((Go.Inc.findX (List.getD p3 (Int.toNat (0 : Int)) ((0 : Int), ((0 : Int), (ByteArray.empty, ())))) p0.2.2.2.1).1)) ((((Go.Inc.findX (List.getD p3 (Int.toNat (0 : Int)) ((0 : Int), ((0 : Int), (ByteArray.empty, ())))) p0.2.2.2.1).2).2).1)) ++ (((List.getD p3 (Int.toNat (0 : Int)) ((0 : Int), ((0 : Int), (ByteArray.empty, ())))) :: ((List.getD p3 (Int.toNat (1 : Int)) ((0 : Int), ((0 : Int), (ByteArray.empty, ())))) :: ([] : List (Int × (Int × (ByteArray × Unit)))))) ++ (List.drop (Int.toNat ((Go.Inc.findX (List.getD p3 (Int.toNat (0 : Int)) ((0 : Int), ((0 : Int), (ByteArray.empty, ())))) p0.2.2.2.1).1)) ((((Go.Inc.findX (List.getD p3 (Int.toNat (0 : Int)) ((0 : Int), ((0 : Int), (ByteArray.empty, ())))) p0.2.2.2.1).2).2).1)))), ())))), (([] : List (Int × (Int × (ByteArray × Unit)))), (true, ())))
            else
              none
            else
              none
            else
              none
            else
              none
            else
              bif ((Go.Inc.findX (List.getD p3 (Int.toNat (0 : Int)) ((0 : Int), ((0 : Int), (ByteArray.empty, ())))) p0.2.2.2.1).2).1 then
              bif ((decide ((List.length p0.2.2.2.1) = (List.length ((((Go.Inc.findX (List.getD p3 (Int.toNat (0 : Int)) ((0 : Int), ((0 : Int), (ByteArray.empty, ())))) p0.2.2.2.1).2).2).1)))) && ((decide ((0 : Int) ≤ ((Go.Inc.findX (List.getD p3 (Int.toNat (0 : Int)) ((0 : Int), ((0 : Int), (ByteArray.empty, ())))) p0.2.2.2.1).1))) && ((decide (((Go.Inc.findX (List.getD p3 (Int.toNat (0 : Int)) ((0 : Int), ((0 : Int), (ByteArray.empty, ())))) p0.2.2.2.1).1) < (Go.IntKind.wrap .i64 (((Go.Inc.findX (List.getD p3 (Int.toNat (0 : Int)) ((0 : Int), ((0 : Int), (ByteArray.empty, ())))) p0.2.2.2.1).1) + (2 : Int))))) && ((decide ((Go.IntKind.wrap .i64 (((Go.Inc.findX (List.getD p3 (Int.toNat (0 : Int)) ((0 : Int), ((0 : Int), (ByteArray.empty, ())))) p0.2.2.2.1).1) + (2 : Int))) ≤ (((List.length ((((Go.Inc.findX (List.getD p3 (Int.toNat (0 : Int)) ((0 : Int), ((0 : Int), (ByteArray.empty, ())))) p0.2.2.2.1).2).2).1)) : Nat) : Int))) && (decide (((List.length ((((Go.Inc.findX (List.getD p3 (Int.toNat (0 : Int)) ((0 : Int), ((0 : Int), (ByteArray.empty, ())))) p0.2.2.2.1).2).2).1)) * 32) ≤ 140737488351232)))))) then
              bif decide (((List.length ((((Go.Inc.findX (List.getD p3 (Int.toNat (0 : Int)) ((0 : Int), ((0 : Int), (ByteArray.empty, ())))) p0.2.2.2.1).2).2).1)) - ((Int.toNat (Go.IntKind.wrap .i64 (((Go.Inc.findX (List.getD p3 (Int.toNat (0 : Int)) ((0 : Int), ((0 : Int), (ByteArray.empty, ())))) p0.2.2.2.1).1) + (2 : Int)))) - (Int.toNat ((Go.Inc.findX (List.getD p3 (Int.toNat (0 : Int)) ((0 : Int), ((0 : Int), (ByteArray.empty, ())))) p0.2.2.2.1).1)))) = (List.length ((List.take (Int.toNat ((Go.Inc.findX (List.getD p3 (Int.toNat (0 : Int)) ((0 : Int), ((0 : Int), (ByteArray.empty, ())))) p0.2.2.2.1).1)) ((((Go.Inc.findX (List.getD p3 (Int.toNat (0 : Int)) ((0 : Int), ((0 : Int), (ByteArray.empty, ())))) p0.2.2.2.1).2).2).1)) ++ (List.drop (Int.toNat (Go.IntKind.wrap .i64 (((Go.Inc.findX (List.getD p3 (Int.toNat (0 : Int)) ((0 : Int), ((0 : Int), (ByteArray.empty, ())))) p0.2.2.2.1).1) + (2 : Int)))) ((((Go.Inc.findX (List.getD p3 (Int.toNat (0 : Int)) ((0 : Int), ((0 : Int), (ByteArray.empty, ())))) p0.2.2.2.1).2).2).1))))) then
              some ((p0.1, (p0.2.1, (p0.2.2.1, (((List.take (Int.toNat ((Go.Inc.findX (List.getD p3 (Int.toNat (0 : Int)) ((0 : Int), ((0 : Int), (ByteArray.empty, ())))) p0.2.2.2.1).1)) ((((Go.Inc.findX (List.getD p3 (Int.toNat (0 : Int)) ((0 : Int), ((0 : Int), (ByteArray.empty, ())))) p0.2.2.2.1).2).2).1)) ++ (List.drop (Int.toNat (Go.IntKind.wrap .i64 (((Go.Inc.findX (List.getD p3 (Int.toNat (0 : Int)) ((0 : Int), ((0 : Int), (ByteArray.empty, ())))) p0.2.2.2.1).1) + (2 : Int)))) ((((Go.Inc.findX (List.getD p3 (Int.toNat (0 : Int)) ((0 : Int), ((0 : Int), (ByteArray.empty, ())))) p0.2.2.2.1).2).2).1))), ())))), (([] : List (Int × (Int × (ByteArray × Unit)))), (true, ())))
            else
              none
            else
              none
            else
              bif decide ((List.length p0.2.2.2.1) = (List.length ((((Go.Inc.findX (List.getD p3 (Int.toNat (0 : Int)) ((0 : Int), ((0 : Int), (ByteArray.empty, ())))) p0.2.2.2.1).2).2).1))) then
              some ((p0.1, (p0.2.1, (p0.2.2.1, ((Go.Inc.findX (List.getD p3 (Int.toNat (0 : Int)) ((0 : Int), ((0 : Int), (ByteArray.empty, ())))) p0.2.2.2.1).2).2))), (([] : List (Int × (Int × (ByteArray × Unit)))), (true, ())))
            else
              none
            else
              none
            else
              none
            else
              none
        else
          none
    else
      none
theorem loops12 (N : Nat) : loopsOk C12 (L12 N) Go.Proofs.Tryd.f12 := ⟨trivial, ⟨trivial, ⟨⟨trivial, ⟨⟨trivial, trivial⟩, trivial⟩⟩, ⟨trivial, ⟨trivial, ⟨⟨trivial, ⟨⟨trivial, trivial⟩, ⟨trivial, ⟨⟨trivial, trivial⟩, ⟨trivial, ⟨⟨trivial, trivial⟩, ⟨trivial, ⟨trivial, ⟨trivial, ⟨trivial, ⟨trivial, ⟨trivial, trivial⟩⟩⟩⟩⟩⟩⟩⟩⟩⟩⟩⟩, ⟨trivial, trivial⟩⟩⟩⟩⟩⟩⟩
theorem runs12 (N : Nat) (x : S12.ta.den) : run C12 S12 (L12 N) Go.Proofs.Tryd.f12 x = F12 N x.1 x.2.1 x.2.2.1 x.2.2.2.1 := by kernel_rfl

/-! ### 14: incognito/incognitoref07.Same -/
def W14_4 {β : Type} (N : Nat) (x0 : Bool → Option β) (x1 : Unit → Option β) : Nat → (List (Int × Int × ByteArray × Unit)) → (List (Int × Int × ByteArray × Unit)) → Int → Option β
  | 0, _, _, _ => none
  | n + 1, t0, t1, t5 =>
  bif decide (t5 < (((List.length t0) : Nat) : Int)) then
    bif ((decide ((0 : Int) ≤ t5)) && (decide (t5 < (((List.length t0) : Nat) : Int)))) then
      bif ((decide ((0 : Int) ≤ t5)) && (decide (t5 < (((List.length t1) : Nat) : Int)))) then
        bif (!((((List.getD t0 (Int.toNat t5) ((0 : Int), ((0 : Int), (ByteArray.empty, ())))).1) == ((List.getD t1 (Int.toNat t5) ((0 : Int), ((0 : Int), (ByteArray.empty, ())))).1)) && (((((List.getD t0 (Int.toNat t5) ((0 : Int), ((0 : Int), (ByteArray.empty, ())))).2).1) == (((List.getD t1 (Int.toNat t5) ((0 : Int), ((0 : Int), (ByteArray.empty, ())))).2).1)) && ((((((List.getD t0 (Int.toNat t5) ((0 : Int), ((0 : Int), (ByteArray.empty, ())))).2).2).1) == ((((List.getD t1 (Int.toNat t5) ((0 : Int), ((0 : Int), (ByteArray.empty, ())))).2).2).1)) && true)))) then
          x0 false
        else
          W14_4 N x0 x1 n t0 t1 (Go.IntKind.wrap .i64 (t5 + (1 : Int)))
      else
        none
    else
      none
  else
    x1 ()
def L14 (N : Nat) : Loops (Bool × Unit) := fun k ρ K => match Nat.beq k 4 with
  | true => (match adH ρ H14_4.hd with
    | some v => W14_4 N (fun t4 => K .ret (encH [(8, .bo)] (t4, ()))) (fun _ => K (.exit 0) (encH [] ())) N v.1 v.2.1 v.2.2.1
    | none => none)
  | false => none
def F14 (N : Nat) (p0 : List (Int × Int × ByteArray × Unit)) (p1 : List (Int × Int × ByteArray × Unit)) : Option (Bool × Unit) :=
  bif ((((List.length p0) : Nat) : Int) != (((List.length p1) : Nat) : Int)) then
    some (false, ())
  else
    W14_4 N
      (fun t4 =>
        some (t4, ()))
      (fun (_ : Unit) =>
        some (true, ()))
      N p0 p1 (0 : Int)
theorem loops14 (N : Nat) : loopsOk C14 (L14 N) Go.Proofs.Tryd.f14 := ⟨trivial, ⟨⟨trivial, ⟨⟨trivial, trivial⟩, trivial⟩⟩, ⟨⟨trivial, ⟨loopOk_of H14_4 N (fun K n v => W14_4 N (fun t4 => K .ret (encH [(8, .bo)] (t4, ()))) (fun _ => K (.exit 0) (encH [] ())) n v.1 v.2.1 v.2.2.1) (by kernel_rfl) (fun K v => by kernel_rfl) (fun K v => by kernel_rfl) (fun K n v => by kernel_rfl), ⟨⟨trivial, ⟨trivial, trivial⟩⟩, ⟨⟨trivial, ⟨⟨trivial, trivial⟩, trivial⟩⟩, trivial⟩⟩⟩⟩, ⟨trivial, trivial⟩⟩⟩⟩
theorem runs14 (N : Nat) (x : S14.ta.den) : run C14 S14 (L14 N) Go.Proofs.Tryd.f14 x = F14 N x.1 x.2.1 := by kernel_rfl

/-! ### 18: incognito/incognitolaw17.num -/
def L18 (_ : Nat) : Loops ((Int × Int × ByteArray × Unit) × Unit) := fun _ _ _ => none
def F18 (N : Nat) (p0 : Int) : Option ((Int × Int × ByteArray × Unit) × Unit) :=
  some (((1 : Int), (p0, (ByteArray.empty, ()))), ())
theorem loops18 (N : Nat) : loopsOk C18 (L18 N) Go.Proofs.Tryd.f18 := ⟨trivial, ⟨trivial, trivial⟩⟩
theorem runs18 (N : Nat) (x : S18.ta.den) : run C18 S18 (L18 N) Go.Proofs.Tryd.f18 x = F18 N x.1 := by kernel_rfl

/-! ### 20: incognito/incognitoref17.has -/
def W20_2 {β : Type} (N : Nat) (x0 : Int → Int → ByteArray → Option β) (x1 : Int → Int → ByteArray → Option β) : Nat → (List ((Int × Int × ByteArray × Unit) × Int × (List (Int × Int × ByteArray × Unit)) × Unit)) → Int → Int → ByteArray → Int → Int → ByteArray → Int → Option β
  | 0, _, _, _, _, _, _, _, _ => none
  | n + 1, t0, b3a, b3ba, b3bba, b4a, b4ba, b4bba, t5 =>
  bif decide (t5 ≥ (0 : Int)) then
    bif ((decide ((0 : Int) ≤ t5)) && (decide (t5 < (((List.length t0) : Nat) : Int)))) then
      bif ((((List.getD t0 (Int.toNat t5) (((0 : Int), ((0 : Int), (ByteArray.empty, ()))), ((0 : Int), ([], ())))).2).1) == (7 : Int)) then
        bif ((decide ((0 : Int) ≤ (0 : Int))) && (decide ((0 : Int) < (((List.length ((((List.getD t0 (Int.toNat t5) (((0 : Int), ((0 : Int), (ByteArray.empty, ()))), ((0 : Int), ([], ())))).2).2).1)) : Nat) : Int)))) then
          bif ((((List.getD ((((List.getD t0 (Int.toNat t5) (((0 : Int), ((0 : Int), (ByteArray.empty, ()))), ((0 : Int), ([], ())))).2).2).1) (Int.toNat (0 : Int)) ((0 : Int), ((0 : Int), (ByteArray.empty, ())))).1) == b3a) && (((((List.getD ((((List.getD t0 (Int.toNat t5) (((0 : Int), ((0 : Int), (ByteArray.empty, ()))), ((0 : Int), ([], ())))).2).2).1) (Int.toNat (0 : Int)) ((0 : Int), ((0 : Int), (ByteArray.empty, ())))).2).1) == b3ba) && ((((((List.getD ((((List.getD t0 (Int.toNat t5) (((0 : Int), ((0 : Int), (ByteArray.empty, ()))), ((0 : Int), ([], ())))).2).2).1) (Int.toNat (0 : Int)) ((0 : Int), ((0 : Int), (ByteArray.empty, ())))).2).2).1) == b3bba) && true))) then
            bif ((((List.getD t0 (Int.toNat t5) (((0 : Int), ((0 : Int), (ByteArray.empty, ()))), ((0 : Int), ([], ())))).2).1) == (7 : Int)) then
              bif ((decide ((0 : Int) ≤ (1 : Int))) && (decide ((1 : Int) < (((List.length ((((List.getD t0 (Int.toNat t5) (((0 : Int), ((0 : Int), (ByteArray.empty, ()))), ((0 : Int), ([], ())))).2).2).1)) : Nat) : Int)))) then
              x0 ((List.getD ((((List.getD t0 (Int.toNat t5) (((0 : Int), ((0 : Int), (ByteArray.empty, ()))), ((0 : Int), ([], ())))).2).2).1) (Int.toNat (1 : Int)) ((0 : Int), ((0 : Int), (ByteArray.empty, ())))).1) (((List.getD ((((List.getD t0 (Int.toNat t5) (((0 : Int), ((0 : Int), (ByteArray.empty, ()))), ((0 : Int), ([], ())))).2).2).1) (Int.toNat (1 : Int)) ((0 : Int), ((0 : Int), (ByteArray.empty, ())))).2).1) ((((List.getD ((((List.getD t0 (Int.toNat t5) (((0 : Int), ((0 : Int), (ByteArray.empty, ()))), ((0 : Int), ([], ())))).2).2).1) (Int.toNat (1 : Int)) ((0 : Int), ((0 : Int), (ByteArray.empty, ())))).2).2).1)
            else
              none
            else
              x0 (0 : Int) (0 : Int) ByteArray.empty
          else
            W20_2 N x0 x1 n t0 b3a b3ba b3bba b4a b4ba b4bba (Go.IntKind.wrap .i64 (t5 - (1 : Int)))
        else
          none
      else
        bif ((((List.getD t0 (Int.toNat t5) (((0 : Int), ((0 : Int), (ByteArray.empty, ()))), ((0 : Int), ([], ())))).2).1) == (5 : Int)) then
          bif ((decide ((0 : Int) ≤ (0 : Int))) && (decide ((0 : Int) < (((List.length ((((List.getD t0 (Int.toNat t5) (((0 : Int), ((0 : Int), (ByteArray.empty, ()))), ((0 : Int), ([], ())))).2).2).1)) : Nat) : Int)))) then
            bif ((((List.getD ((((List.getD t0 (Int.toNat t5) (((0 : Int), ((0 : Int), (ByteArray.empty, ()))), ((0 : Int), ([], ())))).2).2).1) (Int.toNat (0 : Int)) ((0 : Int), ((0 : Int), (ByteArray.empty, ())))).1) == b3a) && (((((List.getD ((((List.getD t0 (Int.toNat t5) (((0 : Int), ((0 : Int), (ByteArray.empty, ()))), ((0 : Int), ([], ())))).2).2).1) (Int.toNat (0 : Int)) ((0 : Int), ((0 : Int), (ByteArray.empty, ())))).2).1) == b3ba) && ((((((List.getD ((((List.getD t0 (Int.toNat t5) (((0 : Int), ((0 : Int), (ByteArray.empty, ()))), ((0 : Int), ([], ())))).2).2).1) (Int.toNat (0 : Int)) ((0 : Int), ((0 : Int), (ByteArray.empty, ())))).2).2).1) == b3bba) && true))) then
              bif ((((List.getD t0 (Int.toNat t5) (((0 : Int), ((0 : Int), (ByteArray.empty, ()))), ((0 : Int), ([], ())))).2).1) == (7 : Int)) then
              bif ((decide ((0 : Int) ≤ (1 : Int))) && (decide ((1 : Int) < (((List.length ((((List.getD t0 (Int.toNat t5) (((0 : Int), ((0 : Int), (ByteArray.empty, ()))), ((0 : Int), ([], ())))).2).2).1)) : Nat) : Int)))) then
              x0 ((List.getD ((((List.getD t0 (Int.toNat t5) (((0 : Int), ((0 : Int), (ByteArray.empty, ()))), ((0 : Int), ([], ())))).2).2).1) (Int.toNat (1 : Int)) ((0 : Int), ((0 : Int), (ByteArray.empty, ())))).1) (((List.getD ((((List.getD t0 (Int.toNat t5) (((0 : Int), ((0 : Int), (ByteArray.empty, ()))), ((0 : Int), ([], ())))).2).2).1) (Int.toNat (1 : Int)) ((0 : Int), ((0 : Int), (ByteArray.empty, ())))).2).1) ((((List.getD ((((List.getD t0 (Int.toNat t5) (((0 : Int), ((0 : Int), (ByteArray.empty, ()))), ((0 : Int), ([], ())))).2).2).1) (Int.toNat (1 : Int)) ((0 : Int), ((0 : Int), (ByteArray.empty, ())))).2).2).1)
            else
              none
            else
              x0 (0 : Int) (0 : Int) ByteArray.empty
            else
              W20_2 N x0 x1 n t0 b3a b3ba b3bba b4a b4ba b4bba (Go.IntKind.wrap .i64 (t5 - (1 : Int)))
          else
            none
        else
          W20_2 N x0 x1 n t0 b3a b3ba b3bba b4a b4ba b4bba (Go.IntKind.wrap .i64 (t5 - (1 : Int)))
    else
      none
  else
    x1 b4a b4ba b4bba
def L20 (N : Nat) : Loops ((Int × Int × ByteArray × Unit) × Unit) := fun k ρ K => match Nat.beq k 2 with
  | true => (match adH ρ H20_2.hd with
    | some v => W20_2 N (fun b4a b4ba b4bba => K .ret (encH [(8, (.bx 4 0)), (9, (.pr (.i .i64) (.pr (.i .i64) (.pr .st .un))))] ((), ((b4a, (b4ba, (b4bba, ()))), ())))) (fun b4a b4ba b4bba => K (.exit 0) (encH [(8, (.bx 4 0)), (9, (.pr (.i .i64) (.pr (.i .i64) (.pr .st .un))))] ((), ((b4a, (b4ba, (b4bba, ()))), ())))) N v.1 v.2.2.1.1 v.2.2.1.2.1 v.2.2.1.2.2.1 v.2.2.2.2.1.1 v.2.2.2.2.1.2.1 v.2.2.2.2.1.2.2.1 v.2.2.2.2.2.1
    | none => none)
  | false => none
def F20 (N : Nat) (p0 : List ((Int × Int × ByteArray × Unit) × Int × (List (Int × Int × ByteArray × Unit)) × Unit)) (p1 : Int × Int × ByteArray × Unit) : Option ((Int × Int × ByteArray × Unit) × Unit) :=
  W20_2 N
    (fun b4a b4ba b4bba =>
      some ((b4a, (b4ba, (b4bba, ()))), ()))
    (fun b4a b4ba b4bba =>
      some (((0 : Int), ((0 : Int), (ByteArray.empty, ()))), ()))
    N p0 p1.1 p1.2.1 p1.2.2.1 (0 : Int) (0 : Int) ByteArray.empty (Go.IntKind.wrap .i64 ((((List.length p0) : Nat) : Int) - (1 : Int)))
theorem loops20 (N : Nat) : loopsOk C20 (L20 N) Go.Proofs.Tryd.f20 := ⟨trivial, ⟨⟨trivial, ⟨loopOk_of H20_2 N (fun K n v => W20_2 N (fun b4a b4ba b4bba => K .ret (encH [(8, (.bx 4 0)), (9, (.pr (.i .i64) (.pr (.i .i64) (.pr .st .un))))] ((), ((b4a, (b4ba, (b4bba, ()))), ())))) (fun b4a b4ba b4bba => K (.exit 0) (encH [(8, (.bx 4 0)), (9, (.pr (.i .i64) (.pr (.i .i64) (.pr .st .un))))] ((), ((b4a, (b4ba, (b4bba, ()))), ())))) n v.1 v.2.2.1.1 v.2.2.1.2.1 v.2.2.1.2.2.1 v.2.2.2.2.1.1 v.2.2.2.2.1.2.1 v.2.2.2.2.1.2.2.1 v.2.2.2.2.2.1) (by kernel_rfl) (fun K v => by kernel_rfl) (fun K v => by kernel_rfl) (fun K n v => by kernel_rfl), ⟨⟨trivial, ⟨trivial, trivial⟩⟩, ⟨⟨trivial, ⟨trivial, ⟨⟨⟨trivial, ⟨⟨trivial, trivial⟩, trivial⟩⟩, ⟨trivial, trivial⟩⟩, trivial⟩⟩⟩, trivial⟩⟩⟩⟩, ⟨trivial, trivial⟩⟩⟩
theorem runs20 (N : Nat) (x : S20.ta.den) : run C20 S20 (L20 N) Go.Proofs.Tryd.f20 x = F20 N x.1 x.2.1 := by kernel_rfl

/-! ### 17: incognito/incognitoref07.Less -/
def L17 (_ : Nat) : Loops (Bool × Unit) := fun _ _ _ => none
def F17 (N : Nat) (p0 : Int × Int × ByteArray × Unit) (p1 : Int × Int × ByteArray × Unit) : Option (Bool × Unit) :=
  bif (p0.1 != p1.1) then
    some (decide (p0.1 < p1.1), ())
  else
    bif (p0.2.1 != p1.2.1) then
      some (decide (p0.2.1 < p1.2.1), ())
    else
      some ((Go.Op.bytesLess (ByteArray.toList p0.2.2.1) (ByteArray.toList p1.2.2.1)), ())
theorem loops17 (N : Nat) : loopsOk C17 (L17 N) Go.Proofs.Tryd.f17 := ⟨trivial, ⟨⟨trivial, ⟨⟨trivial, trivial⟩, trivial⟩⟩, ⟨⟨trivial, ⟨⟨trivial, trivial⟩, trivial⟩⟩, ⟨trivial, trivial⟩⟩⟩⟩
theorem runs17 (N : Nat) (x : S17.ta.den) : run C17 S17 (L17 N) Go.Proofs.Tryd.f17 x = F17 N x.1 x.2.1 := by kernel_rfl

/-! ### 11: incognito/incognitoref17.State -/
def W11_4 {β : Type} (N : Nat) (x1 : Int → Int → Int → ByteArray → Int → (List (Int × Int × ByteArray × Unit)) → Int → Int → Int → ByteArray → Int → (List (Int × Int × ByteArray × Unit)) → Option β) : Nat → (List ((Int × Int × ByteArray × Unit) × Int × (List (Int × Int × ByteArray × Unit)) × Unit)) → Int → Int → Int → ByteArray → Int → (List (Int × Int × ByteArray × Unit)) → Int → Int → Int → ByteArray → Int → (List (Int × Int × ByteArray × Unit)) → (List (Int × Int × ByteArray × Unit)) → Int → Option β
  | 0, _, _, _, _, _, _, _, _, _, _, _, _, _, _, _ => none
  | n + 1, t1, b4a, b4ba, b4bba, b4bbba, b4bbbba, b4bbbbba, b5a, b5ba, b5bba, b5bbba, b5bbbba, b5bbbbba, t6, t7 =>
  bif decide (t7 < (((List.length t6) : Nat) : Int)) then
    bif ((decide ((0 : Int) ≤ t7)) && (decide (t7 < (((List.length t6) : Nat) : Int)))) then
      bif ((decide ((0 : Int) ≤ t7)) && (decide (t7 < (((List.length t6) : Nat) : Int)))) then
        bif (Go.Inc.okDPast t1 (List.getD t6 (Int.toNat t7) ((0 : Int), ((0 : Int), (ByteArray.empty, ()))))) then
          bif decide ((((List.length b5bbbbba) + (List.length ((List.getD t6 (Int.toNat t7) ((0 : Int), ((0 : Int), (ByteArray.empty, ())))) :: ((Go.Inc.dictHas t1 (List.getD t6 (Int.toNat t7) ((0 : Int), ((0 : Int), (ByteArray.empty, ()))))) :: ([] : List (Int × (Int × (ByteArray × Unit)))))))) * 32) ≤ 140737488351232) then
            W11_4 N x1 n t1 b4a b4ba b4bba b4bbba b4bbbba b4bbbbba b5a b5ba b5bba b5bbba b5bbbba (b5bbbbba ++ ((List.getD t6 (Int.toNat t7) ((0 : Int), ((0 : Int), (ByteArray.empty, ())))) :: ((Go.Inc.dictHas t1 (List.getD t6 (Int.toNat t7) ((0 : Int), ((0 : Int), (ByteArray.empty, ()))))) :: ([] : List (Int × (Int × (ByteArray × Unit))))))) t6 (Go.IntKind.wrap .i64 (t7 + (1 : Int)))
          else
            none
        else
          none
      else
        none
    else
      none
  else
    x1 b4a b4ba b4bba b4bbba b4bbbba b4bbbbba b5a b5ba b5bba b5bbba b5bbbba b5bbbbba
def L11 (N : Nat) : Loops ((Int × (Int × Int × ByteArray × Unit) × Int × (List (Int × Int × ByteArray × Unit)) × Unit) × Unit) := fun k ρ K => match Nat.beq k 4 with
  | true => (match adH ρ H11_4.hd with
    | some v => W11_4 N (fun b4a b4ba b4bba b4bbba b4bbbba b4bbbbba b5a b5ba b5bba b5bbba b5bbbba b5bbbbba => K (.exit 0) (encH [(8, (.bx 4 0)), (9, (.pr (.i .i64) (.pr (.i .i64) (.pr (.i .i64) (.pr .st (.pr (.i .i64) (.pr (.sl (.pr (.int .i64) (.pr (.int .i64) (.pr .str .un))) .full) .un))))))), (10, (.bx 5 0)), (11, (.pr (.i .i64) (.pr (.i .i64) (.pr (.i .i64) (.pr .st (.pr (.i .i64) (.pr (.sl (.pr (.int .i64) (.pr (.int .i64) (.pr .str .un))) (.own 31)) .un)))))))] ((), ((b4a, (b4ba, (b4bba, (b4bbba, (b4bbbba, (b4bbbbba, ())))))), ((), ((b5a, (b5ba, (b5bba, (b5bbba, (b5bbbba, (b5bbbbba, ())))))), ())))))) N v.1 v.2.2.1.1 v.2.2.1.2.1 v.2.2.1.2.2.1 v.2.2.1.2.2.2.1 v.2.2.1.2.2.2.2.1 v.2.2.1.2.2.2.2.2.1 v.2.2.2.2.1.1 v.2.2.2.2.1.2.1 v.2.2.2.2.1.2.2.1 v.2.2.2.2.1.2.2.2.1 v.2.2.2.2.1.2.2.2.2.1 v.2.2.2.2.1.2.2.2.2.2.1 v.2.2.2.2.2.1 v.2.2.2.2.2.2.1
    | none => none)
  | false => none
def F11 (N : Nat) (p0 : Int) (p1 : List ((Int × Int × ByteArray × Unit) × Int × (List (Int × Int × ByteArray × Unit)) × Unit)) : Option ((Int × (Int × Int × ByteArray × Unit) × Int × (List (Int × Int × ByteArray × Unit)) × Unit) × Unit) :=
  bif (Go.Inc.okDPastK p1) then
    W11_4 N
      (fun b4a b4ba b4bba b4bbba b4bbbba b4bbbbba b5a b5ba b5bba b5bbba b5bbbba b5bbbbba =>
        some ((b5a, ((b5ba, (b5bba, (b5bbba, ()))), (b5bbbba, (b5bbbbba, ())))), ()))
      N p1 (0 : Int) (0 : Int) (0 : Int) ByteArray.empty (0 : Int) ([] : List (Int × (Int × (ByteArray × Unit)))) p0 (0 : Int) (0 : Int) ByteArray.empty (0 : Int) ([] : List (Int × (Int × (ByteArray × Unit)))) (Go.Inc.dictKeys p1) (0 : Int)
  else
    none
theorem loops11 (N : Nat) : loopsOk C11 (L11 N) Go.Proofs.Tryd.f11 := ⟨trivial, ⟨trivial, ⟨trivial, ⟨⟨trivial, ⟨loopOk_of H11_4 N (fun K n v => W11_4 N (fun b4a b4ba b4bba b4bbba b4bbbba b4bbbbba b5a b5ba b5bba b5bbba b5bbbba b5bbbbba => K (.exit 0) (encH [(8, (.bx 4 0)), (9, (.pr (.i .i64) (.pr (.i .i64) (.pr (.i .i64) (.pr .st (.pr (.i .i64) (.pr (.sl (.pr (.int .i64) (.pr (.int .i64) (.pr .str .un))) .full) .un))))))), (10, (.bx 5 0)), (11, (.pr (.i .i64) (.pr (.i .i64) (.pr (.i .i64) (.pr .st (.pr (.i .i64) (.pr (.sl (.pr (.int .i64) (.pr (.int .i64) (.pr .str .un))) (.own 31)) .un)))))))] ((), ((b4a, (b4ba, (b4bba, (b4bbba, (b4bbbba, (b4bbbbba, ())))))), ((), ((b5a, (b5ba, (b5bba, (b5bbba, (b5bbbba, (b5bbbbba, ())))))), ())))))) n v.1 v.2.2.1.1 v.2.2.1.2.1 v.2.2.1.2.2.1 v.2.2.1.2.2.2.1 v.2.2.1.2.2.2.2.1 v.2.2.1.2.2.2.2.2.1 v.2.2.2.2.1.1 v.2.2.2.2.1.2.1 v.2.2.2.2.1.2.2.1 v.2.2.2.2.1.2.2.2.1 v.2.2.2.2.1.2.2.2.2.1 v.2.2.2.2.1.2.2.2.2.2.1 v.2.2.2.2.2.1 v.2.2.2.2.2.2.1) (by kernel_rfl) (fun K v => by kernel_rfl) (fun K v => by kernel_rfl) (fun K n v => by kernel_rfl), ⟨⟨trivial, ⟨trivial, trivial⟩⟩, ⟨trivial, trivial⟩⟩⟩⟩, ⟨trivial, trivial⟩⟩⟩⟩⟩
theorem runs11 (N : Nat) (x : S11.ta.den) : run C11 S11 (L11 N) Go.Proofs.Tryd.f11 x = F11 N x.1 x.2.1 := by kernel_rfl

/-! ### 51: incognito/incognitoref07.letter -/
def W51_2 {β : Type} (N : Nat) (x0 : Bool → Option β) (x1 : Int → Bool → Option β) : Nat → Int → Bool → Int → Option β
  | 0, _, _, _ => none
  | n + 1, t0, t1, t5 =>
  bif decide (t5 ≤ (122 : Int)) then
    bif (t0 == t5) then
      x0 true
    else
      W51_2 N x0 x1 n t0 t1 (Go.IntKind.wrap .u8 (t5 + (1 : Int)))
  else
    x1 t0 t1
def L51 (N : Nat) : Loops (Bool × Unit) := fun k ρ K => match Nat.beq k 2 with
  | true => (match adH ρ H51_2.hd with
    | some v => W51_2 N (fun t4 => K .ret (encH [(8, .bo)] (t4, ()))) (fun t0 t1 => K (.exit 0) (encH [(0, (.i .u8)), (2, .bo)] (t0, (t1, ())))) N v.1 v.2.1 v.2.2.1
    | none => none)
  | false => none
def F51 (N : Nat) (p0 : Int) (p1 : Bool) : Option (Bool × Unit) :=
  W51_2 N
    (fun t4 =>
      some (t4, ()))
    (fun t0 t1 =>
      bif (!t1) then
        bif (t0 == (95 : Int)) then
          some (true, ())
        else
          bif decide (t0 ≥ (48 : Int)) then
            some (decide (t0 ≤ (57 : Int)), ())
          else
            some (false, ())
      else
        some (false, ()))
    N p0 p1 (97 : Int)
theorem loops51 (N : Nat) : loopsOk C51 (L51 N) Go.Proofs.Tryd.f51 := ⟨trivial, ⟨⟨trivial, ⟨loopOk_of H51_2 N (fun K n v => W51_2 N (fun t4 => K .ret (encH [(8, .bo)] (t4, ()))) (fun t0 t1 => K (.exit 0) (encH [(0, (.i .u8)), (2, .bo)] (t0, (t1, ())))) n v.1 v.2.1 v.2.2.1) (by kernel_rfl) (fun K v => by kernel_rfl) (fun K v => by kernel_rfl) (fun K n v => by kernel_rfl), ⟨⟨trivial, ⟨trivial, trivial⟩⟩, ⟨⟨trivial, ⟨⟨trivial, trivial⟩, trivial⟩⟩, trivial⟩⟩⟩⟩, ⟨trivial, trivial⟩⟩⟩
theorem runs51 (N : Nat) (x : S51.ta.den) : run C51 S51 (L51 N) Go.Proofs.Tryd.f51 x = F51 N x.1 x.2.1 := by kernel_rfl

/-! ### 29: incognito/incognitoref07.Right -/
def L29 (_ : Nat) : Loops (Bool × Unit) := fun _ _ _ => none
def F29 (N : Nat) (p0 : Int × Int × ByteArray × Unit) : Option (Bool × Unit) :=
  bif (p0.1 == (0 : Int)) then
    bif (p0.2.1 == (0 : Int)) then
      some (((ByteArray.toList p0.2.2.1) == (ByteArray.toList (strL []))), ())
    else
      some (false, ())
  else
    bif (p0.1 == (1 : Int)) then
      some (((ByteArray.toList p0.2.2.1) == (ByteArray.toList (strL []))), ())
    else
      bif (p0.1 == (2 : Int)) then
        bif (p0.2.1 == (0 : Int)) then
          bif (Go.Inc.okS p0.2.2.1) then
            some ((Go.Inc.isWord p0.2.2.1), ())
          else
            none
        else
          some (false, ())
      else
        bif (p0.1 == (3 : Int)) then
          bif (p0.2.1 == (0 : Int)) then
            some (((ByteArray.toList p0.2.2.1) == (ByteArray.toList (strL []))), ())
          else
            bif (p0.2.1 == (1 : Int)) then
              some (((ByteArray.toList p0.2.2.1) == (ByteArray.toList (strL []))), ())
            else
              some (false, ())
        else
          some (false, ())
theorem loops29 (N : Nat) : loopsOk C29 (L29 N) Go.Proofs.Tryd.f29 := ⟨trivial, ⟨⟨trivial, ⟨trivial, ⟨⟨trivial, trivial⟩, ⟨trivial, ⟨⟨trivial, trivial⟩, ⟨trivial, ⟨⟨trivial, trivial⟩, ⟨trivial, ⟨⟨trivial, trivial⟩, trivial⟩⟩⟩⟩⟩⟩⟩⟩⟩, ⟨trivial, trivial⟩⟩⟩
theorem runs29 (N : Nat) (x : S29.ta.den) : run C29 S29 (L29 N) Go.Proofs.Tryd.f29 x = F29 N x.1 := by kernel_rfl

/-! ### 50: incognito/incognitoref09.OpName -/
def L50 (_ : Nat) : Loops (ByteArray × Unit) := fun _ _ _ => none
def F50 (N : Nat) (p0 : Int) : Option (ByteArray × Unit) :=
  bif (p0 == (1 : Int)) then
    some ((strL [119, 114, 105, 116, 101]), ())
  else
    bif (p0 == (2 : Int)) then
      some ((strL [114, 101, 97, 100]), ())
    else
      bif (p0 == (3 : Int)) then
        some ((strL [115, 119, 97, 112]), ())
      else
        bif (p0 == (4 : Int)) then
          some ((strL [97, 100, 100]), ())
        else
          bif (p0 == (5 : Int)) then
            some ((strL [100, 101, 108]), ())
          else
            bif (p0 == (6 : Int)) then
              some ((strL [104, 97, 115]), ())
            else
              bif (p0 == (7 : Int)) then
              some ((strL [112, 117, 116]), ())
            else
              bif (p0 == (8 : Int)) then
              some ((strL [103, 101, 116]), ())
            else
              bif (p0 == (9 : Int)) then
              some ((strL [112, 117, 115, 104]), ())
            else
              bif (p0 == (10 : Int)) then
              some ((strL [112, 111, 112]), ())
            else
              bif (p0 == (11 : Int)) then
              some ((strL [116, 97, 107, 101]), ())
            else
              bif (p0 == (12 : Int)) then
              some ((strL [102, 114, 101, 101]), ())
            else
              bif (p0 == (13 : Int)) then
              some ((strL [115, 99, 97, 110]), ())
            else
              some ((strL []), ())
theorem loops50 (N : Nat) : loopsOk C50 (L50 N) Go.Proofs.Tryd.f50 := ⟨trivial, ⟨⟨trivial, ⟨trivial, ⟨⟨trivial, trivial⟩, ⟨trivial, ⟨⟨trivial, trivial⟩, ⟨trivial, ⟨⟨trivial, trivial⟩, ⟨trivial, ⟨⟨trivial, trivial⟩, ⟨trivial, ⟨⟨trivial, trivial⟩, ⟨trivial, ⟨⟨trivial, trivial⟩, ⟨trivial, ⟨⟨trivial, trivial⟩, ⟨trivial, ⟨⟨trivial, trivial⟩, ⟨trivial, ⟨⟨trivial, trivial⟩, ⟨trivial, ⟨⟨trivial, trivial⟩, ⟨trivial, ⟨⟨trivial, trivial⟩, ⟨trivial, ⟨⟨trivial, trivial⟩, ⟨trivial, ⟨⟨trivial, trivial⟩, trivial⟩⟩⟩⟩⟩⟩⟩⟩⟩⟩⟩⟩⟩⟩⟩⟩⟩⟩⟩⟩⟩⟩⟩⟩⟩⟩⟩, ⟨trivial, trivial⟩⟩⟩
theorem runs50 (N : Nat) (x : S50.ta.den) : run C50 S50 (L50 N) Go.Proofs.Tryd.f50 x = F50 N x.1 := by kernel_rfl

/-! ### 38: incognito/incognitoref09.Takes -/
def L38 (_ : Nat) : Loops (Bool × Unit) := fun _ _ _ => none
def F38 (N : Nat) (p0 : Int) (p1 : Int × Int × ByteArray × Unit) : Option (Bool × Unit) :=
  bif decide (p0 ≥ (0 : Int)) then
    bif decide (p0 ≤ (4 : Int)) then
      bif (Go.Inc.okV p1) then
        some ((Go.Inc.name p1), ())
      else
        none
    else
      bif (p0 == (5 : Int)) then
        bif (Go.Inc.okV p1) then
          bif (Go.Inc.right p1) then
            bif (p1.1 == (1 : Int)) then
              some (true, ())
            else
              bif (p0 == (6 : Int)) then
              bif (Go.Inc.okV p1) then
              bif (Go.Inc.right p1) then
              some ((p1.1 == (3 : Int)), ())
            else
              some (false, ())
            else
              none
            else
              some (false, ())
          else
            bif (p0 == (6 : Int)) then
              bif (Go.Inc.okV p1) then
              bif (Go.Inc.right p1) then
              some ((p1.1 == (3 : Int)), ())
            else
              some (false, ())
            else
              none
            else
              some (false, ())
        else
          none
      else
        bif (p0 == (6 : Int)) then
          bif (Go.Inc.okV p1) then
            bif (Go.Inc.right p1) then
              some ((p1.1 == (3 : Int)), ())
            else
              some (false, ())
          else
            none
        else
          some (false, ())
  else
    bif (p0 == (5 : Int)) then
      bif (Go.Inc.okV p1) then
        bif (Go.Inc.right p1) then
          bif (p1.1 == (1 : Int)) then
            some (true, ())
          else
            bif (p0 == (6 : Int)) then
              bif (Go.Inc.okV p1) then
              bif (Go.Inc.right p1) then
              some ((p1.1 == (3 : Int)), ())
            else
              some (false, ())
            else
              none
            else
              some (false, ())
        else
          bif (p0 == (6 : Int)) then
            bif (Go.Inc.okV p1) then
              bif (Go.Inc.right p1) then
              some ((p1.1 == (3 : Int)), ())
            else
              some (false, ())
            else
              none
          else
            some (false, ())
      else
        none
    else
      bif (p0 == (6 : Int)) then
        bif (Go.Inc.okV p1) then
          bif (Go.Inc.right p1) then
            some ((p1.1 == (3 : Int)), ())
          else
            some (false, ())
        else
          none
      else
        some (false, ())
theorem loops38 (N : Nat) : loopsOk C38 (L38 N) Go.Proofs.Tryd.f38 := ⟨trivial, ⟨⟨trivial, ⟨⟨trivial, trivial⟩, trivial⟩⟩, ⟨trivial, trivial⟩⟩⟩
theorem runs38 (N : Nat) (x : S38.ta.den) : run C38 S38 (L38 N) Go.Proofs.Tryd.f38 x = F38 N x.1 x.2.1 := by kernel_rfl

/-! ### 15: incognito/incognitoref17.Out -/
def W15_8 {β : Type} (N : Nat) (x1 : (List (Int × Int × ByteArray × Unit)) → Option β) : Nat → (List ((Int × Int × ByteArray × Unit) × Int × (List (Int × Int × ByteArray × Unit)) × Unit)) → Int → Int → ByteArray → Int → (List (Int × Int × ByteArray × Unit)) → (List (Int × Int × ByteArray × Unit)) → (List (Int × Int × ByteArray × Unit)) → Int → Option β
  | 0, _, _, _, _, _, _, _, _, _ => none
  | n + 1, t1, b5a, b5ba, b5bba, b5bbba, b5bbbba, t7, t8, t9 =>
  bif decide (t9 < (((List.length t8) : Nat) : Int)) then
    bif ((decide ((0 : Int) ≤ t9)) && (decide (t9 < (((List.length t8) : Nat) : Int)))) then
      bif ((decide ((0 : Int) ≤ (0 : Int))) && (decide ((0 : Int) < (((List.length b5bbbba) : Nat) : Int)))) then
        bif (!(Go.Inc.lessV (List.getD t8 (Int.toNat t9) ((0 : Int), ((0 : Int), (ByteArray.empty, ())))) (List.getD b5bbbba (Int.toNat (0 : Int)) ((0 : Int), ((0 : Int), (ByteArray.empty, ())))))) then
          bif ((decide ((0 : Int) ≤ (1 : Int))) && (decide ((1 : Int) < (((List.length b5bbbba) : Nat) : Int)))) then
            bif ((decide ((0 : Int) ≤ t9)) && (decide (t9 < (((List.length t8) : Nat) : Int)))) then
              bif (!(Go.Inc.lessV (List.getD b5bbbba (Int.toNat (1 : Int)) ((0 : Int), ((0 : Int), (ByteArray.empty, ())))) (List.getD t8 (Int.toNat t9) ((0 : Int), ((0 : Int), (ByteArray.empty, ())))))) then
              bif ((decide ((0 : Int) ≤ t9)) && (decide (t9 < (((List.length t8) : Nat) : Int)))) then
              bif ((decide ((0 : Int) ≤ t9)) && (decide (t9 < (((List.length t8) : Nat) : Int)))) then
              bif (Go.Inc.okDPast t1 (List.getD t8 (Int.toNat t9) ((0 : Int), ((0 : Int), (ByteArray.empty, ()))))) then
              bif decide ((((List.length t7) + (List.length ((List.getD t8 (Int.toNat t9) ((0 : Int), ((0 : Int), (ByteArray.empty, ())))) :: ((Go.Inc.dictHas t1 (List.getD t8 (Int.toNat t9) ((0 : Int), ((0 : Int), (ByteArray.empty, ()))))) :: ([] : List (Int × (Int × (ByteArray × Unit)))))))) * 32) ≤ 140737488351232) then
              W15_8 N x1 n t1 b5a b5ba b5bba b5bbba b5bbbba (t7 ++ ((List.getD t8 (Int.toNat t9) ((0 : Int), ((0 : Int), (ByteArray.empty, ())))) :: ((Go.Inc.dictHas t1 (List.getD t8 (Int.toNat t9) ((0 : Int), ((0 : Int), (ByteArray.empty, ()))))) :: ([] : List (Int × (Int × (ByteArray × Unit))))))) t8 (Go.IntKind.wrap .i64 (t9 + (1 : Int)))
            else
              none
            else
              none
            else
              none
            else
              none
            else
              W15_8 N x1 n t1 b5a b5ba b5bba b5bbba b5bbbba t7 t8 (Go.IntKind.wrap .i64 (t9 + (1 : Int)))
            else
              none
          else
            none
        else
          W15_8 N x1 n t1 b5a b5ba b5bba b5bbba b5bbbba t7 t8 (Go.IntKind.wrap .i64 (t9 + (1 : Int)))
      else
        none
    else
      none
  else
    x1 t7
def L15 (N : Nat) : Loops ((List (Int × Int × ByteArray × Unit)) × Unit) := fun k ρ K => match Nat.beq k 8 with
  | true => (match adH ρ H15_8.hd with
    | some v => W15_8 N (fun t7 => K (.exit 0) (encH [(14, (.sl (.pr (.int .i64) (.pr (.int .i64) (.pr .str .un))) (.own 65)))] (t7, ()))) N v.1 v.2.2.1.1 v.2.2.1.2.1 v.2.2.1.2.2.1 v.2.2.1.2.2.2.1 v.2.2.1.2.2.2.2.1 v.2.2.2.1 v.2.2.2.2.1 v.2.2.2.2.2.1
    | none => none)
  | false => none
def F15 (N : Nat) (p0 : Int) (p1 : List ((Int × Int × ByteArray × Unit) × Int × (List (Int × Int × ByteArray × Unit)) × Unit)) (p2 : (Int × Int × ByteArray × Unit) × Int × (List (Int × Int × ByteArray × Unit)) × Unit) : Option ((List (Int × Int × ByteArray × Unit)) × Unit) :=
  bif (p2.2.1 == (8 : Int)) then
    bif ((decide ((0 : Int) ≤ (0 : Int))) && (decide ((0 : Int) < (((List.length p2.2.2.1) : Nat) : Int)))) then
      bif (Go.Inc.okDPast p1 (List.getD p2.2.2.1 (Int.toNat (0 : Int)) ((0 : Int), ((0 : Int), (ByteArray.empty, ()))))) then
        some (((Go.Inc.dictHas p1 (List.getD p2.2.2.1 (Int.toNat (0 : Int)) ((0 : Int), ((0 : Int), (ByteArray.empty, ()))))) :: ([] : List (Int × (Int × (ByteArray × Unit))))), ())
      else
        none
    else
      none
  else
    bif (p2.2.1 != (13 : Int)) then
      some (([] : List (Int × (Int × (ByteArray × Unit)))), ())
    else
      bif (Go.Inc.okDPastK p1) then
        W15_8 N
          (fun t7 =>
            some (t7, ()))
          N p1 p2.1.1 p2.1.2.1 p2.1.2.2.1 p2.2.1 p2.2.2.1 ([] : List (Int × (Int × (ByteArray × Unit)))) (Go.Inc.dictKeys p1) (0 : Int)
      else
        none
theorem loops15 (N : Nat) : loopsOk C15 (L15 N) Go.Proofs.Tryd.f15 := ⟨trivial, ⟨⟨trivial, ⟨⟨trivial, trivial⟩, trivial⟩⟩, ⟨⟨trivial, ⟨⟨trivial, trivial⟩, trivial⟩⟩, ⟨trivial, ⟨trivial, ⟨⟨trivial, ⟨loopOk_of H15_8 N (fun K n v => W15_8 N (fun t7 => K (.exit 0) (encH [(14, (.sl (.pr (.int .i64) (.pr (.int .i64) (.pr .str .un))) (.own 65)))] (t7, ()))) n v.1 v.2.2.1.1 v.2.2.1.2.1 v.2.2.1.2.2.1 v.2.2.1.2.2.2.1 v.2.2.1.2.2.2.2.1 v.2.2.2.1 v.2.2.2.2.1 v.2.2.2.2.2.1) (by kernel_rfl) (fun K v => by kernel_rfl) (fun K v => by kernel_rfl) (fun K n v => by kernel_rfl), ⟨⟨trivial, ⟨trivial, trivial⟩⟩, ⟨⟨trivial, ⟨trivial, trivial⟩⟩, trivial⟩⟩⟩⟩, ⟨trivial, trivial⟩⟩⟩⟩⟩⟩⟩
theorem runs15 (N : Nat) (x : S15.ta.den) : run C15 S15 (L15 N) Go.Proofs.Tryd.f15 x = F15 N x.1 x.2.1 x.2.2.1 := by kernel_rfl

/-! ### 3: incognito/incognitolaw17.DictPlays -/
def W3_12 {β : Type} (N : Nat) (x0 : Bool → Option β) (x1 : Unit → Option β) : Nat → Int → Int → Int → Int → ByteArray → Int → (List (Int × Int × ByteArray × Unit)) → (List ((Int × Int × ByteArray × Unit) × Int × (List (Int × Int × ByteArray × Unit)) × Unit)) → (List ((Int × Int × ByteArray × Unit) × Int × (List (Int × Int × ByteArray × Unit)) × Unit)) → Int → Int → Option β
  | 0, _, _, _, _, _, _, _, _, _, _, _ => none
  | n + 1, t0, b5a, b5ba, b5bba, b5bbba, b5bbbba, b5bbbbba, t7, t42, t43, t44 =>
  bif decide (t44 < t43) then
    bif ((decide ((0 : Int) ≤ t44)) && (decide (t44 < (((List.length t42) : Nat) : Int)))) then
      bif (Go.Inc.okDStep (b5a, ((b5ba, (b5bba, (b5bbba, ()))), (b5bbbba, (b5bbbbba, ())))) ((List.getD t42 (Int.toNat t44) (((0 : Int), ((0 : Int), (ByteArray.empty, ()))), ((0 : Int), ([], ())))).1) (((List.getD t42 (Int.toNat t44) (((0 : Int), ((0 : Int), (ByteArray.empty, ()))), ((0 : Int), ([], ())))).2).1) ((((List.getD t42 (Int.toNat t44) (((0 : Int), ((0 : Int), (ByteArray.empty, ()))), ((0 : Int), ([], ())))).2).2).1)) then
        bif (Go.Inc.okMay t0 (List.getD t42 (Int.toNat t44) (((0 : Int), ((0 : Int), (ByteArray.empty, ()))), ((0 : Int), ([], ()))))) then
          bif (!(((((Go.Inc.dictStep (b5a, ((b5ba, (b5bba, (b5bbba, ()))), (b5bbbba, (b5bbbbba, ())))) ((List.getD t42 (Int.toNat t44) (((0 : Int), ((0 : Int), (ByteArray.empty, ()))), ((0 : Int), ([], ())))).1) (((List.getD t42 (Int.toNat t44) (((0 : Int), ((0 : Int), (ByteArray.empty, ()))), ((0 : Int), ([], ())))).2).1) ((((List.getD t42 (Int.toNat t44) (((0 : Int), ((0 : Int), (ByteArray.empty, ()))), ((0 : Int), ([], ())))).2).2).1)).2).2).1) == (Go.Inc.mayD t0 (List.getD t42 (Int.toNat t44) (((0 : Int), ((0 : Int), (ByteArray.empty, ()))), ((0 : Int), ([], ()))))))) then
            x0 false
          else
            bif (!((((Go.Inc.dictStep (b5a, ((b5ba, (b5bba, (b5bbba, ()))), (b5bbbba, (b5bbbbba, ())))) ((List.getD t42 (Int.toNat t44) (((0 : Int), ((0 : Int), (ByteArray.empty, ()))), ((0 : Int), ([], ())))).1) (((List.getD t42 (Int.toNat t44) (((0 : Int), ((0 : Int), (ByteArray.empty, ()))), ((0 : Int), ([], ())))).2).1) ((((List.getD t42 (Int.toNat t44) (((0 : Int), ((0 : Int), (ByteArray.empty, ()))), ((0 : Int), ([], ())))).2).2).1)).2).2).1)) then
              bif decide ((((List.length (((Go.Inc.dictStep (b5a, ((b5ba, (b5bba, (b5bbba, ()))), (b5bbbba, (b5bbbbba, ())))) ((List.getD t42 (Int.toNat t44) (((0 : Int), ((0 : Int), (ByteArray.empty, ()))), ((0 : Int), ([], ())))).1) (((List.getD t42 (Int.toNat t44) (((0 : Int), ((0 : Int), (ByteArray.empty, ()))), ((0 : Int), ([], ())))).2).1) ((((List.getD t42 (Int.toNat t44) (((0 : Int), ((0 : Int), (ByteArray.empty, ()))), ((0 : Int), ([], ())))).2).2).1)).2).1)) : Nat) : Int) > (0 : Int)) then
              x0 false
            else
              bif (Go.Inc.okSS ((Go.Inc.dictStep (b5a, ((b5ba, (b5bba, (b5bbba, ()))), (b5bbbba, (b5bbbbba, ())))) ((List.getD t42 (Int.toNat t44) (((0 : Int), ((0 : Int), (ByteArray.empty, ()))), ((0 : Int), ([], ())))).1) (((List.getD t42 (Int.toNat t44) (((0 : Int), ((0 : Int), (ByteArray.empty, ()))), ((0 : Int), ([], ())))).2).1) ((((List.getD t42 (Int.toNat t44) (((0 : Int), ((0 : Int), (ByteArray.empty, ()))), ((0 : Int), ([], ())))).2).2).1)).1) ((0 : Int), (((0 : Int), ((0 : Int), (ByteArray.empty, ()))), ((0 : Int), (([] : List (Int × (Int × (ByteArray × Unit)))), ()))))) then
              bif (!(Go.Inc.sameS ((Go.Inc.dictStep (b5a, ((b5ba, (b5bba, (b5bbba, ()))), (b5bbbba, (b5bbbbba, ())))) ((List.getD t42 (Int.toNat t44) (((0 : Int), ((0 : Int), (ByteArray.empty, ()))), ((0 : Int), ([], ())))).1) (((List.getD t42 (Int.toNat t44) (((0 : Int), ((0 : Int), (ByteArray.empty, ()))), ((0 : Int), ([], ())))).2).1) ((((List.getD t42 (Int.toNat t44) (((0 : Int), ((0 : Int), (ByteArray.empty, ()))), ((0 : Int), ([], ())))).2).2).1)).1) ((0 : Int), (((0 : Int), ((0 : Int), (ByteArray.empty, ()))), ((0 : Int), (([] : List (Int × (Int × (ByteArray × Unit)))), ())))))) then
              x0 false
            else
              W3_12 N x0 x1 n t0 b5a b5ba b5bba b5bbba b5bbbba b5bbbbba t7 t42 t43 (Go.IntKind.wrap .i64 (t44 + (1 : Int)))
            else
              none
            else
              bif (Go.Inc.okDPast1 t0 t7 (List.getD t42 (Int.toNat t44) (((0 : Int), ((0 : Int), (ByteArray.empty, ()))), ((0 : Int), ([], ()))))) then
              bif (Go.Inc.okSame2 (((Go.Inc.dictStep (b5a, ((b5ba, (b5bba, (b5bbba, ()))), (b5bbbba, (b5bbbbba, ())))) ((List.getD t42 (Int.toNat t44) (((0 : Int), ((0 : Int), (ByteArray.empty, ()))), ((0 : Int), ([], ())))).1) (((List.getD t42 (Int.toNat t44) (((0 : Int), ((0 : Int), (ByteArray.empty, ()))), ((0 : Int), ([], ())))).2).1) ((((List.getD t42 (Int.toNat t44) (((0 : Int), ((0 : Int), (ByteArray.empty, ()))), ((0 : Int), ([], ())))).2).2).1)).2).1) (Go.Inc.dictOut t0 t7 (List.getD t42 (Int.toNat t44) (((0 : Int), ((0 : Int), (ByteArray.empty, ()))), ((0 : Int), ([], ())))))) then
              bif (!(Go.Inc.sameV (((Go.Inc.dictStep (b5a, ((b5ba, (b5bba, (b5bbba, ()))), (b5bbbba, (b5bbbbba, ())))) ((List.getD t42 (Int.toNat t44) (((0 : Int), ((0 : Int), (ByteArray.empty, ()))), ((0 : Int), ([], ())))).1) (((List.getD t42 (Int.toNat t44) (((0 : Int), ((0 : Int), (ByteArray.empty, ()))), ((0 : Int), ([], ())))).2).1) ((((List.getD t42 (Int.toNat t44) (((0 : Int), ((0 : Int), (ByteArray.empty, ()))), ((0 : Int), ([], ())))).2).2).1)).2).1) (Go.Inc.dictOut t0 t7 (List.getD t42 (Int.toNat t44) (((0 : Int), ((0 : Int), (ByteArray.empty, ()))), ((0 : Int), ([], ()))))))) then
              x0 false
            else
              bif decide ((((List.length t7) + (List.length ((List.getD t42 (Int.toNat t44) (((0 : Int), ((0 : Int), (ByteArray.empty, ()))), ((0 : Int), ([], ())))) :: ([] : List ((Int × (Int × (ByteArray × Unit))) × (Int × ((List (Int × (Int × (ByteArray × Unit)))) × Unit))))))) * 64) ≤ 140737488351232) then
              bif (Go.Inc.okDPast0 t0 (t7 ++ ((List.getD t42 (Int.toNat t44) (((0 : Int), ((0 : Int), (ByteArray.empty, ()))), ((0 : Int), ([], ())))) :: ([] : List ((Int × (Int × (ByteArray × Unit))) × (Int × ((List (Int × (Int × (ByteArray × Unit)))) × Unit))))))) then
              bif (Go.Inc.okSS ((Go.Inc.dictStep (b5a, ((b5ba, (b5bba, (b5bbba, ()))), (b5bbbba, (b5bbbbba, ())))) ((List.getD t42 (Int.toNat t44) (((0 : Int), ((0 : Int), (ByteArray.empty, ()))), ((0 : Int), ([], ())))).1) (((List.getD t42 (Int.toNat t44) (((0 : Int), ((0 : Int), (ByteArray.empty, ()))), ((0 : Int), ([], ())))).2).1) ((((List.getD t42 (Int.toNat t44) (((0 : Int), ((0 : Int), (ByteArray.empty, ()))), ((0 : Int), ([], ())))).2).2).1)).1) (Go.Inc.dictState t0 (t7 ++ ((List.getD t42 (Int.toNat t44) (((0 : Int), ((0 : Int), (ByteArray.empty, ()))), ((0 : Int), ([], ())))) :: ([] : List ((Int × (Int × (ByteArray × Unit))) × (Int × ((List (Int × (Int × (ByteArray × Unit)))) × Unit)))))))) then
              bif (!(Go.Inc.sameS ((Go.Inc.dictStep (b5a, ((b5ba, (b5bba, (b5bbba, ()))), (b5bbbba, (b5bbbbba, ())))) ((List.getD t42 (Int.toNat t44) (((0 : Int), ((0 : Int), (ByteArray.empty, ()))), ((0 : Int), ([], ())))).1) (((List.getD t42 (Int.toNat t44) (((0 : Int), ((0 : Int), (ByteArray.empty, ()))), ((0 : Int), ([], ())))).2).1) ((((List.getD t42 (Int.toNat t44) (((0 : Int), ((0 : Int), (ByteArray.empty, ()))), ((0 : Int), ([], ())))).2).2).1)).1) (Go.Inc.dictState t0 (t7 ++ ((List.getD t42 (Int.toNat t44) (((0 : Int), ((0 : Int), (ByteArray.empty, ()))), ((0 : Int), ([], ())))) :: ([] : List ((Int × (Int × (ByteArray × Unit))) × (Int × ((List (Int × (Int × (ByteArray × Unit)))) × Unit))))))))) then
              x0 false
            else
              W3_12 N x0 x1 n t0 (((Go.Inc.dictStep (b5a, ((b5ba, (b5bba, (b5bbba, ()))), (b5bbbba, (b5bbbbba, ())))) ((List.getD t42 (Int.toNat t44) (((0 : Int), ((0 : Int), (ByteArray.empty, ()))), ((0 : Int), ([], ())))).1) (((List.getD t42 (Int.toNat t44) (((0 : Int), ((0 : Int), (ByteArray.empty, ()))), ((0 : Int), ([], ())))).2).1) ((((List.getD t42 (Int.toNat t44) (((0 : Int), ((0 : Int), (ByteArray.empty, ()))), ((0 : Int), ([], ())))).2).2).1)).1).1) (((((Go.Inc.dictStep (b5a, ((b5ba, (b5bba, (b5bbba, ()))), (b5bbbba, (b5bbbbba, ())))) ((List.getD t42 (Int.toNat t44) (((0 : Int), ((0 : Int), (ByteArray.empty, ()))), ((0 : Int), ([], ())))).1) (((List.getD t42 (Int.toNat t44) (((0 : Int), ((0 : Int), (ByteArray.empty, ()))), ((0 : Int), ([], ())))).2).1) ((((List.getD t42 (Int.toNat t44) (((0 : Int), ((0 : Int), (ByteArray.empty, ()))), ((0 : Int), ([], ())))).2).2).1)).1).2).1).1) ((((((Go.Inc.dictStep (b5a, ((b5ba, (b5bba, (b5bbba, ()))), (b5bbbba, (b5bbbbba, ())))) ((List.getD t42 (Int.toNat t44) (((0 : Int), ((0 : Int), (ByteArray.empty, ()))), ((0 : Int), ([], ())))).1) (((List.getD t42 (Int.toNat t44) (((0 : Int), ((0 : Int), (ByteArray.empty, ()))), ((0 : Int), ([], ())))).2).1) ((((List.getD t42 (Int.toNat t44) (((0 : Int), ((0 : Int), (ByteArray.empty, ()))), ((0 : Int), ([], ())))).2).2).1)).1).2).1).2).1) (((((((Go.Inc.dictStep (b5a, ((b5ba, (b5bba, (b5bbba, ()))), (b5bbbba, (b5bbbbba, ())))) ((List.getD t42 (Int.toNat t44) (((0 : Int), ((0 : Int), (ByteArray.empty, ()))), ((0 : Int), ([], ())))).1) (((List.getD t42 (Int.toNat t44) (((0 : Int), ((0 : Int), (ByteArray.empty, ()))), ((0 : Int), ([], ())))).2).1) ((((List.getD t42 (Int.toNat t44) (((0 : Int), ((0 : Int), (ByteArray.empty, ()))), ((0 : Int), ([], ())))).2).2).1)).1).2).1).2).2).1) (((((Go.Inc.dictStep (b5a, ((b5ba, (b5bba, (b5bbba, ()))), (b5bbbba, (b5bbbbba, ())))) ((List.getD t42 (Int.toNat t44) (((0 : Int), ((0 : Int), (ByteArray.empty, ()))), ((0 : Int), ([], ())))).1) (((List.getD t42 (Int.toNat t44) (((0 : Int), ((0 : Int), (ByteArray.empty, ()))), ((0 : Int), ([], ())))).2).1) ((((List.getD t42 (Int.toNat t44) (((0 : Int), ((0 : Int), (ByteArray.empty, ()))), ((0 : Int), ([], ())))).2).2).1)).1).2).2).1) ((((((Go.Inc.dictStep (b5a, ((b5ba, (b5bba, (b5bbba, ()))), (b5bbbba, (b5bbbbba, ())))) ((List.getD t42 (Int.toNat t44) (((0 : Int), ((0 : Int), (ByteArray.empty, ()))), ((0 : Int), ([], ())))).1) (((List.getD t42 (Int.toNat t44) (((0 : Int), ((0 : Int), (ByteArray.empty, ()))), ((0 : Int), ([], ())))).2).1) ((((List.getD t42 (Int.toNat t44) (((0 : Int), ((0 : Int), (ByteArray.empty, ()))), ((0 : Int), ([], ())))).2).2).1)).1).2).2).2).1) (t7 ++ ((List.getD t42 (Int.toNat t44) (((0 : Int), ((0 : Int), (ByteArray.empty, ()))), ((0 : Int), ([], ())))) :: ([] : List ((Int × (Int × (ByteArray × Unit))) × (Int × ((List (Int × (Int × (ByteArray × Unit)))) × Unit)))))) t42 t43 (Go.IntKind.wrap .i64 (t44 + (1 : Int)))
            else
              none
            else
              none
            else
              none
            else
              none
            else
              none
        else
          none
      else
        none
    else
      none
  else
    x1 ()
def L3 (N : Nat) : Loops (Bool × Unit) := fun k ρ K => match Nat.beq k 12 with
  | true => (match adH ρ H3_12.hd with
    | some v => W3_12 N (fun t4 => K .ret (encH [(8, .bo)] (t4, ()))) (fun _ => K (.exit 0) (encH [] ())) N v.1 v.2.2.1.1 v.2.2.1.2.1 v.2.2.1.2.2.1 v.2.2.1.2.2.2.1 v.2.2.1.2.2.2.2.1 v.2.2.1.2.2.2.2.2.1 v.2.2.2.1 v.2.2.2.2.1 v.2.2.2.2.2.1 v.2.2.2.2.2.2.1
    | none => none)
  | false => none
def F3 (N : Nat) (p0 : Int) (p1 : List ((Int × Int × ByteArray × Unit) × Int × (List (Int × Int × ByteArray × Unit)) × Unit)) : Option (Bool × Unit) :=
  bif (!((((Go.Inc.dictNew p0).2).1) == (Go.Inc.dictOwn p0))) then
    some (false, ())
  else
    bif (!(((Go.Inc.dictNew p0).2).1)) then
      bif (Go.Inc.okSS ((Go.Inc.dictNew p0).1) ((0 : Int), (((0 : Int), ((0 : Int), (ByteArray.empty, ()))), ((0 : Int), (([] : List (Int × (Int × (ByteArray × Unit)))), ()))))) then
        bif (Go.Inc.sameS ((Go.Inc.dictNew p0).1) ((0 : Int), (((0 : Int), ((0 : Int), (ByteArray.empty, ()))), ((0 : Int), (([] : List (Int × (Int × (ByteArray × Unit)))), ()))))) then
          some (true, ())
        else
          some ((Go.Inc.dictNew p0).2)
      else
        none
    else
      bif (Go.Inc.okDs p1) then
        bif (Go.Inc.greatD p1) then
          bif (Go.Inc.okSS ((Go.Inc.dictNew p0).1) ((0 : Int), (((0 : Int), ((0 : Int), (ByteArray.empty, ()))), ((0 : Int), (([] : List (Int × (Int × (ByteArray × Unit)))), ()))))) then
            bif (Go.Inc.sameS ((Go.Inc.dictNew p0).1) ((0 : Int), (((0 : Int), ((0 : Int), (ByteArray.empty, ()))), ((0 : Int), (([] : List (Int × (Int × (ByteArray × Unit)))), ()))))) then
              some (true, ())
            else
              some ((Go.Inc.dictNew p0).2)
          else
            none
        else
          bif (Go.Inc.okSS ((Go.Inc.dictNew p0).1) (Go.Inc.dictState p0 ([] : List ((Int × (Int × (ByteArray × Unit))) × (Int × ((List (Int × (Int × (ByteArray × Unit)))) × Unit)))))) then
            bif (!(Go.Inc.sameS ((Go.Inc.dictNew p0).1) (Go.Inc.dictState p0 ([] : List ((Int × (Int × (ByteArray × Unit))) × (Int × ((List (Int × (Int × (ByteArray × Unit)))) × Unit))))))) then
              some (false, ())
            else
              W3_12 N
              (fun t4 =>
                some (t4, ()))
              (fun (_ : Unit) =>
                some (true, ()))
              N p0 (((Go.Inc.dictNew p0).1).1) (((((Go.Inc.dictNew p0).1).2).1).1) ((((((Go.Inc.dictNew p0).1).2).1).2).1) (((((((Go.Inc.dictNew p0).1).2).1).2).2).1) (((((Go.Inc.dictNew p0).1).2).2).1) ((((((Go.Inc.dictNew p0).1).2).2).2).1) ([] : List ((Int × (Int × (ByteArray × Unit))) × (Int × ((List (Int × (Int × (ByteArray × Unit)))) × Unit)))) p1 (((List.length p1) : Nat) : Int) (0 : Int)
          else
            none
      else
        none
theorem loops3 (N : Nat) : loopsOk C3 (L3 N) Go.Proofs.Tryd.f3 := ⟨trivial, ⟨⟨trivial, ⟨⟨trivial, trivial⟩, trivial⟩⟩, ⟨trivial, ⟨⟨trivial, ⟨⟨trivial, trivial⟩, trivial⟩⟩, ⟨⟨trivial, ⟨⟨trivial, trivial⟩, trivial⟩⟩, ⟨trivial, ⟨⟨trivial, ⟨⟨trivial, trivial⟩, trivial⟩⟩, ⟨⟨trivial, ⟨loopOk_of H3_12 N (fun K n v => W3_12 N (fun t4 => K .ret (encH [(8, .bo)] (t4, ()))) (fun _ => K (.exit 0) (encH [] ())) n v.1 v.2.2.1.1 v.2.2.1.2.1 v.2.2.1.2.2.1 v.2.2.1.2.2.2.1 v.2.2.1.2.2.2.2.1 v.2.2.1.2.2.2.2.2.1 v.2.2.2.1 v.2.2.2.2.1 v.2.2.2.2.2.1 v.2.2.2.2.2.2.1) (by kernel_rfl) (fun K v => by kernel_rfl) (fun K v => by kernel_rfl) (fun K n v => by kernel_rfl), ⟨trivial, ⟨⟨trivial, trivial⟩, ⟨⟨trivial, ⟨trivial, ⟨⟨trivial, ⟨⟨trivial, trivial⟩, trivial⟩⟩, ⟨⟨trivial, ⟨⟨⟨trivial, ⟨⟨trivial, trivial⟩, trivial⟩⟩, trivial⟩, trivial⟩⟩, ⟨⟨trivial, ⟨⟨trivial, trivial⟩, trivial⟩⟩, ⟨trivial, ⟨trivial, ⟨trivial, ⟨⟨trivial, trivial⟩, trivial⟩⟩⟩⟩⟩⟩⟩⟩⟩, trivial⟩⟩⟩⟩⟩, ⟨trivial, trivial⟩⟩⟩⟩⟩⟩⟩⟩⟩
theorem runs3 (N : Nat) (x : S3.ta.den) : run C3 S3 (L3 N) Go.Proofs.Tryd.f3 x = F3 N x.1 x.2.1 := by kernel_rfl

/-! ### 5: incognito/incognitolaw17.DictLast -/
def W5_8 {β : Type} (N : Nat) (x1 : Int → Int → ByteArray → Int → Int → ByteArray → Int → Int → Int → ByteArray → Int → (List (Int × Int × ByteArray × Unit)) → Option β) : Nat → Int → Int → ByteArray → Int → Int → ByteArray → Int → Int → Int → ByteArray → Int → (List (Int × Int × ByteArray × Unit)) → (List ((Int × Int × ByteArray × Unit) × Int × (List (Int × Int × ByteArray × Unit)) × Unit)) → Int → Int → Option β
  | 0, _, _, _, _, _, _, _, _, _, _, _, _, _, _, _ => none
  | n + 1, b4a, b4ba, b4bba, b5a, b5ba, b5bba, b7a, b7ba, b7bba, b7bbba, b7bbbba, b7bbbbba, t60, t61, t62 =>
  bif decide (t62 < t61) then
    bif ((decide ((0 : Int) ≤ t62)) && (decide (t62 < (((List.length t60) : Nat) : Int)))) then
      bif decide ((((List.length ((((List.getD t60 (Int.toNat t62) (((0 : Int), ((0 : Int), (ByteArray.empty, ()))), ((0 : Int), ([], ())))).2).2).1)) : Nat) : Int) > (0 : Int)) then
        bif ((decide ((0 : Int) ≤ (0 : Int))) && (decide ((0 : Int) < (((List.length ((((List.getD t60 (Int.toNat t62) (((0 : Int), ((0 : Int), (ByteArray.empty, ()))), ((0 : Int), ([], ())))).2).2).1)) : Nat) : Int)))) then
          bif ((((List.getD ((((List.getD t60 (Int.toNat t62) (((0 : Int), ((0 : Int), (ByteArray.empty, ()))), ((0 : Int), ([], ())))).2).2).1) (Int.toNat (0 : Int)) ((0 : Int), ((0 : Int), (ByteArray.empty, ())))).1) == b4a) && (((((List.getD ((((List.getD t60 (Int.toNat t62) (((0 : Int), ((0 : Int), (ByteArray.empty, ()))), ((0 : Int), ([], ())))).2).2).1) (Int.toNat (0 : Int)) ((0 : Int), ((0 : Int), (ByteArray.empty, ())))).2).1) == b4ba) && ((((((List.getD ((((List.getD t60 (Int.toNat t62) (((0 : Int), ((0 : Int), (ByteArray.empty, ()))), ((0 : Int), ([], ())))).2).2).1) (Int.toNat (0 : Int)) ((0 : Int), ((0 : Int), (ByteArray.empty, ())))).2).2).1) == b4bba) && true))) then
            W5_8 N x1 n b4a b4ba b4bba b5a b5ba b5bba b7a b7ba b7bba b7bbba b7bbbba b7bbbbba t60 t61 (Go.IntKind.wrap .i64 (t62 + (1 : Int)))
          else
            bif (Go.Inc.okDStep (b7a, ((b7ba, (b7bba, (b7bbba, ()))), (b7bbbba, (b7bbbbba, ())))) ((List.getD t60 (Int.toNat t62) (((0 : Int), ((0 : Int), (ByteArray.empty, ()))), ((0 : Int), ([], ())))).1) (((List.getD t60 (Int.toNat t62) (((0 : Int), ((0 : Int), (ByteArray.empty, ()))), ((0 : Int), ([], ())))).2).1) ((((List.getD t60 (Int.toNat t62) (((0 : Int), ((0 : Int), (ByteArray.empty, ()))), ((0 : Int), ([], ())))).2).2).1)) then
              bif (((Go.Inc.dictStep (b7a, ((b7ba, (b7bba, (b7bbba, ()))), (b7bbbba, (b7bbbbba, ())))) ((List.getD t60 (Int.toNat t62) (((0 : Int), ((0 : Int), (ByteArray.empty, ()))), ((0 : Int), ([], ())))).1) (((List.getD t60 (Int.toNat t62) (((0 : Int), ((0 : Int), (ByteArray.empty, ()))), ((0 : Int), ([], ())))).2).1) ((((List.getD t60 (Int.toNat t62) (((0 : Int), ((0 : Int), (ByteArray.empty, ()))), ((0 : Int), ([], ())))).2).2).1)).2).2).1 then
              W5_8 N x1 n b4a b4ba b4bba b5a b5ba b5bba (((Go.Inc.dictStep (b7a, ((b7ba, (b7bba, (b7bbba, ()))), (b7bbbba, (b7bbbbba, ())))) ((List.getD t60 (Int.toNat t62) (((0 : Int), ((0 : Int), (ByteArray.empty, ()))), ((0 : Int), ([], ())))).1) (((List.getD t60 (Int.toNat t62) (((0 : Int), ((0 : Int), (ByteArray.empty, ()))), ((0 : Int), ([], ())))).2).1) ((((List.getD t60 (Int.toNat t62) (((0 : Int), ((0 : Int), (ByteArray.empty, ()))), ((0 : Int), ([], ())))).2).2).1)).1).1) (((((Go.Inc.dictStep (b7a, ((b7ba, (b7bba, (b7bbba, ()))), (b7bbbba, (b7bbbbba, ())))) ((List.getD t60 (Int.toNat t62) (((0 : Int), ((0 : Int), (ByteArray.empty, ()))), ((0 : Int), ([], ())))).1) (((List.getD t60 (Int.toNat t62) (((0 : Int), ((0 : Int), (ByteArray.empty, ()))), ((0 : Int), ([], ())))).2).1) ((((List.getD t60 (Int.toNat t62) (((0 : Int), ((0 : Int), (ByteArray.empty, ()))), ((0 : Int), ([], ())))).2).2).1)).1).2).1).1) ((((((Go.Inc.dictStep (b7a, ((b7ba, (b7bba, (b7bbba, ()))), (b7bbbba, (b7bbbbba, ())))) ((List.getD t60 (Int.toNat t62) (((0 : Int), ((0 : Int), (ByteArray.empty, ()))), ((0 : Int), ([], ())))).1) (((List.getD t60 (Int.toNat t62) (((0 : Int), ((0 : Int), (ByteArray.empty, ()))), ((0 : Int), ([], ())))).2).1) ((((List.getD t60 (Int.toNat t62) (((0 : Int), ((0 : Int), (ByteArray.empty, ()))), ((0 : Int), ([], ())))).2).2).1)).1).2).1).2).1) (((((((Go.Inc.dictStep (b7a, ((b7ba, (b7bba, (b7bbba, ()))), (b7bbbba, (b7bbbbba, ())))) ((List.getD t60 (Int.toNat t62) (((0 : Int), ((0 : Int), (ByteArray.empty, ()))), ((0 : Int), ([], ())))).1) (((List.getD t60 (Int.toNat t62) (((0 : Int), ((0 : Int), (ByteArray.empty, ()))), ((0 : Int), ([], ())))).2).1) ((((List.getD t60 (Int.toNat t62) (((0 : Int), ((0 : Int), (ByteArray.empty, ()))), ((0 : Int), ([], ())))).2).2).1)).1).2).1).2).2).1) (((((Go.Inc.dictStep (b7a, ((b7ba, (b7bba, (b7bbba, ()))), (b7bbbba, (b7bbbbba, ())))) ((List.getD t60 (Int.toNat t62) (((0 : Int), ((0 : Int), (ByteArray.empty, ()))), ((0 : Int), ([], ())))).1) (((List.getD t60 (Int.toNat t62) (((0 : Int), ((0 : Int), (ByteArray.empty, ()))), ((0 : Int), ([], ())))).2).1) ((((List.getD t60 (Int.toNat t62) (((0 : Int), ((0 : Int), (ByteArray.empty, ()))), ((0 : Int), ([], ())))).2).2).1)).1).2).2).1) ((((((Go.Inc.dictStep (b7a, ((b7ba, (b7bba, (b7bbba, ()))), (b7bbbba, (b7bbbbba, ())))) ((List.getD t60 (Int.toNat t62) (((0 : Int), ((0 : Int), (ByteArray.empty, ()))), ((0 : Int), ([], ())))).1) (((List.getD t60 (Int.toNat t62) (((0 : Int), ((0 : Int), (ByteArray.empty, ()))), ((0 : Int), ([], ())))).2).1) ((((List.getD t60 (Int.toNat t62) (((0 : Int), ((0 : Int), (ByteArray.empty, ()))), ((0 : Int), ([], ())))).2).2).1)).1).2).2).2).1) t60 t61 (Go.IntKind.wrap .i64 (t62 + (1 : Int)))
            else
              W5_8 N x1 n b4a b4ba b4bba b5a b5ba b5bba b7a b7ba b7bba b7bbba b7bbbba b7bbbbba t60 t61 (Go.IntKind.wrap .i64 (t62 + (1 : Int)))
            else
              none
        else
          none
      else
        bif (Go.Inc.okDStep (b7a, ((b7ba, (b7bba, (b7bbba, ()))), (b7bbbba, (b7bbbbba, ())))) ((List.getD t60 (Int.toNat t62) (((0 : Int), ((0 : Int), (ByteArray.empty, ()))), ((0 : Int), ([], ())))).1) (((List.getD t60 (Int.toNat t62) (((0 : Int), ((0 : Int), (ByteArray.empty, ()))), ((0 : Int), ([], ())))).2).1) ((((List.getD t60 (Int.toNat t62) (((0 : Int), ((0 : Int), (ByteArray.empty, ()))), ((0 : Int), ([], ())))).2).2).1)) then
          bif (((Go.Inc.dictStep (b7a, ((b7ba, (b7bba, (b7bbba, ()))), (b7bbbba, (b7bbbbba, ())))) ((List.getD t60 (Int.toNat t62) (((0 : Int), ((0 : Int), (ByteArray.empty, ()))), ((0 : Int), ([], ())))).1) (((List.getD t60 (Int.toNat t62) (((0 : Int), ((0 : Int), (ByteArray.empty, ()))), ((0 : Int), ([], ())))).2).1) ((((List.getD t60 (Int.toNat t62) (((0 : Int), ((0 : Int), (ByteArray.empty, ()))), ((0 : Int), ([], ())))).2).2).1)).2).2).1 then
            W5_8 N x1 n b4a b4ba b4bba b5a b5ba b5bba (((Go.Inc.dictStep (b7a, ((b7ba, (b7bba, (b7bbba, ()))), (b7bbbba, (b7bbbbba, ())))) ((List.getD t60 (Int.toNat t62) (((0 : Int), ((0 : Int), (ByteArray.empty, ()))), ((0 : Int), ([], ())))).1) (((List.getD t60 (Int.toNat t62) (((0 : Int), ((0 : Int), (ByteArray.empty, ()))), ((0 : Int), ([], ())))).2).1) ((((List.getD t60 (Int.toNat t62) (((0 : Int), ((0 : Int), (ByteArray.empty, ()))), ((0 : Int), ([], ())))).2).2).1)).1).1) (((((Go.Inc.dictStep (b7a, ((b7ba, (b7bba, (b7bbba, ()))), (b7bbbba, (b7bbbbba, ())))) ((List.getD t60 (Int.toNat t62) (((0 : Int), ((0 : Int), (ByteArray.empty, ()))), ((0 : Int), ([], ())))).1) (((List.getD t60 (Int.toNat t62) (((0 : Int), ((0 : Int), (ByteArray.empty, ()))), ((0 : Int), ([], ())))).2).1) ((((List.getD t60 (Int.toNat t62) (((0 : Int), ((0 : Int), (ByteArray.empty, ()))), ((0 : Int), ([], ())))).2).2).1)).1).2).1).1) ((((((Go.Inc.dictStep (b7a, ((b7ba, (b7bba, (b7bbba, ()))), (b7bbbba, (b7bbbbba, ())))) ((List.getD t60 (Int.toNat t62) (((0 : Int), ((0 : Int), (ByteArray.empty, ()))), ((0 : Int), ([], ())))).1) (((List.getD t60 (Int.toNat t62) (((0 : Int), ((0 : Int), (ByteArray.empty, ()))), ((0 : Int), ([], ())))).2).1) ((((List.getD t60 (Int.toNat t62) (((0 : Int), ((0 : Int), (ByteArray.empty, ()))), ((0 : Int), ([], ())))).2).2).1)).1).2).1).2).1) (((((((Go.Inc.dictStep (b7a, ((b7ba, (b7bba, (b7bbba, ()))), (b7bbbba, (b7bbbbba, ())))) ((List.getD t60 (Int.toNat t62) (((0 : Int), ((0 : Int), (ByteArray.empty, ()))), ((0 : Int), ([], ())))).1) (((List.getD t60 (Int.toNat t62) (((0 : Int), ((0 : Int), (ByteArray.empty, ()))), ((0 : Int), ([], ())))).2).1) ((((List.getD t60 (Int.toNat t62) (((0 : Int), ((0 : Int), (ByteArray.empty, ()))), ((0 : Int), ([], ())))).2).2).1)).1).2).1).2).2).1) (((((Go.Inc.dictStep (b7a, ((b7ba, (b7bba, (b7bbba, ()))), (b7bbbba, (b7bbbbba, ())))) ((List.getD t60 (Int.toNat t62) (((0 : Int), ((0 : Int), (ByteArray.empty, ()))), ((0 : Int), ([], ())))).1) (((List.getD t60 (Int.toNat t62) (((0 : Int), ((0 : Int), (ByteArray.empty, ()))), ((0 : Int), ([], ())))).2).1) ((((List.getD t60 (Int.toNat t62) (((0 : Int), ((0 : Int), (ByteArray.empty, ()))), ((0 : Int), ([], ())))).2).2).1)).1).2).2).1) ((((((Go.Inc.dictStep (b7a, ((b7ba, (b7bba, (b7bbba, ()))), (b7bbbba, (b7bbbbba, ())))) ((List.getD t60 (Int.toNat t62) (((0 : Int), ((0 : Int), (ByteArray.empty, ()))), ((0 : Int), ([], ())))).1) (((List.getD t60 (Int.toNat t62) (((0 : Int), ((0 : Int), (ByteArray.empty, ()))), ((0 : Int), ([], ())))).2).1) ((((List.getD t60 (Int.toNat t62) (((0 : Int), ((0 : Int), (ByteArray.empty, ()))), ((0 : Int), ([], ())))).2).2).1)).1).2).2).2).1) t60 t61 (Go.IntKind.wrap .i64 (t62 + (1 : Int)))
          else
            W5_8 N x1 n b4a b4ba b4bba b5a b5ba b5bba b7a b7ba b7bba b7bbba b7bbbba b7bbbbba t60 t61 (Go.IntKind.wrap .i64 (t62 + (1 : Int)))
        else
          none
    else
      none
  else
    x1 b4a b4ba b4bba b5a b5ba b5bba b7a b7ba b7bba b7bbba b7bbbba b7bbbbba
def L5 (N : Nat) : Loops (Bool × Unit) := fun k ρ K => match Nat.beq k 8 with
  | true => (match adH ρ H5_8.hd with
    | some v => W5_8 N (fun b4a b4ba b4bba b5a b5ba b5bba b7a b7ba b7bba b7bbba b7bbbba b7bbbbba => K (.exit 0) (encH [(8, (.bx 4 0)), (9, (.pr (.i .i64) (.pr (.i .i64) (.pr .st .un)))), (10, (.bx 5 0)), (11, (.pr (.i .i64) (.pr (.i .i64) (.pr .st .un)))), (14, (.bx 7 0)), (15, (.pr (.i .i64) (.pr (.i .i64) (.pr (.i .i64) (.pr .st (.pr (.i .i64) (.pr (.sl (.pr (.int .i64) (.pr (.int .i64) (.pr .str .un))) .no) .un)))))))] ((), ((b4a, (b4ba, (b4bba, ()))), ((), ((b5a, (b5ba, (b5bba, ()))), ((), ((b7a, (b7ba, (b7bba, (b7bbba, (b7bbbba, (b7bbbbba, ())))))), ())))))))) N v.2.1.1 v.2.1.2.1 v.2.1.2.2.1 v.2.2.2.1.1 v.2.2.2.1.2.1 v.2.2.2.1.2.2.1 v.2.2.2.2.2.1.1 v.2.2.2.2.2.1.2.1 v.2.2.2.2.2.1.2.2.1 v.2.2.2.2.2.1.2.2.2.1 v.2.2.2.2.2.1.2.2.2.2.1 v.2.2.2.2.2.1.2.2.2.2.2.1 v.2.2.2.2.2.2.1 v.2.2.2.2.2.2.2.1 v.2.2.2.2.2.2.2.2.1
    | none => none)
  | false => none
def F5 (N : Nat) (p0 : List ((Int × Int × ByteArray × Unit) × Int × (List (Int × Int × ByteArray × Unit)) × Unit)) (p1 : Int × Int × ByteArray × Unit) (p2 : Int × Int × ByteArray × Unit) : Option (Bool × Unit) :=
  bif (Go.Inc.okDs p0) then
    bif (Go.Inc.greatD p0) then
      some (true, ())
    else
      bif decide ((Go.IntKind.wrap .i64 ((((ByteArray.size p1.2.2.1) : Nat) : Int) + (((ByteArray.size p2.2.2.1) : Nat) : Int))) > (100 : Int)) then
        some (true, ())
      else
        bif (Go.Inc.okV p1) then
          bif (!(Go.Inc.name p1)) then
            some (true, ())
          else
            bif (Go.Inc.okV p2) then
              bif (!(Go.Inc.name p2)) then
              some (true, ())
            else
              bif (Go.Inc.okDStep ((Go.Inc.dictNew (4 : Int)).1) (Go.Inc.num' (0 : Int)) (7 : Int) (p1 :: (p2 :: ([] : List (Int × (Int × (ByteArray × Unit))))))) then
              W5_8 N
              (fun b4a b4ba b4bba b5a b5ba b5bba b7a b7ba b7bba b7bbba b7bbbba b7bbbbba =>
                bif (Go.Inc.okDStep (b7a, ((b7ba, (b7bba, (b7bbba, ()))), (b7bbbba, (b7bbbbba, ())))) (Go.Inc.num' (0 : Int)) (8 : Int) ((b4a, (b4ba, (b4bba, ()))) :: ([] : List (Int × (Int × (ByteArray × Unit)))))) then
              bif (Go.Inc.okDStep (b7a, ((b7ba, (b7bba, (b7bbba, ()))), (b7bbbba, (b7bbbbba, ())))) (Go.Inc.num' (0 : Int)) (5 : Int) ((b4a, (b4ba, (b4bba, ()))) :: ([] : List (Int × (Int × (ByteArray × Unit)))))) then
              bif (Go.Inc.okDStep ((Go.Inc.dictStep (b7a, ((b7ba, (b7bba, (b7bbba, ()))), (b7bbbba, (b7bbbbba, ())))) (Go.Inc.num' (0 : Int)) (5 : Int) ((b4a, (b4ba, (b4bba, ()))) :: ([] : List (Int × (Int × (ByteArray × Unit)))))).1) (Go.Inc.num' (0 : Int)) (8 : Int) ((b4a, (b4ba, (b4bba, ()))) :: ([] : List (Int × (Int × (ByteArray × Unit)))))) then
              bif (((Go.Inc.dictStep (b7a, ((b7ba, (b7bba, (b7bbba, ()))), (b7bbbba, (b7bbbbba, ())))) (Go.Inc.num' (0 : Int)) (8 : Int) ((b4a, (b4ba, (b4bba, ()))) :: ([] : List (Int × (Int × (ByteArray × Unit)))))).2).2).1 then
              bif (((Go.Inc.dictStep (b7a, ((b7ba, (b7bba, (b7bbba, ()))), (b7bbbba, (b7bbbbba, ())))) (Go.Inc.num' (0 : Int)) (5 : Int) ((b4a, (b4ba, (b4bba, ()))) :: ([] : List (Int × (Int × (ByteArray × Unit)))))).2).2).1 then
              bif (((Go.Inc.dictStep ((Go.Inc.dictStep (b7a, ((b7ba, (b7bba, (b7bbba, ()))), (b7bbbba, (b7bbbbba, ())))) (Go.Inc.num' (0 : Int)) (5 : Int) ((b4a, (b4ba, (b4bba, ()))) :: ([] : List (Int × (Int × (ByteArray × Unit)))))).1) (Go.Inc.num' (0 : Int)) (8 : Int) ((b4a, (b4ba, (b4bba, ()))) :: ([] : List (Int × (Int × (ByteArray × Unit)))))).2).2).1 then
              bif (Go.Inc.okSame2 (((Go.Inc.dictStep (b7a, ((b7ba, (b7bba, (b7bbba, ()))), (b7bbbba, (b7bbbbba, ())))) (Go.Inc.num' (0 : Int)) (8 : Int) ((b4a, (b4ba, (b4bba, ()))) :: ([] : List (Int × (Int × (ByteArray × Unit)))))).2).1) ((b5a, (b5ba, (b5bba, ()))) :: ([] : List (Int × (Int × (ByteArray × Unit)))))) then
              bif (Go.Inc.sameV (((Go.Inc.dictStep (b7a, ((b7ba, (b7bba, (b7bbba, ()))), (b7bbbba, (b7bbbbba, ())))) (Go.Inc.num' (0 : Int)) (8 : Int) ((b4a, (b4ba, (b4bba, ()))) :: ([] : List (Int × (Int × (ByteArray × Unit)))))).2).1) ((b5a, (b5ba, (b5bba, ()))) :: ([] : List (Int × (Int × (ByteArray × Unit)))))) then
              bif (Go.Inc.okSame2 (((Go.Inc.dictStep ((Go.Inc.dictStep (b7a, ((b7ba, (b7bba, (b7bbba, ()))), (b7bbbba, (b7bbbbba, ())))) (Go.Inc.num' (0 : Int)) (5 : Int) ((b4a, (b4ba, (b4bba, ()))) :: ([] : List (Int × (Int × (ByteArray × Unit)))))).1) (Go.Inc.num' (0 : Int)) (8 : Int) ((b4a, (b4ba, (b4bba, ()))) :: ([] : List (Int × (Int × (ByteArray × Unit)))))).2).1) (((0 : Int), ((0 : Int), (ByteArray.empty, ()))) :: ([] : List (Int × (Int × (ByteArray × Unit)))))) then
              some ((Go.Inc.sameV (((Go.Inc.dictStep ((Go.Inc.dictStep (b7a, ((b7ba, (b7bba, (b7bbba, ()))), (b7bbbba, (b7bbbbba, ())))) (Go.Inc.num' (0 : Int)) (5 : Int) ((b4a, (b4ba, (b4bba, ()))) :: ([] : List (Int × (Int × (ByteArray × Unit)))))).1) (Go.Inc.num' (0 : Int)) (8 : Int) ((b4a, (b4ba, (b4bba, ()))) :: ([] : List (Int × (Int × (ByteArray × Unit)))))).2).1) (((0 : Int), ((0 : Int), (ByteArray.empty, ()))) :: ([] : List (Int × (Int × (ByteArray × Unit)))))), ())
            else
              none
            else
              some (false, ())
            else
              none
            else
              some (false, ())
            else
              some (false, ())
            else
              some (false, ())
            else
              none
            else
              none
            else
              none)
              N p1.1 p1.2.1 p1.2.2.1 p2.1 p2.2.1 p2.2.2.1 (((Go.Inc.dictStep ((Go.Inc.dictNew (4 : Int)).1) (Go.Inc.num' (0 : Int)) (7 : Int) (p1 :: (p2 :: ([] : List (Int × (Int × (ByteArray × Unit))))))).1).1) (((((Go.Inc.dictStep ((Go.Inc.dictNew (4 : Int)).1) (Go.Inc.num' (0 : Int)) (7 : Int) (p1 :: (p2 :: ([] : List (Int × (Int × (ByteArray × Unit))))))).1).2).1).1) ((((((Go.Inc.dictStep ((Go.Inc.dictNew (4 : Int)).1) (Go.Inc.num' (0 : Int)) (7 : Int) (p1 :: (p2 :: ([] : List (Int × (Int × (ByteArray × Unit))))))).1).2).1).2).1) (((((((Go.Inc.dictStep ((Go.Inc.dictNew (4 : Int)).1) (Go.Inc.num' (0 : Int)) (7 : Int) (p1 :: (p2 :: ([] : List (Int × (Int × (ByteArray × Unit))))))).1).2).1).2).2).1) (((((Go.Inc.dictStep ((Go.Inc.dictNew (4 : Int)).1) (Go.Inc.num' (0 : Int)) (7 : Int) (p1 :: (p2 :: ([] : List (Int × (Int × (ByteArray × Unit))))))).1).2).2).1) ((((((Go.Inc.dictStep ((Go.Inc.dictNew (4 : Int)).1) (Go.Inc.num' (0 : Int)) (7 : Int) (p1 :: (p2 :: ([] : List (Int × (Int × (ByteArray × Unit))))))).1).2).2).2).1) p0 (((List.length p0) : Nat) : Int) (0 : Int)
            else
              none
            else
              none
        else
          none
  else
    none
theorem loops5 (N : Nat) : loopsOk C5 (L5 N) Go.Proofs.Tryd.f5 := ⟨trivial, ⟨⟨trivial, ⟨⟨trivial, trivial⟩, trivial⟩⟩, ⟨⟨trivial, ⟨⟨trivial, trivial⟩, trivial⟩⟩, ⟨trivial, ⟨trivial, ⟨⟨trivial, ⟨loopOk_of H5_8 N (fun K n v => W5_8 N (fun b4a b4ba b4bba b5a b5ba b5bba b7a b7ba b7bba b7bbba b7bbbba b7bbbbba => K (.exit 0) (encH [(8, (.bx 4 0)), (9, (.pr (.i .i64) (.pr (.i .i64) (.pr .st .un)))), (10, (.bx 5 0)), (11, (.pr (.i .i64) (.pr (.i .i64) (.pr .st .un)))), (14, (.bx 7 0)), (15, (.pr (.i .i64) (.pr (.i .i64) (.pr (.i .i64) (.pr .st (.pr (.i .i64) (.pr (.sl (.pr (.int .i64) (.pr (.int .i64) (.pr .str .un))) .no) .un)))))))] ((), ((b4a, (b4ba, (b4bba, ()))), ((), ((b5a, (b5ba, (b5bba, ()))), ((), ((b7a, (b7ba, (b7bba, (b7bbba, (b7bbbba, (b7bbbbba, ())))))), ())))))))) n v.2.1.1 v.2.1.2.1 v.2.1.2.2.1 v.2.2.2.1.1 v.2.2.2.1.2.1 v.2.2.2.1.2.2.1 v.2.2.2.2.2.1.1 v.2.2.2.2.2.1.2.1 v.2.2.2.2.2.1.2.2.1 v.2.2.2.2.2.1.2.2.2.1 v.2.2.2.2.2.1.2.2.2.2.1 v.2.2.2.2.2.1.2.2.2.2.2.1 v.2.2.2.2.2.2.1 v.2.2.2.2.2.2.2.1 v.2.2.2.2.2.2.2.2.1) (by kernel_rfl) (fun K v => by kernel_rfl) (fun K v => by kernel_rfl) (fun K n v => by kernel_rfl), ⟨trivial, ⟨⟨trivial, trivial⟩, ⟨⟨trivial, ⟨⟨trivial, ⟨trivial, trivial⟩⟩, ⟨trivial, ⟨trivial, ⟨trivial, trivial⟩⟩⟩⟩⟩, trivial⟩⟩⟩⟩⟩, ⟨trivial, ⟨trivial, ⟨trivial, ⟨trivial, trivial⟩⟩⟩⟩⟩⟩⟩⟩⟩⟩
theorem runs5 (N : Nat) (x : S5.ta.den) : run C5 S5 (L5 N) Go.Proofs.Tryd.f5 x = F5 N x.1 x.2.1 x.2.2.1 := by kernel_rfl

end Go.L17
