/- The walks of package pair and its statements. Printed by a program of this session. -/
import Derived.Test.YtkkkjcpfahhhpaaDoorW0
set_option linter.unusedVariables false
set_option maxRecDepth 100000
namespace Go.L12
open Go Go.Abs Go.Inc

/-! ### 52: incognito/value.IsWord -/
def W52_4 {β : Type} (N : Nat) (x0 : Bool → Option β) (x1 : Unit → Option β) : Nat → ByteArray → Int → Int → Option β
  | 0, _, _, _ => none
  | n + 1, t0, t23, t24 =>
  bif decide (t24 < t23) then
    bif ((decide ((0 : Int) ≤ t24)) && (decide (t24 < (((ByteArray.size t0) : Nat) : Int)))) then
      bif decide ((((UInt8.toNat (List.getD (Array.toList (ByteArray.data t0)) (Int.toNat t24) (0 : UInt8))) : Nat) : Int) ≥ (97 : Int)) then
        bif decide ((((UInt8.toNat (List.getD (Array.toList (ByteArray.data t0)) (Int.toNat t24) (0 : UInt8))) : Nat) : Int) ≤ (122 : Int)) then
          W52_4 N x0 x1 n t0 t23 (Go.IntKind.wrap .i64 (t24 + (1 : Int)))
        else
          bif decide ((((UInt8.toNat (List.getD (Array.toList (ByteArray.data t0)) (Int.toNat t24) (0 : UInt8))) : Nat) : Int) ≥ (48 : Int)) then
            bif decide ((((UInt8.toNat (List.getD (Array.toList (ByteArray.data t0)) (Int.toNat t24) (0 : UInt8))) : Nat) : Int) ≤ (57 : Int)) then
              W52_4 N x0 x1 n t0 t23 (Go.IntKind.wrap .i64 (t24 + (1 : Int)))
            else
              bif (!((((UInt8.toNat (List.getD (Array.toList (ByteArray.data t0)) (Int.toNat t24) (0 : UInt8))) : Nat) : Int) == (95 : Int))) then
              x0 false
            else
              W52_4 N x0 x1 n t0 t23 (Go.IntKind.wrap .i64 (t24 + (1 : Int)))
          else
            bif (!((((UInt8.toNat (List.getD (Array.toList (ByteArray.data t0)) (Int.toNat t24) (0 : UInt8))) : Nat) : Int) == (95 : Int))) then
              x0 false
            else
              W52_4 N x0 x1 n t0 t23 (Go.IntKind.wrap .i64 (t24 + (1 : Int)))
      else
        bif decide ((((UInt8.toNat (List.getD (Array.toList (ByteArray.data t0)) (Int.toNat t24) (0 : UInt8))) : Nat) : Int) ≥ (48 : Int)) then
          bif decide ((((UInt8.toNat (List.getD (Array.toList (ByteArray.data t0)) (Int.toNat t24) (0 : UInt8))) : Nat) : Int) ≤ (57 : Int)) then
            W52_4 N x0 x1 n t0 t23 (Go.IntKind.wrap .i64 (t24 + (1 : Int)))
          else
            bif (!((((UInt8.toNat (List.getD (Array.toList (ByteArray.data t0)) (Int.toNat t24) (0 : UInt8))) : Nat) : Int) == (95 : Int))) then
              x0 false
            else
              W52_4 N x0 x1 n t0 t23 (Go.IntKind.wrap .i64 (t24 + (1 : Int)))
        else
          bif (!((((UInt8.toNat (List.getD (Array.toList (ByteArray.data t0)) (Int.toNat t24) (0 : UInt8))) : Nat) : Int) == (95 : Int))) then
            x0 false
          else
            W52_4 N x0 x1 n t0 t23 (Go.IntKind.wrap .i64 (t24 + (1 : Int)))
    else
      none
  else
    x1 ()
def L52 (N : Nat) : Loops (Bool × Unit) := fun k ρ K => match Nat.beq k 4 with
  | true => (match adH ρ H52_4.hd with
    | some v => W52_4 N (fun t2 => K .ret (encH [(4, .bo)] (t2, ()))) (fun _ => K (.exit 0) (encH [] ())) N v.1 v.2.1 v.2.2.1
    | none => none)
  | false => none
def F52 (N : Nat) (p0 : ByteArray) : Option (Bool × Unit) :=
  bif ((ByteArray.toList p0) == (ByteArray.toList (strL []))) then
    some (false, ())
  else
    bif decide ((((ByteArray.size p0) : Nat) : Int) > (40 : Int)) then
      some (false, ())
    else
      bif ((decide ((0 : Int) ≤ (0 : Int))) && (decide ((0 : Int) < (((ByteArray.size p0) : Nat) : Int)))) then
        bif decide ((((UInt8.toNat (List.getD (Array.toList (ByteArray.data p0)) (Int.toNat (0 : Int)) (0 : UInt8))) : Nat) : Int) < (97 : Int)) then
          some (false, ())
        else
          bif ((decide ((0 : Int) ≤ (0 : Int))) && (decide ((0 : Int) < (((ByteArray.size p0) : Nat) : Int)))) then
            bif decide ((((UInt8.toNat (List.getD (Array.toList (ByteArray.data p0)) (Int.toNat (0 : Int)) (0 : UInt8))) : Nat) : Int) > (122 : Int)) then
              some (false, ())
            else
              W52_4 N
              (fun t2 =>
                some (t2, ()))
              (fun (_ : Unit) =>
                some (true, ()))
              N p0 (((ByteArray.size p0) : Nat) : Int) (0 : Int)
          else
            none
      else
        none
theorem loops52 (N : Nat) : loopsOk C52 (L52 N) Go.Proofs.Tryd.f52 := ⟨trivial, ⟨⟨trivial, ⟨⟨trivial, trivial⟩, trivial⟩⟩, ⟨⟨trivial, ⟨loopOk_of H52_4 N (fun K n v => W52_4 N (fun t2 => K .ret (encH [(4, .bo)] (t2, ()))) (fun _ => K (.exit 0) (encH [] ())) n v.1 v.2.1 v.2.2.1) (by kernel_rfl) (fun K v => by kernel_rfl) (fun K v => by kernel_rfl) (fun K n v => by kernel_rfl), ⟨trivial, ⟨⟨trivial, trivial⟩, ⟨⟨trivial, ⟨trivial, ⟨trivial, ⟨⟨trivial, trivial⟩, trivial⟩⟩⟩⟩, trivial⟩⟩⟩⟩⟩, ⟨trivial, trivial⟩⟩⟩⟩
theorem runs52 (N : Nat) (x : S52.ta.den) : run C52 S52 (L52 N) Go.Proofs.Tryd.f52 x = F52 N x.1 := by kernel_rfl

/-! ### 54: incognito/sign.find$1 -/
def L54 (_ : Nat) : Loops (HS.den X54.hout) := fun _ _ _ => none
def F54 (N : Nat) (t0a : Int) (t0ba : Int) (t0bba : ByteArray) (t0bbba : Int) (t0bbbba : Bool) (b1000a : Int) (b1001a : Int) : Option (HS.den X54.hout) :=
  bif (t0a == b1000a) then
    some ((t0ba == b1001a), ((b1000a, ()), ((b1001a, ()), ())))
  else
    some (false, ((b1000a, ()), ((b1001a, ()), ())))
theorem loops54 (N : Nat) : loopsOk C54 (L54 N) Go.Proofs.Tryd.f54 := ⟨trivial, ⟨trivial, trivial⟩⟩
theorem runs54 (N : Nat) (x : HS.den X54.hin) : runX C54 X54 (L54 N) Go.Proofs.Tryd.f54 x = F54 N x.1.1 x.1.2.1 x.1.2.2.1 x.1.2.2.2.1 x.1.2.2.2.2.1 x.2.2.2.1.1 x.2.2.2.2.1.1 := by kernel_rfl

/-! ### 45: incognito/sign.find -/
def L45 (_ : Nat) : Loops ((Int × Int × ByteArray × Int × Bool × Unit) × Bool × Unit) := fun _ _ _ => none
def F45 (N : Nat) (p0 : Int) (p1 : Int) : Option ((Int × Int × ByteArray × Int × Bool × Unit) × Bool × Unit) :=
  bif decide ((Go.Inc.idxR (((1 : Int), ((1 : Int), ((strL [118]), ((-(1 : Int)), (false, ()))))) :: (((1 : Int), ((2 : Int), ((strL []), ((2 : Int), (true, ()))))) :: (((2 : Int), ((1 : Int), ((strL [118]), ((-(1 : Int)), (false, ()))))) :: (((2 : Int), ((2 : Int), ((strL []), ((2 : Int), (true, ()))))) :: (((2 : Int), ((3 : Int), ((strL [118, 118]), ((6 : Int), (false, ()))))) :: (((3 : Int), ((4 : Int), ((strL [118]), ((-(1 : Int)), (false, ()))))) :: (((3 : Int), ((5 : Int), ((strL [118]), ((-(1 : Int)), (false, ()))))) :: (((3 : Int), ((6 : Int), ((strL [118]), ((6 : Int), (false, ()))))) :: (((4 : Int), ((7 : Int), ((strL [102, 118]), ((-(1 : Int)), (false, ()))))) :: (((4 : Int), ((8 : Int), ((strL [102]), ((2 : Int), (true, ()))))) :: (((4 : Int), ((5 : Int), ((strL [102]), ((-(1 : Int)), (false, ()))))) :: (((5 : Int), ((9 : Int), ((strL [118]), ((-(1 : Int)), (false, ()))))) :: (((5 : Int), ((10 : Int), ((strL []), ((2 : Int), (true, ()))))) :: (((6 : Int), ((9 : Int), ((strL [118]), ((-(1 : Int)), (false, ()))))) :: (((6 : Int), ((10 : Int), ((strL []), ((2 : Int), (true, ()))))) :: (((7 : Int), ((11 : Int), ((strL []), ((6 : Int), (false, ()))))) :: (((7 : Int), ((12 : Int), ((strL []), ((6 : Int), (false, ()))))) :: (((8 : Int), ((4 : Int), ((strL [110]), ((-(1 : Int)), (false, ()))))) :: (((8 : Int), ((2 : Int), ((strL []), ((5 : Int), (false, ()))))) :: (((9 : Int), ((1 : Int), ((strL [111]), ((-(1 : Int)), (false, ()))))) :: (((9 : Int), ((2 : Int), ((strL []), ((4 : Int), (true, ()))))) :: (((10 : Int), ((7 : Int), ((strL [111, 118]), ((-(1 : Int)), (false, ()))))) :: (((10 : Int), ((5 : Int), ((strL [111]), ((-(1 : Int)), (false, ()))))) :: (((10 : Int), ((13 : Int), ((strL [111, 111]), ((99 : Int), (false, ()))))) :: ([] : List (Int × (Int × (ByteArray × (Int × (Bool × Unit)))))))))))))))))))))))))))))) p0 p1) < (0 : Int)) then
    some (((0 : Int), ((0 : Int), (ByteArray.empty, ((0 : Int), (false, ()))))), (false, ()))
  else
    bif ((decide ((0 : Int) ≤ (Go.Inc.idxR (((1 : Int), ((1 : Int), ((strL [118]), ((-(1 : Int)), (false, ()))))) :: (((1 : Int), ((2 : Int), ((strL []), ((2 : Int), (true, ()))))) :: (((2 : Int), ((1 : Int), ((strL [118]), ((-(1 : Int)), (false, ()))))) :: (((2 : Int), ((2 : Int), ((strL []), ((2 : Int), (true, ()))))) :: (((2 : Int), ((3 : Int), ((strL [118, 118]), ((6 : Int), (false, ()))))) :: (((3 : Int), ((4 : Int), ((strL [118]), ((-(1 : Int)), (false, ()))))) :: (((3 : Int), ((5 : Int), ((strL [118]), ((-(1 : Int)), (false, ()))))) :: (((3 : Int), ((6 : Int), ((strL [118]), ((6 : Int), (false, ()))))) :: (((4 : Int), ((7 : Int), ((strL [102, 118]), ((-(1 : Int)), (false, ()))))) :: (((4 : Int), ((8 : Int), ((strL [102]), ((2 : Int), (true, ()))))) :: (((4 : Int), ((5 : Int), ((strL [102]), ((-(1 : Int)), (false, ()))))) :: (((5 : Int), ((9 : Int), ((strL [118]), ((-(1 : Int)), (false, ()))))) :: (((5 : Int), ((10 : Int), ((strL []), ((2 : Int), (true, ()))))) :: (((6 : Int), ((9 : Int), ((strL [118]), ((-(1 : Int)), (false, ()))))) :: (((6 : Int), ((10 : Int), ((strL []), ((2 : Int), (true, ()))))) :: (((7 : Int), ((11 : Int), ((strL []), ((6 : Int), (false, ()))))) :: (((7 : Int), ((12 : Int), ((strL []), ((6 : Int), (false, ()))))) :: (((8 : Int), ((4 : Int), ((strL [110]), ((-(1 : Int)), (false, ()))))) :: (((8 : Int), ((2 : Int), ((strL []), ((5 : Int), (false, ()))))) :: (((9 : Int), ((1 : Int), ((strL [111]), ((-(1 : Int)), (false, ()))))) :: (((9 : Int), ((2 : Int), ((strL []), ((4 : Int), (true, ()))))) :: (((10 : Int), ((7 : Int), ((strL [111, 118]), ((-(1 : Int)), (false, ()))))) :: (((10 : Int), ((5 : Int), ((strL [111]), ((-(1 : Int)), (false, ()))))) :: (((10 : Int), ((13 : Int), ((strL [111, 111]), ((99 : Int), (false, ()))))) :: ([] : List (Int × (Int × (ByteArray × (Int × (Bool × Unit)))))))))))))))))))))))))))))) p0 p1))) && (decide ((Go.Inc.idxR (((1 : Int), ((1 : Int), ((strL [118]), ((-(1 : Int)), (false, ()))))) :: (((1 : Int), ((2 : Int), ((strL []), ((2 : Int), (true, ()))))) :: (((2 : Int), ((1 : Int), ((strL [118]), ((-(1 : Int)), (false, ()))))) :: (((2 : Int), ((2 : Int), ((strL []), ((2 : Int), (true, ()))))) :: (((2 : Int), ((3 : Int), ((strL [118, 118]), ((6 : Int), (false, ()))))) :: (((3 : Int), ((4 : Int), ((strL [118]), ((-(1 : Int)), (false, ()))))) :: (((3 : Int), ((5 : Int), ((strL [118]), ((-(1 : Int)), (false, ()))))) :: (((3 : Int), ((6 : Int), ((strL [118]), ((6 : Int), (false, ()))))) :: (((4 : Int), ((7 : Int), ((strL [102, 118]), ((-(1 : Int)), (false, ()))))) :: (((4 : Int), ((8 : Int), ((strL [102]), ((2 : Int), (true, ()))))) :: (((4 : Int), ((5 : Int), ((strL [102]), ((-(1 : Int)), (false, ()))))) :: (((5 : Int), ((9 : Int), ((strL [118]), ((-(1 : Int)), (false, ()))))) :: (((5 : Int), ((10 : Int), ((strL []), ((2 : Int), (true, ()))))) :: (((6 : Int), ((9 : Int), ((strL [118]), ((-(1 : Int)), (false, ()))))) :: (((6 : Int), ((10 : Int), ((strL []), ((2 : Int), (true, ()))))) :: (((7 : Int), ((11 : Int), ((strL []), ((6 : Int), (false, ()))))) :: (((7 : Int), ((12 : Int), ((strL []), ((6 : Int), (false, ()))))) :: (((8 : Int), ((4 : Int), ((strL [110]), ((-(1 : Int)), (false, ()))))) :: (((8 : Int), ((2 : Int), ((strL []), ((5 : Int), (false, ()))))) :: (((9 : Int), ((1 : Int), ((strL [111]), ((-(1 : Int)), (false, ()))))) :: (((9 : Int), ((2 : Int), ((strL []), ((4 : Int), (true, ()))))) :: (((10 : Int), ((7 : Int), ((strL [111, 118]), ((-(1 : Int)), (false, ()))))) :: (((10 : Int), ((5 : Int), ((strL [111]), ((-(1 : Int)), (false, ()))))) :: (((10 : Int), ((13 : Int), ((strL [111, 111]), ((99 : Int), (false, ()))))) :: ([] : List (Int × (Int × (ByteArray × (Int × (Bool × Unit)))))))))))))))))))))))))))))) p0 p1) < (((List.length (((1 : Int), ((1 : Int), ((strL [118]), ((-(1 : Int)), (false, ()))))) :: (((1 : Int), ((2 : Int), ((strL []), ((2 : Int), (true, ()))))) :: (((2 : Int), ((1 : Int), ((strL [118]), ((-(1 : Int)), (false, ()))))) :: (((2 : Int), ((2 : Int), ((strL []), ((2 : Int), (true, ()))))) :: (((2 : Int), ((3 : Int), ((strL [118, 118]), ((6 : Int), (false, ()))))) :: (((3 : Int), ((4 : Int), ((strL [118]), ((-(1 : Int)), (false, ()))))) :: (((3 : Int), ((5 : Int), ((strL [118]), ((-(1 : Int)), (false, ()))))) :: (((3 : Int), ((6 : Int), ((strL [118]), ((6 : Int), (false, ()))))) :: (((4 : Int), ((7 : Int), ((strL [102, 118]), ((-(1 : Int)), (false, ()))))) :: (((4 : Int), ((8 : Int), ((strL [102]), ((2 : Int), (true, ()))))) :: (((4 : Int), ((5 : Int), ((strL [102]), ((-(1 : Int)), (false, ()))))) :: (((5 : Int), ((9 : Int), ((strL [118]), ((-(1 : Int)), (false, ()))))) :: (((5 : Int), ((10 : Int), ((strL []), ((2 : Int), (true, ()))))) :: (((6 : Int), ((9 : Int), ((strL [118]), ((-(1 : Int)), (false, ()))))) :: (((6 : Int), ((10 : Int), ((strL []), ((2 : Int), (true, ()))))) :: (((7 : Int), ((11 : Int), ((strL []), ((6 : Int), (false, ()))))) :: (((7 : Int), ((12 : Int), ((strL []), ((6 : Int), (false, ()))))) :: (((8 : Int), ((4 : Int), ((strL [110]), ((-(1 : Int)), (false, ()))))) :: (((8 : Int), ((2 : Int), ((strL []), ((5 : Int), (false, ()))))) :: (((9 : Int), ((1 : Int), ((strL [111]), ((-(1 : Int)), (false, ()))))) :: (((9 : Int), ((2 : Int), ((strL []), ((4 : Int), (true, ()))))) :: (((10 : Int), ((7 : Int), ((strL [111, 118]), ((-(1 : Int)), (false, ()))))) :: (((10 : Int), ((5 : Int), ((strL [111]), ((-(1 : Int)), (false, ()))))) :: (((10 : Int), ((13 : Int), ((strL [111, 111]), ((99 : Int), (false, ()))))) :: ([] : List (Int × (Int × (ByteArray × (Int × (Bool × Unit))))))))))))))))))))))))))))))) : Nat) : Int)))) then
      some ((List.getD (((1 : Int), ((1 : Int), ((strL [118]), ((-(1 : Int)), (false, ()))))) :: (((1 : Int), ((2 : Int), ((strL []), ((2 : Int), (true, ()))))) :: (((2 : Int), ((1 : Int), ((strL [118]), ((-(1 : Int)), (false, ()))))) :: (((2 : Int), ((2 : Int), ((strL []), ((2 : Int), (true, ()))))) :: (((2 : Int), ((3 : Int), ((strL [118, 118]), ((6 : Int), (false, ()))))) :: (((3 : Int), ((4 : Int), ((strL [118]), ((-(1 : Int)), (false, ()))))) :: (((3 : Int), ((5 : Int), ((strL [118]), ((-(1 : Int)), (false, ()))))) :: (((3 : Int), ((6 : Int), ((strL [118]), ((6 : Int), (false, ()))))) :: (((4 : Int), ((7 : Int), ((strL [102, 118]), ((-(1 : Int)), (false, ()))))) :: (((4 : Int), ((8 : Int), ((strL [102]), ((2 : Int), (true, ()))))) :: (((4 : Int), ((5 : Int), ((strL [102]), ((-(1 : Int)), (false, ()))))) :: (((5 : Int), ((9 : Int), ((strL [118]), ((-(1 : Int)), (false, ()))))) :: (((5 : Int), ((10 : Int), ((strL []), ((2 : Int), (true, ()))))) :: (((6 : Int), ((9 : Int), ((strL [118]), ((-(1 : Int)), (false, ()))))) :: (((6 : Int), ((10 : Int), ((strL []), ((2 : Int), (true, ()))))) :: (((7 : Int), ((11 : Int), ((strL []), ((6 : Int), (false, ()))))) :: (((7 : Int), ((12 : Int), ((strL []), ((6 : Int), (false, ()))))) :: (((8 : Int), ((4 : Int), ((strL [110]), ((-(1 : Int)), (false, ()))))) :: (((8 : Int), ((2 : Int), ((strL []), ((5 : Int), (false, ()))))) :: (((9 : Int), ((1 : Int), ((strL [111]), ((-(1 : Int)), (false, ()))))) :: (((9 : Int), ((2 : Int), ((strL []), ((4 : Int), (true, ()))))) :: (((10 : Int), ((7 : Int), ((strL [111, 118]), ((-(1 : Int)), (false, ()))))) :: (((10 : Int), ((5 : Int), ((strL [111]), ((-(1 : Int)), (false, ()))))) :: (((10 : Int), ((13 : Int), ((strL [111, 111]), ((99 : Int), (false, ()))))) :: ([] : List (Int × (Int × (ByteArray × (Int × (Bool × Unit)))))))))))))))))))))))))))))) (Int.toNat (Go.Inc.idxR (((1 : Int), ((1 : Int), ((strL [118]), ((-(1 : Int)), (false, ()))))) :: (((1 : Int), ((2 : Int), ((strL []), ((2 : Int), (true, ()))))) :: (((2 : Int), ((1 : Int), ((strL [118]), ((-(1 : Int)), (false, ()))))) :: (((2 : Int), ((2 : Int), ((strL []), ((2 : Int), (true, ()))))) :: (((2 : Int), ((3 : Int), ((strL [118, 118]), ((6 : Int), (false, ()))))) :: (((3 : Int), ((4 : Int), ((strL [118]), ((-(1 : Int)), (false, ()))))) :: (((3 : Int), ((5 : Int), ((strL [118]), ((-(1 : Int)), (false, ()))))) :: (((3 : Int), ((6 : Int), ((strL [118]), ((6 : Int), (false, ()))))) :: (((4 : Int), ((7 : Int), ((strL [102, 118]), ((-(1 : Int)), (false, ()))))) :: (((4 : Int), ((8 : Int), ((strL [102]), ((2 : Int), (true, ()))))) :: (((4 : Int), ((5 : Int), ((strL [102]), ((-(1 : Int)), (false, ()))))) :: (((5 : Int), ((9 : Int), ((strL [118]), ((-(1 : Int)), (false, ()))))) :: (((5 : Int), ((10 : Int), ((strL []), ((2 : Int), (true, ()))))) :: (((6 : Int), ((9 : Int), ((strL [118]), ((-(1 : Int)), (false, ()))))) :: (((6 : Int), ((10 : Int), ((strL []), ((2 : Int), (true, ()))))) :: (((7 : Int), ((11 : Int), ((strL []), ((6 : Int), (false, ()))))) :: (((7 : Int), ((12 : Int), ((strL []), ((6 : Int), (false, ()))))) :: (((8 : Int), ((4 : Int), ((strL [110]), ((-(1 : Int)), (false, ()))))) :: (((8 : Int), ((2 : Int), ((strL []), ((5 : Int), (false, ()))))) :: (((9 : Int), ((1 : Int), ((strL [111]), ((-(1 : Int)), (false, ()))))) :: (((9 : Int), ((2 : Int), ((strL []), ((4 : Int), (true, ()))))) :: (((10 : Int), ((7 : Int), ((strL [111, 118]), ((-(1 : Int)), (false, ()))))) :: (((10 : Int), ((5 : Int), ((strL [111]), ((-(1 : Int)), (false, ()))))) :: (((10 : Int), ((13 : Int), ((strL [111, 111]), ((99 : Int), (false, ()))))) :: ([] : List (Int × (Int × (ByteArray × (Int × (Bool × Unit)))))))))))))))))))))))))))))) p0 p1)) ((0 : Int), ((0 : Int), (ByteArray.empty, ((0 : Int), (false, ())))))), (true, ()))
    else
      none
theorem loops45 (N : Nat) : loopsOk C45 (L45 N) Go.Proofs.Tryd.f45 := ⟨trivial, ⟨trivial, ⟨trivial, ⟨⟨trivial, ⟨⟨trivial, trivial⟩, trivial⟩⟩, ⟨trivial, trivial⟩⟩⟩⟩⟩
theorem runs45 (N : Nat) (x : S45.ta.den) : run C45 S45 (L45 N) Go.Proofs.Tryd.f45 x = F45 N x.1 x.2.1 := by kernel_rfl

/-! ### 51: incognito/sign.domain -/
def L51 (_ : Nat) : Loops (Int × Unit) := fun _ _ _ => none
def F51 (N : Nat) (p0 : Int) : Option (Int × Unit) :=
  bif (p0 == (118 : Int)) then
    some ((2 : Int), ())
  else
    bif (p0 == (102 : Int)) then
      some ((3 : Int), ())
    else
      bif (p0 == (111 : Int)) then
        some ((4 : Int), ())
      else
        some ((5 : Int), ())
theorem loops51 (N : Nat) : loopsOk C51 (L51 N) Go.Proofs.Tryd.f51 := ⟨trivial, ⟨⟨trivial, ⟨trivial, ⟨⟨trivial, trivial⟩, ⟨trivial, ⟨⟨trivial, trivial⟩, ⟨trivial, ⟨⟨trivial, trivial⟩, trivial⟩⟩⟩⟩⟩⟩⟩, ⟨trivial, trivial⟩⟩⟩
theorem runs51 (N : Nat) (x : S51.ta.den) : run C51 S51 (L51 N) Go.Proofs.Tryd.f51 x = F51 N x.1 := by kernel_rfl

/-! ### 22: slices.Contains[[]int,int] -/
def L22 (_ : Nat) : Loops (Bool × Unit) := fun _ _ _ => none
def F22 (N : Nat) (p0 : List Int) (p1 : Int) : Option (Bool × Unit) :=
  bif (Go.Inc.okIdxI p0 p1) then
    some (decide ((Go.Inc.idxI p0 p1) ≥ (0 : Int)), ())
  else
    none
theorem loops22 (N : Nat) : loopsOk C22 (L22 N) Go.Proofs.Tryd.f22 := ⟨trivial, ⟨trivial, trivial⟩⟩
theorem runs22 (N : Nat) (x : S22.ta.den) : run C22 S22 (L22 N) Go.Proofs.Tryd.f22 x = F22 N x.1 x.2.1 := by kernel_rfl

/-! ### 8: incognito/incognitolaw12.wakes -/
def L8 (_ : Nat) : Loops (Bool × Unit) := fun _ _ _ => none
def F8 (N : Nat) : Option (Bool × Unit) :=
  some (((((Go.Inc.pairCheck (((0 : Int), (((2 : Int), ((0 : Int), ((strL [97]), ()))), ((2 : Int), ((0 : Int), (((0 : Int), ((0 : Int), (ByteArray.empty, ()))), ((0 : Int), (([] : List (Int × (Int × (ByteArray × Unit)))), (([] : List (Int × (Int × (ByteArray × Unit)))), (false, (ByteArray.empty, ())))))))))) :: ([] : List (Int × ((Int × (Int × (ByteArray × Unit))) × (Int × (Int × ((Int × (Int × (ByteArray × Unit))) × (Int × ((List (Int × (Int × (ByteArray × Unit)))) × ((List (Int × (Int × (ByteArray × Unit)))) × (Bool × (ByteArray × Unit))))))))))))).1) == (4 : Int)) && (((((Go.Inc.pairCheck (((0 : Int), (((2 : Int), ((0 : Int), ((strL [97]), ()))), ((2 : Int), ((0 : Int), (((0 : Int), ((0 : Int), (ByteArray.empty, ()))), ((0 : Int), (([] : List (Int × (Int × (ByteArray × Unit)))), (([] : List (Int × (Int × (ByteArray × Unit)))), (false, (ByteArray.empty, ())))))))))) :: ([] : List (Int × ((Int × (Int × (ByteArray × Unit))) × (Int × (Int × ((Int × (Int × (ByteArray × Unit))) × (Int × ((List (Int × (Int × (ByteArray × Unit)))) × ((List (Int × (Int × (ByteArray × Unit)))) × (Bool × (ByteArray × Unit))))))))))))).2).1) == (1 : Int)) && true)), ())
theorem loops8 (N : Nat) : loopsOk C8 (L8 N) Go.Proofs.Tryd.f8 := ⟨trivial, ⟨trivial, ⟨trivial, ⟨trivial, trivial⟩⟩⟩⟩
theorem runs8 (N : Nat) (x : S8.ta.den) : run C8 S8 (L8 N) Go.Proofs.Tryd.f8 x = F8 N := by kernel_rfl

/-! ### 37: incognito/incognitoref07.Right -/
def L37 (_ : Nat) : Loops (Bool × Unit) := fun _ _ _ => none
def F37 (N : Nat) (p0 : Int × Int × ByteArray × Unit) : Option (Bool × Unit) :=
  bif (p0.1 == (0 : Int)) then
    bif (p0.2.1 == (0 : Int)) then
      some (((ByteArray.toList p0.2.2.1) == (ByteArray.toList (strL []))), ())
    else
      some (false, ())
  else
    bif (p0.1 == (1 : Int)) then
      some (((ByteArray.toList p0.2.2.1) == (ByteArray.toList (strL []))), ())
    else
      bif (p0.1 == (2 : Int)) then
        bif (p0.2.1 == (0 : Int)) then
          bif (Go.Inc.okS p0.2.2.1) then
            some ((Go.Inc.isWord p0.2.2.1), ())
          else
            none
        else
          some (false, ())
      else
        bif (p0.1 == (3 : Int)) then
          bif (p0.2.1 == (0 : Int)) then
            some (((ByteArray.toList p0.2.2.1) == (ByteArray.toList (strL []))), ())
          else
            bif (p0.2.1 == (1 : Int)) then
              some (((ByteArray.toList p0.2.2.1) == (ByteArray.toList (strL []))), ())
            else
              some (false, ())
        else
          some (false, ())
theorem loops37 (N : Nat) : loopsOk C37 (L37 N) Go.Proofs.Tryd.f37 := ⟨trivial, ⟨⟨trivial, ⟨trivial, ⟨⟨trivial, trivial⟩, ⟨trivial, ⟨⟨trivial, trivial⟩, ⟨trivial, ⟨⟨trivial, trivial⟩, ⟨trivial, ⟨⟨trivial, trivial⟩, trivial⟩⟩⟩⟩⟩⟩⟩⟩⟩, ⟨trivial, trivial⟩⟩⟩
theorem runs37 (N : Nat) (x : S37.ta.den) : run C37 S37 (L37 N) Go.Proofs.Tryd.f37 x = F37 N x.1 := by kernel_rfl

/-! ### 48: incognito/incognitoref09.ModelName -/
def L48 (_ : Nat) : Loops (ByteArray × Unit) := fun _ _ _ => none
def F48 (N : Nat) (p0 : Int) : Option (ByteArray × Unit) :=
  bif (p0 == (1 : Int)) then
    some ((strL [114, 101, 103]), ())
  else
    bif (p0 == (2 : Int)) then
      some ((strL [99, 97, 115]), ())
    else
      bif (p0 == (3 : Int)) then
        some ((strL [115, 101, 116]), ())
      else
        bif (p0 == (4 : Int)) then
          some ((strL [109, 97, 112]), ())
        else
          bif (p0 == (5 : Int)) then
            some ((strL [102, 105, 102, 111]), ())
          else
            bif (p0 == (6 : Int)) then
              some ((strL [115, 116, 97, 99, 107]), ())
            else
              bif (p0 == (7 : Int)) then
              some ((strL [108, 111, 99, 107]), ())
            else
              bif (p0 == (8 : Int)) then
              some ((strL [99, 111, 117, 110, 116]), ())
            else
              bif (p0 == (9 : Int)) then
              some ((strL [109, 97, 120]), ())
            else
              bif (p0 == (10 : Int)) then
              some ((strL [111, 109, 97, 112]), ())
            else
              some ((strL []), ())
theorem loops48 (N : Nat) : loopsOk C48 (L48 N) Go.Proofs.Tryd.f48 := ⟨trivial, ⟨⟨trivial, ⟨trivial, ⟨⟨trivial, trivial⟩, ⟨trivial, ⟨⟨trivial, trivial⟩, ⟨trivial, ⟨⟨trivial, trivial⟩, ⟨trivial, ⟨⟨trivial, trivial⟩, ⟨trivial, ⟨⟨trivial, trivial⟩, ⟨trivial, ⟨⟨trivial, trivial⟩, ⟨trivial, ⟨⟨trivial, trivial⟩, ⟨trivial, ⟨⟨trivial, trivial⟩, ⟨trivial, ⟨⟨trivial, trivial⟩, ⟨trivial, ⟨⟨trivial, trivial⟩, trivial⟩⟩⟩⟩⟩⟩⟩⟩⟩⟩⟩⟩⟩⟩⟩⟩⟩⟩⟩⟩⟩, ⟨trivial, trivial⟩⟩⟩
theorem runs48 (N : Nat) (x : S48.ta.den) : run C48 S48 (L48 N) Go.Proofs.Tryd.f48 x = F48 N x.1 := by kernel_rfl

/-! ### 39: incognito/incognitoref09.Takes -/
def L39 (_ : Nat) : Loops (Bool × Unit) := fun _ _ _ => none
def F39 (N : Nat) (p0 : Int) (p1 : Int × Int × ByteArray × Unit) : Option (Bool × Unit) :=
  bif decide (p0 ≥ (0 : Int)) then
    bif decide (p0 ≤ (4 : Int)) then
      bif (Go.Inc.okV p1) then
        some ((Go.Inc.name p1), ())
      else
        none
    else
      bif (p0 == (5 : Int)) then
        bif (Go.Inc.okV p1) then
          bif (Go.Inc.right p1) then
            bif (p1.1 == (1 : Int)) then
              some (true, ())
            else
              bif (p0 == (6 : Int)) then
              bif (Go.Inc.okV p1) then
              bif (Go.Inc.right p1) then
              some ((p1.1 == (3 : Int)), ())
            else
              some (false, ())
            else
              none
            else
              some (false, ())
          else
            bif (p0 == (6 : Int)) then
              bif (Go.Inc.okV p1) then
              bif (Go.Inc.right p1) then
              some ((p1.1 == (3 : Int)), ())
            else
              some (false, ())
            else
              none
            else
              some (false, ())
        else
          none
      else
        bif (p0 == (6 : Int)) then
          bif (Go.Inc.okV p1) then
            bif (Go.Inc.right p1) then
              some ((p1.1 == (3 : Int)), ())
            else
              some (false, ())
          else
            none
        else
          some (false, ())
  else
    bif (p0 == (5 : Int)) then
      bif (Go.Inc.okV p1) then
        bif (Go.Inc.right p1) then
          bif (p1.1 == (1 : Int)) then
            some (true, ())
          else
            bif (p0 == (6 : Int)) then
              bif (Go.Inc.okV p1) then
              bif (Go.Inc.right p1) then
              some ((p1.1 == (3 : Int)), ())
            else
              some (false, ())
            else
              none
            else
              some (false, ())
        else
          bif (p0 == (6 : Int)) then
            bif (Go.Inc.okV p1) then
              bif (Go.Inc.right p1) then
              some ((p1.1 == (3 : Int)), ())
            else
              some (false, ())
            else
              none
          else
            some (false, ())
      else
        none
    else
      bif (p0 == (6 : Int)) then
        bif (Go.Inc.okV p1) then
          bif (Go.Inc.right p1) then
            some ((p1.1 == (3 : Int)), ())
          else
            some (false, ())
        else
          none
      else
        some (false, ())
theorem loops39 (N : Nat) : loopsOk C39 (L39 N) Go.Proofs.Tryd.f39 := ⟨trivial, ⟨⟨trivial, ⟨⟨trivial, trivial⟩, trivial⟩⟩, ⟨trivial, trivial⟩⟩⟩
theorem runs39 (N : Nat) (x : S39.ta.den) : run C39 S39 (L39 N) Go.Proofs.Tryd.f39 x = F39 N x.1 x.2.1 := by kernel_rfl

/-! ### 36: incognito/incognitoref09.Fits -/
def W36_5 {β : Type} (N : Nat) (x0 : Bool → Option β) (x1 : Unit → Option β) : Nat → (List (Int × Int × ByteArray × Unit)) → (List Int) → Int → Bool → Bool → Int → Option β
  | 0, _, _, _, _, _, _ => none
  | n + 1, t2, b7a, b7ba, b7bba, b7bbba, t8 =>
  bif decide (t8 < (((List.length t2) : Nat) : Int)) then
    bif ((decide ((0 : Int) ≤ t8)) && (decide (t8 < (((List.length b7a) : Nat) : Int)))) then
      bif ((decide ((0 : Int) ≤ t8)) && (decide (t8 < (((List.length t2) : Nat) : Int)))) then
        bif (Go.Inc.okT (List.getD b7a (Int.toNat t8) (0 : Int)) (List.getD t2 (Int.toNat t8) ((0 : Int), ((0 : Int), (ByteArray.empty, ()))))) then
          bif (!(Go.Inc.takes (List.getD b7a (Int.toNat t8) (0 : Int)) (List.getD t2 (Int.toNat t8) ((0 : Int), ((0 : Int), (ByteArray.empty, ())))))) then
            x0 false
          else
            W36_5 N x0 x1 n t2 b7a b7ba b7bba b7bbba (Go.IntKind.wrap .i64 (t8 + (1 : Int)))
        else
          none
      else
        none
    else
      none
  else
    x1 ()
def L36 (N : Nat) : Loops (Bool × Unit) := fun k ρ K => match Nat.beq k 5 with
  | true => (match adH ρ H36_5.hd with
    | some v => W36_5 N (fun t6 => K .ret (encH [(12, .bo)] (t6, ()))) (fun _ => K (.exit 0) (encH [] ())) N v.1 v.2.2.1.1 v.2.2.1.2.1 v.2.2.1.2.2.1 v.2.2.1.2.2.2.1 v.2.2.2.1
    | none => none)
  | false => none
def F36 (N : Nat) (p0 : Int) (p1 : Int) (p2 : List (Int × Int × ByteArray × Unit)) : Option (Bool × Unit) :=
  bif (!(((((Go.Inc.signRef p0 p1).2).2).2).1)) then
    some (false, ())
  else
    bif ((((List.length p2) : Nat) : Int) != (((List.length ((Go.Inc.signRef p0 p1).1)) : Nat) : Int)) then
      some (false, ())
    else
      W36_5 N
        (fun t6 =>
          some (t6, ()))
        (fun (_ : Unit) =>
          some (true, ()))
        N p2 ((Go.Inc.signRef p0 p1).1) (((Go.Inc.signRef p0 p1).2).1) ((((Go.Inc.signRef p0 p1).2).2).1) (((((Go.Inc.signRef p0 p1).2).2).2).1) (0 : Int)
theorem loops36 (N : Nat) : loopsOk C36 (L36 N) Go.Proofs.Tryd.f36 := ⟨trivial, ⟨trivial, ⟨⟨trivial, ⟨⟨trivial, trivial⟩, trivial⟩⟩, ⟨⟨trivial, ⟨loopOk_of H36_5 N (fun K n v => W36_5 N (fun t6 => K .ret (encH [(12, .bo)] (t6, ()))) (fun _ => K (.exit 0) (encH [] ())) n v.1 v.2.2.1.1 v.2.2.1.2.1 v.2.2.1.2.2.1 v.2.2.1.2.2.2.1 v.2.2.2.1) (by kernel_rfl) (fun K v => by kernel_rfl) (fun K v => by kernel_rfl) (fun K n v => by kernel_rfl), ⟨⟨trivial, ⟨trivial, trivial⟩⟩, ⟨⟨trivial, ⟨⟨trivial, trivial⟩, trivial⟩⟩, trivial⟩⟩⟩⟩, ⟨trivial, trivial⟩⟩⟩⟩⟩
theorem runs36 (N : Nat) (x : S36.ta.den) : run C36 S36 (L36 N) Go.Proofs.Tryd.f36 x = F36 N x.1 x.2.1 x.2.2.1 := by kernel_rfl

/-! ### 29: incognito/incognitoref10.Right -/
def W29_5 {β : Type} (N : Nat) (x0 : Bool → Option β) (x1 : Int → Int → Int → ByteArray → Int → Int → Int → Int → ByteArray → Int → (List (Int × Int × ByteArray × Unit)) → (List (Int × Int × ByteArray × Unit)) → Bool → ByteArray → Int → Int → ByteArray → Option β) : Nat → Int → Int → Int → ByteArray → Int → Int → Int → Int → ByteArray → Int → (List (Int × Int × ByteArray × Unit)) → (List (Int × Int × ByteArray × Unit)) → Bool → ByteArray → Int → Int → ByteArray → Int → Option β
  | 0, _, _, _, _, _, _, _, _, _, _, _, _, _, _, _, _, _, _ => none
  | n + 1, b1a, b1ba, b1bba, b1bbba, b1bbbba, b1bbbbba, b1bbbbbba, b1bbbbbbba, b1bbbbbbbba, b1bbbbbbbbba, b1bbbbbbbbbba, b1bbbbbbbbbbba, b1bbbbbbbbbbbba, b1bbbbbbbbbbbbba, b3a, b3ba, b3bba, t4 =>
  bif decide (t4 < (((ByteArray.size b1bbbbbbbbbbbbba) : Nat) : Int)) then
    bif ((decide ((0 : Int) ≤ t4)) && (decide (t4 < (((ByteArray.size b1bbbbbbbbbbbbba) : Nat) : Int)))) then
      bif ((((UInt8.toNat (List.getD (Array.toList (ByteArray.data b1bbbbbbbbbbbbba)) (Int.toNat t4) (0 : UInt8))) : Nat) : Int) == (10 : Int)) then
        x0 false
      else
        W29_5 N x0 x1 n b1a b1ba b1bba b1bbba b1bbbba b1bbbbba b1bbbbbba b1bbbbbbba b1bbbbbbbba b1bbbbbbbbba b1bbbbbbbbbba b1bbbbbbbbbbba b1bbbbbbbbbbbba b1bbbbbbbbbbbbba b3a b3ba b3bba (Go.IntKind.wrap .i64 (t4 + (1 : Int)))
    else
      none
  else
    x1 b1a b1ba b1bba b1bbba b1bbbba b1bbbbba b1bbbbbba b1bbbbbbba b1bbbbbbbba b1bbbbbbbbba b1bbbbbbbbbba b1bbbbbbbbbbba b1bbbbbbbbbbbba b1bbbbbbbbbbbbba b3a b3ba b3bba
def W29_14 {β : Type} (N : Nat) (x0 : Bool → Option β) (x3 : Int → Int → Int → ByteArray → Int → Int → Int → Int → ByteArray → Int → (List (Int × Int × ByteArray × Unit)) → (List (Int × Int × ByteArray × Unit)) → Bool → ByteArray → Option β) : Nat → Int → Int → Int → ByteArray → Int → Int → Int → Int → ByteArray → Int → (List (Int × Int × ByteArray × Unit)) → (List (Int × Int × ByteArray × Unit)) → Bool → ByteArray → Int → Option β
  | 0, _, _, _, _, _, _, _, _, _, _, _, _, _, _, _ => none
  | n + 1, b1a, b1ba, b1bba, b1bbba, b1bbbba, b1bbbbba, b1bbbbbba, b1bbbbbbba, b1bbbbbbbba, b1bbbbbbbbba, b1bbbbbbbbbba, b1bbbbbbbbbbba, b1bbbbbbbbbbbba, b1bbbbbbbbbbbbba, t5 =>
  bif decide (t5 < (((List.length b1bbbbbbbbbbba) : Nat) : Int)) then
    bif ((decide ((0 : Int) ≤ t5)) && (decide (t5 < (((List.length b1bbbbbbbbbbba) : Nat) : Int)))) then
      bif (Go.Inc.okV (List.getD b1bbbbbbbbbbba (Int.toNat t5) ((0 : Int), ((0 : Int), (ByteArray.empty, ()))))) then
        bif (!(Go.Inc.right (List.getD b1bbbbbbbbbbba (Int.toNat t5) ((0 : Int), ((0 : Int), (ByteArray.empty, ())))))) then
          x0 false
        else
          W29_14 N x0 x3 n b1a b1ba b1bba b1bbba b1bbbba b1bbbbba b1bbbbbba b1bbbbbbba b1bbbbbbbba b1bbbbbbbbba b1bbbbbbbbbba b1bbbbbbbbbbba b1bbbbbbbbbbbba b1bbbbbbbbbbbbba (Go.IntKind.wrap .i64 (t5 + (1 : Int)))
      else
        none
    else
      none
  else
    x3 b1a b1ba b1bba b1bbba b1bbbba b1bbbbba b1bbbbbba b1bbbbbbba b1bbbbbbbba b1bbbbbbbbba b1bbbbbbbbbba b1bbbbbbbbbbba b1bbbbbbbbbbbba b1bbbbbbbbbbbbba
def L29 (N : Nat) : Loops (Bool × Unit) := fun k ρ K => match Nat.beq k 5 with
  | true => (match adH ρ H29_5.hd with
    | some v => W29_5 N (fun t2 => K .ret (encH [(4, .bo)] (t2, ()))) (fun b1a b1ba b1bba b1bbba b1bbbba b1bbbbba b1bbbbbba b1bbbbbbba b1bbbbbbbba b1bbbbbbbbba b1bbbbbbbbbba b1bbbbbbbbbbba b1bbbbbbbbbbbba b1bbbbbbbbbbbbba b3a b3ba b3bba => K (.exit 0) (encH [(2, (.bx 1 0)), (3, (.pr (.i .i64) (.pr (.i .i64) (.pr (.i .i64) (.pr .st (.pr (.i .i64) (.pr (.i .i64) (.pr (.i .i64) (.pr (.i .i64) (.pr .st (.pr (.i .i64) (.pr (.sl (.pr (.int .i64) (.pr (.int .i64) (.pr .str .un))) .no) (.pr (.sl (.pr (.int .i64) (.pr (.int .i64) (.pr .str .un))) .no) (.pr .bo (.pr .st .un))))))))))))))), (6, (.bx 3 0)), (7, (.pr (.i .i64) (.pr (.i .i64) (.pr .st .un))))] ((), ((b1a, (b1ba, (b1bba, (b1bbba, (b1bbbba, (b1bbbbba, (b1bbbbbba, (b1bbbbbbba, (b1bbbbbbbba, (b1bbbbbbbbba, (b1bbbbbbbbbba, (b1bbbbbbbbbbba, (b1bbbbbbbbbbbba, (b1bbbbbbbbbbbbba, ())))))))))))))), ((), ((b3a, (b3ba, (b3bba, ()))), ())))))) N v.2.1.1 v.2.1.2.1 v.2.1.2.2.1 v.2.1.2.2.2.1 v.2.1.2.2.2.2.1 v.2.1.2.2.2.2.2.1 v.2.1.2.2.2.2.2.2.1 v.2.1.2.2.2.2.2.2.2.1 v.2.1.2.2.2.2.2.2.2.2.1 v.2.1.2.2.2.2.2.2.2.2.2.1 v.2.1.2.2.2.2.2.2.2.2.2.2.1 v.2.1.2.2.2.2.2.2.2.2.2.2.2.1 v.2.1.2.2.2.2.2.2.2.2.2.2.2.2.1 v.2.1.2.2.2.2.2.2.2.2.2.2.2.2.2.1 v.2.2.2.1.1 v.2.2.2.1.2.1 v.2.2.2.1.2.2.1 v.2.2.2.2.1
    | none => none)
  | false => match Nat.beq k 14 with
  | true => (match adH ρ H29_14.hd with
    | some v => W29_14 N (fun t2 => K .ret (encH [(4, .bo)] (t2, ()))) (fun b1a b1ba b1bba b1bbba b1bbbba b1bbbbba b1bbbbbba b1bbbbbbba b1bbbbbbbba b1bbbbbbbbba b1bbbbbbbbbba b1bbbbbbbbbbba b1bbbbbbbbbbbba b1bbbbbbbbbbbbba => K (.exit 2) (encH [(2, (.bx 1 0)), (3, (.pr (.i .i64) (.pr (.i .i64) (.pr (.i .i64) (.pr .st (.pr (.i .i64) (.pr (.i .i64) (.pr (.i .i64) (.pr (.i .i64) (.pr .st (.pr (.i .i64) (.pr (.sl (.pr (.int .i64) (.pr (.int .i64) (.pr .str .un))) .no) (.pr (.sl (.pr (.int .i64) (.pr (.int .i64) (.pr .str .un))) .no) (.pr .bo (.pr .st .un)))))))))))))))] ((), ((b1a, (b1ba, (b1bba, (b1bbba, (b1bbbba, (b1bbbbba, (b1bbbbbba, (b1bbbbbbba, (b1bbbbbbbba, (b1bbbbbbbbba, (b1bbbbbbbbbba, (b1bbbbbbbbbbba, (b1bbbbbbbbbbbba, (b1bbbbbbbbbbbbba, ())))))))))))))), ())))) N v.2.1.1 v.2.1.2.1 v.2.1.2.2.1 v.2.1.2.2.2.1 v.2.1.2.2.2.2.1 v.2.1.2.2.2.2.2.1 v.2.1.2.2.2.2.2.2.1 v.2.1.2.2.2.2.2.2.2.1 v.2.1.2.2.2.2.2.2.2.2.1 v.2.1.2.2.2.2.2.2.2.2.2.1 v.2.1.2.2.2.2.2.2.2.2.2.2.1 v.2.1.2.2.2.2.2.2.2.2.2.2.2.1 v.2.1.2.2.2.2.2.2.2.2.2.2.2.2.1 v.2.1.2.2.2.2.2.2.2.2.2.2.2.2.2.1 v.2.2.1
    | none => none)
  | false => none
def F29 (N : Nat) (p0 : Int × (Int × Int × ByteArray × Unit) × Int × Int × (Int × Int × ByteArray × Unit) × Int × (List (Int × Int × ByteArray × Unit)) × (List (Int × Int × ByteArray × Unit)) × Bool × ByteArray × Unit) : Option (Bool × Unit) :=
  bif decide (p0.1 < (0 : Int)) then
    some (false, ())
  else
    bif (Go.Inc.okV p0.2.1) then
      bif (!(Go.Inc.name p0.2.1)) then
        some (false, ())
      else
        bif decide ((((ByteArray.size p0.2.2.2.2.2.2.2.2.2.1) : Nat) : Int) > (100 : Int)) then
          some (false, ())
        else
          bif (!p0.2.2.2.2.2.2.2.2.1) then
            bif (!((ByteArray.toList p0.2.2.2.2.2.2.2.2.2.1) == (ByteArray.toList (strL [])))) then
              some (false, ())
            else
              W29_5 N
              (fun t2 =>
                some (t2, ()))
              (fun b1a b1ba b1bba b1bbba b1bbbba b1bbbbba b1bbbbbba b1bbbbbbba b1bbbbbbbba b1bbbbbbbbba b1bbbbbbbbbba b1bbbbbbbbbbba b1bbbbbbbbbbbba b1bbbbbbbbbbbbba b3a b3ba b3bba =>
                bif (b1bbbba == (1 : Int)) then
              bif (Go.Inc.okF3 b1bbbbba b1bbbbbbbbba b1bbbbbbbbbba) then
              bif (Go.Inc.fits b1bbbbba b1bbbbbbbbba b1bbbbbbbbbba) then
              bif (Go.Inc.okV (b1bbbbbba, (b1bbbbbbba, (b1bbbbbbbba, ())))) then
              bif (Go.Inc.name (b1bbbbbba, (b1bbbbbbba, (b1bbbbbbbba, ())))) then
              some (((((List.length b1bbbbbbbbbbba) : Nat) : Int) == (0 : Int)), ())
            else
              some (false, ())
            else
              none
            else
              some (false, ())
            else
              none
            else
              bif decide (b1bbbba < (2 : Int)) then
              some (false, ())
            else
              bif decide (b1bbbba > (4 : Int)) then
              some (false, ())
            else
              bif (b1bbbbba != (0 : Int)) then
              some (false, ())
            else
              bif (b1bbbbbbbbba != (0 : Int)) then
              some (false, ())
            else
              bif (!((b1bbbbbba == b3a) && ((b1bbbbbbba == b3ba) && ((b1bbbbbbbba == b3bba) && true)))) then
              some (false, ())
            else
              bif decide ((((List.length b1bbbbbbbbbba) : Nat) : Int) > (0 : Int)) then
              some (false, ())
            else
              W29_14 N
              (fun t2 =>
                some (t2, ()))
              (fun b1a b1ba b1bba b1bbba b1bbbba b1bbbbba b1bbbbbba b1bbbbbbba b1bbbbbbbba b1bbbbbbbbba b1bbbbbbbbbba b1bbbbbbbbbbba b1bbbbbbbbbbbba b1bbbbbbbbbbbbba =>
                bif (b1bbbba == (2 : Int)) then
              some (true, ())
            else
              some (((((List.length b1bbbbbbbbbbba) : Nat) : Int) == (0 : Int)), ()))
              N b1a b1ba b1bba b1bbba b1bbbba b1bbbbba b1bbbbbba b1bbbbbbba b1bbbbbbbba b1bbbbbbbbba b1bbbbbbbbbba b1bbbbbbbbbbba b1bbbbbbbbbbbba b1bbbbbbbbbbbbba (0 : Int))
              N p0.1 p0.2.1.1 p0.2.1.2.1 p0.2.1.2.2.1 p0.2.2.1 p0.2.2.2.1 p0.2.2.2.2.1.1 p0.2.2.2.2.1.2.1 p0.2.2.2.2.1.2.2.1 p0.2.2.2.2.2.1 p0.2.2.2.2.2.2.1 p0.2.2.2.2.2.2.2.1 p0.2.2.2.2.2.2.2.2.1 p0.2.2.2.2.2.2.2.2.2.1 (0 : Int) (0 : Int) ByteArray.empty (0 : Int)
          else
            W29_5 N
              (fun t2 =>
                some (t2, ()))
              (fun b1a b1ba b1bba b1bbba b1bbbba b1bbbbba b1bbbbbba b1bbbbbbba b1bbbbbbbba b1bbbbbbbbba b1bbbbbbbbbba b1bbbbbbbbbbba b1bbbbbbbbbbbba b1bbbbbbbbbbbbba b3a b3ba b3bba =>
                bif (b1bbbba == (1 : Int)) then
              bif (Go.Inc.okF3 b1bbbbba b1bbbbbbbbba b1bbbbbbbbbba) then
              bif (Go.Inc.fits b1bbbbba b1bbbbbbbbba b1bbbbbbbbbba) then
              bif (Go.Inc.okV (b1bbbbbba, (b1bbbbbbba, (b1bbbbbbbba, ())))) then
              bif (Go.Inc.name (b1bbbbbba, (b1bbbbbbba, (b1bbbbbbbba, ())))) then
              some (((((List.length b1bbbbbbbbbbba) : Nat) : Int) == (0 : Int)), ())
            else
              some (false, ())
            else
              none
            else
              some (false, ())
            else
              none
            else
              bif decide (b1bbbba < (2 : Int)) then
              some (false, ())
            else
              bif decide (b1bbbba > (4 : Int)) then
              some (false, ())
            else
              bif (b1bbbbba != (0 : Int)) then
              some (false, ())
            else
              bif (b1bbbbbbbbba != (0 : Int)) then
              some (false, ())
            else
              bif (!((b1bbbbbba == b3a) && ((b1bbbbbbba == b3ba) && ((b1bbbbbbbba == b3bba) && true)))) then
              some (false, ())
            else
              bif decide ((((List.length b1bbbbbbbbbba) : Nat) : Int) > (0 : Int)) then
              some (false, ())
            else
              W29_14 N
              (fun t2 =>
                some (t2, ()))
              (fun b1a b1ba b1bba b1bbba b1bbbba b1bbbbba b1bbbbbba b1bbbbbbba b1bbbbbbbba b1bbbbbbbbba b1bbbbbbbbbba b1bbbbbbbbbbba b1bbbbbbbbbbbba b1bbbbbbbbbbbbba =>
                bif (b1bbbba == (2 : Int)) then
              some (true, ())
            else
              some (((((List.length b1bbbbbbbbbbba) : Nat) : Int) == (0 : Int)), ()))
              N b1a b1ba b1bba b1bbba b1bbbba b1bbbbba b1bbbbbba b1bbbbbbba b1bbbbbbbba b1bbbbbbbbba b1bbbbbbbbbba b1bbbbbbbbbbba b1bbbbbbbbbbbba b1bbbbbbbbbbbbba (0 : Int))
              N p0.1 p0.2.1.1 p0.2.1.2.1 p0.2.1.2.2.1 p0.2.2.1 p0.2.2.2.1 p0.2.2.2.2.1.1 p0.2.2.2.2.1.2.1 p0.2.2.2.2.1.2.2.1 p0.2.2.2.2.2.1 p0.2.2.2.2.2.2.1 p0.2.2.2.2.2.2.2.1 p0.2.2.2.2.2.2.2.2.1 p0.2.2.2.2.2.2.2.2.2.1 (0 : Int) (0 : Int) ByteArray.empty (0 : Int)
    else
      none
theorem loops29 (N : Nat) : loopsOk C29 (L29 N) Go.Proofs.Tryd.f29 := ⟨trivial, ⟨trivial, ⟨⟨trivial, ⟨⟨trivial, trivial⟩, trivial⟩⟩, ⟨⟨trivial, ⟨loopOk_of H29_5 N (fun K n v => W29_5 N (fun t2 => K .ret (encH [(4, .bo)] (t2, ()))) (fun b1a b1ba b1bba b1bbba b1bbbba b1bbbbba b1bbbbbba b1bbbbbbba b1bbbbbbbba b1bbbbbbbbba b1bbbbbbbbbba b1bbbbbbbbbbba b1bbbbbbbbbbbba b1bbbbbbbbbbbbba b3a b3ba b3bba => K (.exit 0) (encH [(2, (.bx 1 0)), (3, (.pr (.i .i64) (.pr (.i .i64) (.pr (.i .i64) (.pr .st (.pr (.i .i64) (.pr (.i .i64) (.pr (.i .i64) (.pr (.i .i64) (.pr .st (.pr (.i .i64) (.pr (.sl (.pr (.int .i64) (.pr (.int .i64) (.pr .str .un))) .no) (.pr (.sl (.pr (.int .i64) (.pr (.int .i64) (.pr .str .un))) .no) (.pr .bo (.pr .st .un))))))))))))))), (6, (.bx 3 0)), (7, (.pr (.i .i64) (.pr (.i .i64) (.pr .st .un))))] ((), ((b1a, (b1ba, (b1bba, (b1bbba, (b1bbbba, (b1bbbbba, (b1bbbbbba, (b1bbbbbbba, (b1bbbbbbbba, (b1bbbbbbbbba, (b1bbbbbbbbbba, (b1bbbbbbbbbbba, (b1bbbbbbbbbbbba, (b1bbbbbbbbbbbbba, ())))))))))))))), ((), ((b3a, (b3ba, (b3bba, ()))), ())))))) n v.2.1.1 v.2.1.2.1 v.2.1.2.2.1 v.2.1.2.2.2.1 v.2.1.2.2.2.2.1 v.2.1.2.2.2.2.2.1 v.2.1.2.2.2.2.2.2.1 v.2.1.2.2.2.2.2.2.2.1 v.2.1.2.2.2.2.2.2.2.2.1 v.2.1.2.2.2.2.2.2.2.2.2.1 v.2.1.2.2.2.2.2.2.2.2.2.2.1 v.2.1.2.2.2.2.2.2.2.2.2.2.2.1 v.2.1.2.2.2.2.2.2.2.2.2.2.2.2.1 v.2.1.2.2.2.2.2.2.2.2.2.2.2.2.2.1 v.2.2.2.1.1 v.2.2.2.1.2.1 v.2.2.2.1.2.2.1 v.2.2.2.2.1) (by kernel_rfl) (fun K v => by kernel_rfl) (fun K v => by kernel_rfl) (fun K n v => by kernel_rfl), ⟨⟨trivial, ⟨trivial, trivial⟩⟩, ⟨⟨trivial, ⟨⟨trivial, trivial⟩, trivial⟩⟩, trivial⟩⟩⟩⟩, ⟨⟨trivial, ⟨⟨trivial, trivial⟩, trivial⟩⟩, ⟨⟨trivial, ⟨⟨trivial, trivial⟩, trivial⟩⟩, ⟨⟨trivial, ⟨loopOk_of H29_14 N (fun K n v => W29_14 N (fun t2 => K .ret (encH [(4, .bo)] (t2, ()))) (fun b1a b1ba b1bba b1bbba b1bbbba b1bbbbba b1bbbbbba b1bbbbbbba b1bbbbbbbba b1bbbbbbbbba b1bbbbbbbbbba b1bbbbbbbbbbba b1bbbbbbbbbbbba b1bbbbbbbbbbbbba => K (.exit 2) (encH [(2, (.bx 1 0)), (3, (.pr (.i .i64) (.pr (.i .i64) (.pr (.i .i64) (.pr .st (.pr (.i .i64) (.pr (.i .i64) (.pr (.i .i64) (.pr (.i .i64) (.pr .st (.pr (.i .i64) (.pr (.sl (.pr (.int .i64) (.pr (.int .i64) (.pr .str .un))) .no) (.pr (.sl (.pr (.int .i64) (.pr (.int .i64) (.pr .str .un))) .no) (.pr .bo (.pr .st .un)))))))))))))))] ((), ((b1a, (b1ba, (b1bba, (b1bbba, (b1bbbba, (b1bbbbba, (b1bbbbbba, (b1bbbbbbba, (b1bbbbbbbba, (b1bbbbbbbbba, (b1bbbbbbbbbba, (b1bbbbbbbbbbba, (b1bbbbbbbbbbbba, (b1bbbbbbbbbbbbba, ())))))))))))))), ())))) n v.2.1.1 v.2.1.2.1 v.2.1.2.2.1 v.2.1.2.2.2.1 v.2.1.2.2.2.2.1 v.2.1.2.2.2.2.2.1 v.2.1.2.2.2.2.2.2.1 v.2.1.2.2.2.2.2.2.2.1 v.2.1.2.2.2.2.2.2.2.2.1 v.2.1.2.2.2.2.2.2.2.2.2.1 v.2.1.2.2.2.2.2.2.2.2.2.2.1 v.2.1.2.2.2.2.2.2.2.2.2.2.2.1 v.2.1.2.2.2.2.2.2.2.2.2.2.2.2.1 v.2.1.2.2.2.2.2.2.2.2.2.2.2.2.2.1 v.2.2.1) (by kernel_rfl) (fun K v => by kernel_rfl) (fun K v => by kernel_rfl) (fun K n v => by kernel_rfl), ⟨⟨trivial, ⟨trivial, trivial⟩⟩, ⟨⟨trivial, ⟨⟨trivial, trivial⟩, trivial⟩⟩, trivial⟩⟩⟩⟩, ⟨trivial, trivial⟩⟩⟩⟩⟩⟩⟩⟩
theorem runs29 (N : Nat) (x : S29.ta.den) : run C29 S29 (L29 N) Go.Proofs.Tryd.f29 x = F29 N x.1 := by kernel_rfl

/-! ### 21: incognito/incognitoref12.wrong -/
def L21 (_ : Nat) : Loops (Int × Unit) := fun _ _ _ => none
def F21 (N : Nat) (p0 : List (Int × (Int × Int × ByteArray × Unit) × Int × Int × (Int × Int × ByteArray × Unit) × Int × (List (Int × Int × ByteArray × Unit)) × (List (Int × Int × ByteArray × Unit)) × Bool × ByteArray × Unit)) (p1 : Int) : Option (Int × Unit) :=
  bif decide (p1 ≥ (4096 : Int)) then
    some ((5 : Int), ())
  else
    bif ((decide ((0 : Int) ≤ p1)) && (decide (p1 < (((List.length p0) : Nat) : Int)))) then
      bif (Go.Inc.okEv (List.getD p0 (Int.toNat p1) ((0 : Int), (((0 : Int), ((0 : Int), (ByteArray.empty, ()))), ((0 : Int), ((0 : Int), (((0 : Int), ((0 : Int), (ByteArray.empty, ()))), ((0 : Int), ([], ([], (false, (ByteArray.empty, ())))))))))))) then
        bif (!(Go.Inc.rightE (List.getD p0 (Int.toNat p1) ((0 : Int), (((0 : Int), ((0 : Int), (ByteArray.empty, ()))), ((0 : Int), ((0 : Int), (((0 : Int), ((0 : Int), (ByteArray.empty, ()))), ((0 : Int), ([], ([], (false, (ByteArray.empty, ()))))))))))))) then
          some ((2 : Int), ())
        else
          bif decide (p1 > (0 : Int)) then
            bif ((decide ((0 : Int) ≤ (Go.IntKind.wrap .i64 (p1 - (1 : Int))))) && (decide ((Go.IntKind.wrap .i64 (p1 - (1 : Int))) < (((List.length p0) : Nat) : Int)))) then
              bif decide (((List.getD p0 (Int.toNat p1) ((0 : Int), (((0 : Int), ((0 : Int), (ByteArray.empty, ()))), ((0 : Int), ((0 : Int), (((0 : Int), ((0 : Int), (ByteArray.empty, ()))), ((0 : Int), ([], ([], (false, (ByteArray.empty, ()))))))))))).1) < ((List.getD p0 (Int.toNat (Go.IntKind.wrap .i64 (p1 - (1 : Int)))) ((0 : Int), (((0 : Int), ((0 : Int), (ByteArray.empty, ()))), ((0 : Int), ((0 : Int), (((0 : Int), ((0 : Int), (ByteArray.empty, ()))), ((0 : Int), ([], ([], (false, (ByteArray.empty, ()))))))))))).1)) then
              some ((4 : Int), ())
            else
              bif (Go.Inc.okAt p0 p1) then
              bif decide ((Go.Inc.lastE p0 p1) ≥ (0 : Int)) then
              bif ((decide ((0 : Int) ≤ (Go.Inc.lastE p0 p1))) && (decide ((Go.Inc.lastE p0 p1) < (((List.length p0) : Nat) : Int)))) then
              bif decide ((Go.Inc.lastE p0 p1) ≥ (0 : Int)) then
              bif ((decide ((0 : Int) ≤ (Go.Inc.lastE p0 p1))) && (decide ((Go.Inc.lastE p0 p1) < (((List.length p0) : Nat) : Int)))) then
              bif (((((List.getD p0 (Int.toNat p1) ((0 : Int), (((0 : Int), ((0 : Int), (ByteArray.empty, ()))), ((0 : Int), ((0 : Int), (((0 : Int), ((0 : Int), (ByteArray.empty, ()))), ((0 : Int), ([], ([], (false, (ByteArray.empty, ()))))))))))).2).2).1) == (1 : Int)) then
              bif (((((List.getD p0 (Int.toNat (Go.Inc.lastE p0 p1)) ((0 : Int), (((0 : Int), ((0 : Int), (ByteArray.empty, ()))), ((0 : Int), ((0 : Int), (((0 : Int), ((0 : Int), (ByteArray.empty, ()))), ((0 : Int), ([], ([], (false, (ByteArray.empty, ()))))))))))).2).2).1) == (1 : Int)) then
              some ((4 : Int), ())
            else
              bif (((((List.getD p0 (Int.toNat (Go.Inc.lastE p0 p1)) ((0 : Int), (((0 : Int), ((0 : Int), (ByteArray.empty, ()))), ((0 : Int), ((0 : Int), (((0 : Int), ((0 : Int), (ByteArray.empty, ()))), ((0 : Int), ([], ([], (false, (ByteArray.empty, ()))))))))))).2).2).1) == (4 : Int)) then
              some ((4 : Int), ())
            else
              some ((0 : Int), ())
            else
              bif (!(((((List.getD p0 (Int.toNat (Go.Inc.lastE p0 p1)) ((0 : Int), (((0 : Int), ((0 : Int), (ByteArray.empty, ()))), ((0 : Int), ((0 : Int), (((0 : Int), ((0 : Int), (ByteArray.empty, ()))), ((0 : Int), ([], ([], (false, (ByteArray.empty, ()))))))))))).2).2).1) == (1 : Int))) then
              some ((4 : Int), ())
            else
              bif (((((List.getD p0 (Int.toNat p1) ((0 : Int), (((0 : Int), ((0 : Int), (ByteArray.empty, ()))), ((0 : Int), ((0 : Int), (((0 : Int), ((0 : Int), (ByteArray.empty, ()))), ((0 : Int), ([], ([], (false, (ByteArray.empty, ()))))))))))).2).2).1) == (2 : Int)) then
              bif ((decide ((0 : Int) ≤ (Go.Inc.lastE p0 p1))) && (decide ((Go.Inc.lastE p0 p1) < (((List.length p0) : Nat) : Int)))) then
              bif ((decide ((0 : Int) ≤ (Go.Inc.lastE p0 p1))) && (decide ((Go.Inc.lastE p0 p1) < (((List.length p0) : Nat) : Int)))) then
              bif (Go.Inc.okF2 (((((List.getD p0 (Int.toNat (Go.Inc.lastE p0 p1)) ((0 : Int), (((0 : Int), ((0 : Int), (ByteArray.empty, ()))), ((0 : Int), ((0 : Int), (((0 : Int), ((0 : Int), (ByteArray.empty, ()))), ((0 : Int), ([], ([], (false, (ByteArray.empty, ()))))))))))).2).2).2).1) (((((((List.getD p0 (Int.toNat (Go.Inc.lastE p0 p1)) ((0 : Int), (((0 : Int), ((0 : Int), (ByteArray.empty, ()))), ((0 : Int), ((0 : Int), (((0 : Int), ((0 : Int), (ByteArray.empty, ()))), ((0 : Int), ([], ([], (false, (ByteArray.empty, ()))))))))))).2).2).2).2).2).1) (((((((((List.getD p0 (Int.toNat p1) ((0 : Int), (((0 : Int), ((0 : Int), (ByteArray.empty, ()))), ((0 : Int), ((0 : Int), (((0 : Int), ((0 : Int), (ByteArray.empty, ()))), ((0 : Int), ([], ([], (false, (ByteArray.empty, ()))))))))))).2).2).2).2).2).2).2).1)) then
              bif (!(((Go.Inc.outsGo (((((List.getD p0 (Int.toNat (Go.Inc.lastE p0 p1)) ((0 : Int), (((0 : Int), ((0 : Int), (ByteArray.empty, ()))), ((0 : Int), ((0 : Int), (((0 : Int), ((0 : Int), (ByteArray.empty, ()))), ((0 : Int), ([], ([], (false, (ByteArray.empty, ()))))))))))).2).2).2).1) (((((((List.getD p0 (Int.toNat (Go.Inc.lastE p0 p1)) ((0 : Int), (((0 : Int), ((0 : Int), (ByteArray.empty, ()))), ((0 : Int), ((0 : Int), (((0 : Int), ((0 : Int), (ByteArray.empty, ()))), ((0 : Int), ([], ([], (false, (ByteArray.empty, ()))))))))))).2).2).2).2).2).1) (((((((((List.getD p0 (Int.toNat p1) ((0 : Int), (((0 : Int), ((0 : Int), (ByteArray.empty, ()))), ((0 : Int), ((0 : Int), (((0 : Int), ((0 : Int), (ByteArray.empty, ()))), ((0 : Int), ([], ([], (false, (ByteArray.empty, ()))))))))))).2).2).2).2).2).2).2).1)).2).1)) then
              some ((4 : Int), ())
            else
              some ((0 : Int), ())
            else
              none
            else
              none
            else
              none
            else
              some ((0 : Int), ())
            else
              none
            else
              bif (((((List.getD p0 (Int.toNat p1) ((0 : Int), (((0 : Int), ((0 : Int), (ByteArray.empty, ()))), ((0 : Int), ((0 : Int), (((0 : Int), ((0 : Int), (ByteArray.empty, ()))), ((0 : Int), ([], ([], (false, (ByteArray.empty, ()))))))))))).2).2).1) == (1 : Int)) then
              bif (((((List.getD p0 (Int.toNat (Go.Inc.lastE p0 p1)) ((0 : Int), (((0 : Int), ((0 : Int), (ByteArray.empty, ()))), ((0 : Int), ((0 : Int), (((0 : Int), ((0 : Int), (ByteArray.empty, ()))), ((0 : Int), ([], ([], (false, (ByteArray.empty, ()))))))))))).2).2).1) == (1 : Int)) then
              some ((4 : Int), ())
            else
              some ((0 : Int), ())
            else
              bif (!(((((List.getD p0 (Int.toNat (Go.Inc.lastE p0 p1)) ((0 : Int), (((0 : Int), ((0 : Int), (ByteArray.empty, ()))), ((0 : Int), ((0 : Int), (((0 : Int), ((0 : Int), (ByteArray.empty, ()))), ((0 : Int), ([], ([], (false, (ByteArray.empty, ()))))))))))).2).2).1) == (1 : Int))) then
              some ((4 : Int), ())
            else
              bif (((((List.getD p0 (Int.toNat p1) ((0 : Int), (((0 : Int), ((0 : Int), (ByteArray.empty, ()))), ((0 : Int), ((0 : Int), (((0 : Int), ((0 : Int), (ByteArray.empty, ()))), ((0 : Int), ([], ([], (false, (ByteArray.empty, ()))))))))))).2).2).1) == (2 : Int)) then
              bif ((decide ((0 : Int) ≤ (Go.Inc.lastE p0 p1))) && (decide ((Go.Inc.lastE p0 p1) < (((List.length p0) : Nat) : Int)))) then
              bif ((decide ((0 : Int) ≤ (Go.Inc.lastE p0 p1))) && (decide ((Go.Inc.lastE p0 p1) < (((List.length p0) : Nat) : Int)))) then
              bif (Go.Inc.okF2 (((((List.getD p0 (Int.toNat (Go.Inc.lastE p0 p1)) ((0 : Int), (((0 : Int), ((0 : Int), (ByteArray.empty, ()))), ((0 : Int), ((0 : Int), (((0 : Int), ((0 : Int), (ByteArray.empty, ()))), ((0 : Int), ([], ([], (false, (ByteArray.empty, ()))))))))))).2).2).2).1) (((((((List.getD p0 (Int.toNat (Go.Inc.lastE p0 p1)) ((0 : Int), (((0 : Int), ((0 : Int), (ByteArray.empty, ()))), ((0 : Int), ((0 : Int), (((0 : Int), ((0 : Int), (ByteArray.empty, ()))), ((0 : Int), ([], ([], (false, (ByteArray.empty, ()))))))))))).2).2).2).2).2).1) (((((((((List.getD p0 (Int.toNat p1) ((0 : Int), (((0 : Int), ((0 : Int), (ByteArray.empty, ()))), ((0 : Int), ((0 : Int), (((0 : Int), ((0 : Int), (ByteArray.empty, ()))), ((0 : Int), ([], ([], (false, (ByteArray.empty, ()))))))))))).2).2).2).2).2).2).2).1)) then
              bif (!(((Go.Inc.outsGo (((((List.getD p0 (Int.toNat (Go.Inc.lastE p0 p1)) ((0 : Int), (((0 : Int), ((0 : Int), (ByteArray.empty, ()))), ((0 : Int), ((0 : Int), (((0 : Int), ((0 : Int), (ByteArray.empty, ()))), ((0 : Int), ([], ([], (false, (ByteArray.empty, ()))))))))))).2).2).2).1) (((((((List.getD p0 (Int.toNat (Go.Inc.lastE p0 p1)) ((0 : Int), (((0 : Int), ((0 : Int), (ByteArray.empty, ()))), ((0 : Int), ((0 : Int), (((0 : Int), ((0 : Int), (ByteArray.empty, ()))), ((0 : Int), ([], ([], (false, (ByteArray.empty, ()))))))))))).2).2).2).2).2).1) (((((((((List.getD p0 (Int.toNat p1) ((0 : Int), (((0 : Int), ((0 : Int), (ByteArray.empty, ()))), ((0 : Int), ((0 : Int), (((0 : Int), ((0 : Int), (ByteArray.empty, ()))), ((0 : Int), ([], ([], (false, (ByteArray.empty, ()))))))))))).2).2).2).2).2).2).2).1)).2).1)) then
              some ((4 : Int), ())
            else
              some ((0 : Int), ())
            else
              none
            else
              none
            else
              none
            else
              some ((0 : Int), ())
            else
              none
            else
              bif decide ((Go.Inc.lastE p0 p1) ≥ (0 : Int)) then
              bif ((decide ((0 : Int) ≤ (Go.Inc.lastE p0 p1))) && (decide ((Go.Inc.lastE p0 p1) < (((List.length p0) : Nat) : Int)))) then
              bif (((((List.getD p0 (Int.toNat p1) ((0 : Int), (((0 : Int), ((0 : Int), (ByteArray.empty, ()))), ((0 : Int), ((0 : Int), (((0 : Int), ((0 : Int), (ByteArray.empty, ()))), ((0 : Int), ([], ([], (false, (ByteArray.empty, ()))))))))))).2).2).1) == (1 : Int)) then
              bif (((((List.getD p0 (Int.toNat (Go.Inc.lastE p0 p1)) ((0 : Int), (((0 : Int), ((0 : Int), (ByteArray.empty, ()))), ((0 : Int), ((0 : Int), (((0 : Int), ((0 : Int), (ByteArray.empty, ()))), ((0 : Int), ([], ([], (false, (ByteArray.empty, ()))))))))))).2).2).1) == (4 : Int)) then
              some ((4 : Int), ())
            else
              some ((0 : Int), ())
            else
              some ((4 : Int), ())
            else
              none
            else
              bif (((((List.getD p0 (Int.toNat p1) ((0 : Int), (((0 : Int), ((0 : Int), (ByteArray.empty, ()))), ((0 : Int), ((0 : Int), (((0 : Int), ((0 : Int), (ByteArray.empty, ()))), ((0 : Int), ([], ([], (false, (ByteArray.empty, ()))))))))))).2).2).1) == (1 : Int)) then
              some ((0 : Int), ())
            else
              some ((4 : Int), ())
            else
              none
            else
              none
          else
            bif (Go.Inc.okAt p0 p1) then
              bif decide ((Go.Inc.lastE p0 p1) ≥ (0 : Int)) then
              bif ((decide ((0 : Int) ≤ (Go.Inc.lastE p0 p1))) && (decide ((Go.Inc.lastE p0 p1) < (((List.length p0) : Nat) : Int)))) then
              bif decide ((Go.Inc.lastE p0 p1) ≥ (0 : Int)) then
              bif ((decide ((0 : Int) ≤ (Go.Inc.lastE p0 p1))) && (decide ((Go.Inc.lastE p0 p1) < (((List.length p0) : Nat) : Int)))) then
              bif (((((List.getD p0 (Int.toNat p1) ((0 : Int), (((0 : Int), ((0 : Int), (ByteArray.empty, ()))), ((0 : Int), ((0 : Int), (((0 : Int), ((0 : Int), (ByteArray.empty, ()))), ((0 : Int), ([], ([], (false, (ByteArray.empty, ()))))))))))).2).2).1) == (1 : Int)) then
              bif (((((List.getD p0 (Int.toNat (Go.Inc.lastE p0 p1)) ((0 : Int), (((0 : Int), ((0 : Int), (ByteArray.empty, ()))), ((0 : Int), ((0 : Int), (((0 : Int), ((0 : Int), (ByteArray.empty, ()))), ((0 : Int), ([], ([], (false, (ByteArray.empty, ()))))))))))).2).2).1) == (1 : Int)) then
              some ((4 : Int), ())
            else
              bif (((((List.getD p0 (Int.toNat (Go.Inc.lastE p0 p1)) ((0 : Int), (((0 : Int), ((0 : Int), (ByteArray.empty, ()))), ((0 : Int), ((0 : Int), (((0 : Int), ((0 : Int), (ByteArray.empty, ()))), ((0 : Int), ([], ([], (false, (ByteArray.empty, ()))))))))))).2).2).1) == (4 : Int)) then
              some ((4 : Int), ())
            else
              some ((0 : Int), ())
            else
              bif (!(((((List.getD p0 (Int.toNat (Go.Inc.lastE p0 p1)) ((0 : Int), (((0 : Int), ((0 : Int), (ByteArray.empty, ()))), ((0 : Int), ((0 : Int), (((0 : Int), ((0 : Int), (ByteArray.empty, ()))), ((0 : Int), ([], ([], (false, (ByteArray.empty, ()))))))))))).2).2).1) == (1 : Int))) then
              some ((4 : Int), ())
            else
              bif (((((List.getD p0 (Int.toNat p1) ((0 : Int), (((0 : Int), ((0 : Int), (ByteArray.empty, ()))), ((0 : Int), ((0 : Int), (((0 : Int), ((0 : Int), (ByteArray.empty, ()))), ((0 : Int), ([], ([], (false, (ByteArray.empty, ()))))))))))).2).2).1) == (2 : Int)) then
              bif ((decide ((0 : Int) ≤ (Go.Inc.lastE p0 p1))) && (decide ((Go.Inc.lastE p0 p1) < (((List.length p0) : Nat) : Int)))) then
              bif ((decide ((0 : Int) ≤ (Go.Inc.lastE p0 p1))) && (decide ((Go.Inc.lastE p0 p1) < (((List.length p0) : Nat) : Int)))) then
              bif (Go.Inc.okF2 (((((List.getD p0 (Int.toNat (Go.Inc.lastE p0 p1)) ((0 : Int), (((0 : Int), ((0 : Int), (ByteArray.empty, ()))), ((0 : Int), ((0 : Int), (((0 : Int), ((0 : Int), (ByteArray.empty, ()))), ((0 : Int), ([], ([], (false, (ByteArray.empty, ()))))))))))).2).2).2).1) (((((((List.getD p0 (Int.toNat (Go.Inc.lastE p0 p1)) ((0 : Int), (((0 : Int), ((0 : Int), (ByteArray.empty, ()))), ((0 : Int), ((0 : Int), (((0 : Int), ((0 : Int), (ByteArray.empty, ()))), ((0 : Int), ([], ([], (false, (ByteArray.empty, ()))))))))))).2).2).2).2).2).1) (((((((((List.getD p0 (Int.toNat p1) ((0 : Int), (((0 : Int), ((0 : Int), (ByteArray.empty, ()))), ((0 : Int), ((0 : Int), (((0 : Int), ((0 : Int), (ByteArray.empty, ()))), ((0 : Int), ([], ([], (false, (ByteArray.empty, ()))))))))))).2).2).2).2).2).2).2).1)) then
              bif (!(((Go.Inc.outsGo (((((List.getD p0 (Int.toNat (Go.Inc.lastE p0 p1)) ((0 : Int), (((0 : Int), ((0 : Int), (ByteArray.empty, ()))), ((0 : Int), ((0 : Int), (((0 : Int), ((0 : Int), (ByteArray.empty, ()))), ((0 : Int), ([], ([], (false, (ByteArray.empty, ()))))))))))).2).2).2).1) (((((((List.getD p0 (Int.toNat (Go.Inc.lastE p0 p1)) ((0 : Int), (((0 : Int), ((0 : Int), (ByteArray.empty, ()))), ((0 : Int), ((0 : Int), (((0 : Int), ((0 : Int), (ByteArray.empty, ()))), ((0 : Int), ([], ([], (false, (ByteArray.empty, ()))))))))))).2).2).2).2).2).1) (((((((((List.getD p0 (Int.toNat p1) ((0 : Int), (((0 : Int), ((0 : Int), (ByteArray.empty, ()))), ((0 : Int), ((0 : Int), (((0 : Int), ((0 : Int), (ByteArray.empty, ()))), ((0 : Int), ([], ([], (false, (ByteArray.empty, ()))))))))))).2).2).2).2).2).2).2).1)).2).1)) then
              some ((4 : Int), ())
            else
              some ((0 : Int), ())
            else
              none
            else
              none
            else
              none
            else
              some ((0 : Int), ())
            else
              none
            else
              bif (((((List.getD p0 (Int.toNat p1) ((0 : Int), (((0 : Int), ((0 : Int), (ByteArray.empty, ()))), ((0 : Int), ((0 : Int), (((0 : Int), ((0 : Int), (ByteArray.empty, ()))), ((0 : Int), ([], ([], (false, (ByteArray.empty, ()))))))))))).2).2).1) == (1 : Int)) then
              bif (((((List.getD p0 (Int.toNat (Go.Inc.lastE p0 p1)) ((0 : Int), (((0 : Int), ((0 : Int), (ByteArray.empty, ()))), ((0 : Int), ((0 : Int), (((0 : Int), ((0 : Int), (ByteArray.empty, ()))), ((0 : Int), ([], ([], (false, (ByteArray.empty, ()))))))))))).2).2).1) == (1 : Int)) then
              some ((4 : Int), ())
            else
              some ((0 : Int), ())
            else
              bif (!(((((List.getD p0 (Int.toNat (Go.Inc.lastE p0 p1)) ((0 : Int), (((0 : Int), ((0 : Int), (ByteArray.empty, ()))), ((0 : Int), ((0 : Int), (((0 : Int), ((0 : Int), (ByteArray.empty, ()))), ((0 : Int), ([], ([], (false, (ByteArray.empty, ()))))))))))).2).2).1) == (1 : Int))) then
              some ((4 : Int), ())
            else
              bif (((((List.getD p0 (Int.toNat p1) ((0 : Int), (((0 : Int), ((0 : Int), (ByteArray.empty, ()))), ((0 : Int), ((0 : Int), (((0 : Int), ((0 : Int), (ByteArray.empty, ()))), ((0 : Int), ([], ([], (false, (ByteArray.empty, ()))))))))))).2).2).1) == (2 : Int)) then
              bif ((decide ((0 : Int) ≤ (Go.Inc.lastE p0 p1))) && (decide ((Go.Inc.lastE p0 p1) < (((List.length p0) : Nat) : Int)))) then
              bif ((decide ((0 : Int) ≤ (Go.Inc.lastE p0 p1))) && (decide ((Go.Inc.lastE p0 p1) < (((List.length p0) : Nat) : Int)))) then
              bif (Go.Inc.okF2 (((((List.getD p0 (Int.toNat (Go.Inc.lastE p0 p1)) ((0 : Int), (((0 : Int), ((0 : Int), (ByteArray.empty, ()))), ((0 : Int), ((0 : Int), (((0 : Int), ((0 : Int), (ByteArray.empty, ()))), ((0 : Int), ([], ([], (false, (ByteArray.empty, ()))))))))))).2).2).2).1) (((((((List.getD p0 (Int.toNat (Go.Inc.lastE p0 p1)) ((0 : Int), (((0 : Int), ((0 : Int), (ByteArray.empty, ()))), ((0 : Int), ((0 : Int), (((0 : Int), ((0 : Int), (ByteArray.empty, ()))), ((0 : Int), ([], ([], (false, (ByteArray.empty, ()))))))))))).2).2).2).2).2).1) (((((((((List.getD p0 (Int.toNat p1) ((0 : Int), (((0 : Int), ((0 : Int), (ByteArray.empty, ()))), ((0 : Int), ((0 : Int), (((0 : Int), ((0 : Int), (ByteArray.empty, ()))), ((0 : Int), ([], ([], (false, (ByteArray.empty, ()))))))))))).2).2).2).2).2).2).2).1)) then
              bif (!(((Go.Inc.outsGo (((((List.getD p0 (Int.toNat (Go.Inc.lastE p0 p1)) ((0 : Int), (((0 : Int), ((0 : Int), (ByteArray.empty, ()))), ((0 : Int), ((0 : Int), (((0 : Int), ((0 : Int), (ByteArray.empty, ()))), ((0 : Int), ([], ([], (false, (ByteArray.empty, ()))))))))))).2).2).2).1) (((((((List.getD p0 (Int.toNat (Go.Inc.lastE p0 p1)) ((0 : Int), (((0 : Int), ((0 : Int), (ByteArray.empty, ()))), ((0 : Int), ((0 : Int), (((0 : Int), ((0 : Int), (ByteArray.empty, ()))), ((0 : Int), ([], ([], (false, (ByteArray.empty, ()))))))))))).2).2).2).2).2).1) (((((((((List.getD p0 (Int.toNat p1) ((0 : Int), (((0 : Int), ((0 : Int), (ByteArray.empty, ()))), ((0 : Int), ((0 : Int), (((0 : Int), ((0 : Int), (ByteArray.empty, ()))), ((0 : Int), ([], ([], (false, (ByteArray.empty, ()))))))))))).2).2).2).2).2).2).2).1)).2).1)) then
              some ((4 : Int), ())
            else
              some ((0 : Int), ())
            else
              none
            else
              none
            else
              none
            else
              some ((0 : Int), ())
            else
              none
            else
              bif decide ((Go.Inc.lastE p0 p1) ≥ (0 : Int)) then
              bif ((decide ((0 : Int) ≤ (Go.Inc.lastE p0 p1))) && (decide ((Go.Inc.lastE p0 p1) < (((List.length p0) : Nat) : Int)))) then
              bif (((((List.getD p0 (Int.toNat p1) ((0 : Int), (((0 : Int), ((0 : Int), (ByteArray.empty, ()))), ((0 : Int), ((0 : Int), (((0 : Int), ((0 : Int), (ByteArray.empty, ()))), ((0 : Int), ([], ([], (false, (ByteArray.empty, ()))))))))))).2).2).1) == (1 : Int)) then
              bif (((((List.getD p0 (Int.toNat (Go.Inc.lastE p0 p1)) ((0 : Int), (((0 : Int), ((0 : Int), (ByteArray.empty, ()))), ((0 : Int), ((0 : Int), (((0 : Int), ((0 : Int), (ByteArray.empty, ()))), ((0 : Int), ([], ([], (false, (ByteArray.empty, ()))))))))))).2).2).1) == (4 : Int)) then
              some ((4 : Int), ())
            else
              some ((0 : Int), ())
            else
              some ((4 : Int), ())
            else
              none
            else
              bif (((((List.getD p0 (Int.toNat p1) ((0 : Int), (((0 : Int), ((0 : Int), (ByteArray.empty, ()))), ((0 : Int), ((0 : Int), (((0 : Int), ((0 : Int), (ByteArray.empty, ()))), ((0 : Int), ([], ([], (false, (ByteArray.empty, ()))))))))))).2).2).1) == (1 : Int)) then
              some ((0 : Int), ())
            else
              some ((4 : Int), ())
            else
              none
      else
        none
    else
      none
theorem loops21 (N : Nat) : loopsOk C21 (L21 N) Go.Proofs.Tryd.f21 := ⟨trivial, ⟨⟨trivial, ⟨⟨trivial, trivial⟩, trivial⟩⟩, ⟨trivial, ⟨⟨trivial, ⟨⟨trivial, trivial⟩, trivial⟩⟩, ⟨⟨trivial, ⟨⟨trivial, trivial⟩, trivial⟩⟩, ⟨trivial, ⟨trivial, ⟨trivial, ⟨⟨trivial, ⟨⟨⟨trivial, ⟨⟨trivial, trivial⟩, trivial⟩⟩, ⟨trivial, trivial⟩⟩, trivial⟩⟩, ⟨⟨trivial, ⟨⟨trivial, trivial⟩, trivial⟩⟩, ⟨⟨trivial, ⟨⟨trivial, ⟨trivial, ⟨⟨trivial, trivial⟩, trivial⟩⟩⟩, trivial⟩⟩, ⟨trivial, trivial⟩⟩⟩⟩⟩⟩⟩⟩⟩⟩⟩⟩
theorem runs21 (N : Nat) (x : S21.ta.den) : run C21 S21 (L21 N) Go.Proofs.Tryd.f21 x = F21 N x.1 x.2.1 := by kernel_rfl

/-! ### 11: incognito/incognitoref12.Check -/
def W11_2 {β : Type} (N : Nat) (x0 : Int → Int → Option β) (x1 : Unit → Option β) : Nat → (List (Int × (Int × Int × ByteArray × Unit) × Int × Int × (Int × Int × ByteArray × Unit) × Int × (List (Int × Int × ByteArray × Unit)) × (List (Int × Int × ByteArray × Unit)) × Bool × ByteArray × Unit)) → Int → Option β
  | 0, _, _ => none
  | n + 1, t0, t4 =>
  bif decide (t4 < (((List.length t0) : Nat) : Int)) then
    bif (Go.Inc.okAt t0 t4) then
      bif ((Go.Inc.wrongE t0 t4) != (0 : Int)) then
        x0 (Go.Inc.wrongE t0 t4) (Go.IntKind.wrap .i64 (t4 + (1 : Int)))
      else
        W11_2 N x0 x1 n t0 (Go.IntKind.wrap .i64 (t4 + (1 : Int)))
    else
      none
  else
    x1 ()
def L11 (N : Nat) : Loops (Int × Int × Unit) := fun k ρ K => match Nat.beq k 2 with
  | true => (match adH ρ H11_2.hd with
    | some v => W11_2 N (fun t2 t3 => K .ret (encH [(4, (.i .i64)), (6, (.i .i64))] (t2, (t3, ())))) (fun _ => K (.exit 0) (encH [] ())) N v.1 v.2.1
    | none => none)
  | false => none
def F11 (N : Nat) (p0 : List (Int × (Int × Int × ByteArray × Unit) × Int × Int × (Int × Int × ByteArray × Unit) × Int × (List (Int × Int × ByteArray × Unit)) × (List (Int × Int × ByteArray × Unit)) × Bool × ByteArray × Unit)) : Option (Int × Int × Unit) :=
  W11_2 N
    (fun t2 t3 =>
      some (t2, (t3, ())))
    (fun (_ : Unit) =>
      some ((0 : Int), ((0 : Int), ())))
    N p0 (0 : Int)
theorem loops11 (N : Nat) : loopsOk C11 (L11 N) Go.Proofs.Tryd.f11 := ⟨trivial, ⟨⟨trivial, ⟨loopOk_of H11_2 N (fun K n v => W11_2 N (fun t2 t3 => K .ret (encH [(4, (.i .i64)), (6, (.i .i64))] (t2, (t3, ())))) (fun _ => K (.exit 0) (encH [] ())) n v.1 v.2.1) (by kernel_rfl) (fun K v => by kernel_rfl) (fun K v => by kernel_rfl) (fun K n v => by kernel_rfl), ⟨⟨trivial, ⟨trivial, trivial⟩⟩, ⟨⟨trivial, ⟨trivial, ⟨⟨trivial, trivial⟩, trivial⟩⟩⟩, trivial⟩⟩⟩⟩, ⟨trivial, trivial⟩⟩⟩
theorem runs11 (N : Nat) (x : S11.ta.den) : run C11 S11 (L11 N) Go.Proofs.Tryd.f11 x = F11 N x.1 := by kernel_rfl

/-! ### 25: incognito/incognitoref07.Same -/
def W25_4 {β : Type} (N : Nat) (x0 : Bool → Option β) (x1 : Unit → Option β) : Nat → (List (Int × Int × ByteArray × Unit)) → (List (Int × Int × ByteArray × Unit)) → Int → Option β
  | 0, _, _, _ => none
  | n + 1, t0, t1, t5 =>
  bif decide (t5 < (((List.length t0) : Nat) : Int)) then
    bif ((decide ((0 : Int) ≤ t5)) && (decide (t5 < (((List.length t0) : Nat) : Int)))) then
      bif ((decide ((0 : Int) ≤ t5)) && (decide (t5 < (((List.length t1) : Nat) : Int)))) then
        bif (!((((List.getD t0 (Int.toNat t5) ((0 : Int), ((0 : Int), (ByteArray.empty, ())))).1) == ((List.getD t1 (Int.toNat t5) ((0 : Int), ((0 : Int), (ByteArray.empty, ())))).1)) && (((((List.getD t0 (Int.toNat t5) ((0 : Int), ((0 : Int), (ByteArray.empty, ())))).2).1) == (((List.getD t1 (Int.toNat t5) ((0 : Int), ((0 : Int), (ByteArray.empty, ())))).2).1)) && ((((((List.getD t0 (Int.toNat t5) ((0 : Int), ((0 : Int), (ByteArray.empty, ())))).2).2).1) == ((((List.getD t1 (Int.toNat t5) ((0 : Int), ((0 : Int), (ByteArray.empty, ())))).2).2).1)) && true)))) then
          x0 false
        else
          W25_4 N x0 x1 n t0 t1 (Go.IntKind.wrap .i64 (t5 + (1 : Int)))
      else
        none
    else
      none
  else
    x1 ()
def L25 (N : Nat) : Loops (Bool × Unit) := fun k ρ K => match Nat.beq k 4 with
  | true => (match adH ρ H25_4.hd with
    | some v => W25_4 N (fun t4 => K .ret (encH [(8, .bo)] (t4, ()))) (fun _ => K (.exit 0) (encH [] ())) N v.1 v.2.1 v.2.2.1
    | none => none)
  | false => none
def F25 (N : Nat) (p0 : List (Int × Int × ByteArray × Unit)) (p1 : List (Int × Int × ByteArray × Unit)) : Option (Bool × Unit) :=
  bif ((((List.length p0) : Nat) : Int) != (((List.length p1) : Nat) : Int)) then
    some (false, ())
  else
    W25_4 N
      (fun t4 =>
        some (t4, ()))
      (fun (_ : Unit) =>
        some (true, ()))
      N p0 p1 (0 : Int)
theorem loops25 (N : Nat) : loopsOk C25 (L25 N) Go.Proofs.Tryd.f25 := ⟨trivial, ⟨⟨trivial, ⟨⟨trivial, trivial⟩, trivial⟩⟩, ⟨⟨trivial, ⟨loopOk_of H25_4 N (fun K n v => W25_4 N (fun t4 => K .ret (encH [(8, .bo)] (t4, ()))) (fun _ => K (.exit 0) (encH [] ())) n v.1 v.2.1 v.2.2.1) (by kernel_rfl) (fun K v => by kernel_rfl) (fun K v => by kernel_rfl) (fun K n v => by kernel_rfl), ⟨⟨trivial, ⟨trivial, trivial⟩⟩, ⟨⟨trivial, ⟨⟨trivial, trivial⟩, trivial⟩⟩, trivial⟩⟩⟩⟩, ⟨trivial, trivial⟩⟩⟩⟩
theorem runs25 (N : Nat) (x : S25.ta.den) : run C25 S25 (L25 N) Go.Proofs.Tryd.f25 x = F25 N x.1 x.2.1 := by kernel_rfl

/-! ### 13: incognito/incognitoref12.Same -/
def W13_4 {β : Type} (N : Nat) (x0 : Bool → Option β) (x1 : Unit → Option β) : Nat → (List ((Int × Int × ByteArray × Unit) × Int × (Int × Int × ByteArray × Unit) × Int × (List (Int × Int × ByteArray × Unit)) × (List (Int × Int × ByteArray × Unit)) × Int × Int × Unit)) → (List ((Int × Int × ByteArray × Unit) × Int × (Int × Int × ByteArray × Unit) × Int × (List (Int × Int × ByteArray × Unit)) × (List (Int × Int × ByteArray × Unit)) × Int × Int × Unit)) → Int → Option β
  | 0, _, _, _ => none
  | n + 1, t0, t1, t5 =>
  bif decide (t5 < (((List.length t0) : Nat) : Int)) then
    bif ((decide ((0 : Int) ≤ t5)) && (decide (t5 < (((List.length t0) : Nat) : Int)))) then
      bif ((decide ((0 : Int) ≤ t5)) && (decide (t5 < (((List.length t1) : Nat) : Int)))) then
        bif (Go.Inc.okOne2 (List.getD t0 (Int.toNat t5) (((0 : Int), ((0 : Int), (ByteArray.empty, ()))), ((0 : Int), (((0 : Int), ((0 : Int), (ByteArray.empty, ()))), ((0 : Int), ([], ([], ((0 : Int), ((0 : Int), ()))))))))) (List.getD t1 (Int.toNat t5) (((0 : Int), ((0 : Int), (ByteArray.empty, ()))), ((0 : Int), (((0 : Int), ((0 : Int), (ByteArray.empty, ()))), ((0 : Int), ([], ([], ((0 : Int), ((0 : Int), ())))))))))) then
          bif (!(Go.Inc.oneO (List.getD t0 (Int.toNat t5) (((0 : Int), ((0 : Int), (ByteArray.empty, ()))), ((0 : Int), (((0 : Int), ((0 : Int), (ByteArray.empty, ()))), ((0 : Int), ([], ([], ((0 : Int), ((0 : Int), ()))))))))) (List.getD t1 (Int.toNat t5) (((0 : Int), ((0 : Int), (ByteArray.empty, ()))), ((0 : Int), (((0 : Int), ((0 : Int), (ByteArray.empty, ()))), ((0 : Int), ([], ([], ((0 : Int), ((0 : Int), ()))))))))))) then
            x0 false
          else
            W13_4 N x0 x1 n t0 t1 (Go.IntKind.wrap .i64 (t5 + (1 : Int)))
        else
          none
      else
        none
    else
      none
  else
    x1 ()
def L13 (N : Nat) : Loops (Bool × Unit) := fun k ρ K => match Nat.beq k 4 with
  | true => (match adH ρ H13_4.hd with
    | some v => W13_4 N (fun t4 => K .ret (encH [(8, .bo)] (t4, ()))) (fun _ => K (.exit 0) (encH [] ())) N v.1 v.2.1 v.2.2.1
    | none => none)
  | false => none
def F13 (N : Nat) (p0 : List ((Int × Int × ByteArray × Unit) × Int × (Int × Int × ByteArray × Unit) × Int × (List (Int × Int × ByteArray × Unit)) × (List (Int × Int × ByteArray × Unit)) × Int × Int × Unit)) (p1 : List ((Int × Int × ByteArray × Unit) × Int × (Int × Int × ByteArray × Unit) × Int × (List (Int × Int × ByteArray × Unit)) × (List (Int × Int × ByteArray × Unit)) × Int × Int × Unit)) : Option (Bool × Unit) :=
  bif ((((List.length p0) : Nat) : Int) != (((List.length p1) : Nat) : Int)) then
    some (false, ())
  else
    W13_4 N
      (fun t4 =>
        some (t4, ()))
      (fun (_ : Unit) =>
        some (true, ()))
      N p0 p1 (0 : Int)
theorem loops13 (N : Nat) : loopsOk C13 (L13 N) Go.Proofs.Tryd.f13 := ⟨trivial, ⟨⟨trivial, ⟨⟨trivial, trivial⟩, trivial⟩⟩, ⟨⟨trivial, ⟨loopOk_of H13_4 N (fun K n v => W13_4 N (fun t4 => K .ret (encH [(8, .bo)] (t4, ()))) (fun _ => K (.exit 0) (encH [] ())) n v.1 v.2.1 v.2.2.1) (by kernel_rfl) (fun K v => by kernel_rfl) (fun K v => by kernel_rfl) (fun K n v => by kernel_rfl), ⟨⟨trivial, ⟨trivial, trivial⟩⟩, ⟨⟨trivial, ⟨⟨trivial, trivial⟩, trivial⟩⟩, trivial⟩⟩⟩⟩, ⟨trivial, trivial⟩⟩⟩⟩
theorem runs13 (N : Nat) (x : S13.ta.den) : run C13 S13 (L13 N) Go.Proofs.Tryd.f13 x = F13 N x.1 x.2.1 := by kernel_rfl


end Go.L12
