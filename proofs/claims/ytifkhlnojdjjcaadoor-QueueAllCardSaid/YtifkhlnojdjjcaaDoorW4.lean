/- The walks of package queue and its statements. Printed by a program of this session. -/
import Derived.Test.YtifkhlnojdjjcaaDoorW0
set_option linter.unusedVariables false
set_option maxRecDepth 100000
namespace Go.L15
open Go Go.Abs Go.Inc

/-! ### 22: incognito/sign.Takes -/
def L22 (_ : Nat) : Loops (Bool × Unit) := fun _ _ _ => none
def F22 (N : Nat) (p0 : Int) (p1 : Int × Int × ByteArray × Unit) : Option (Bool × Unit) :=
  bif (Go.Inc.okV p1) then
    bif (!(Go.Inc.right p1)) then
      some (false, ())
    else
      bif (p0 == (0 : Int)) then
        bif (p0 == (0 : Int)) then
          bif (p1.1 == (1 : Int)) then
            some (true, ())
          else
            some ((p1.1 == (2 : Int)), ())
        else
          bif (p0 == (5 : Int)) then
            some ((p1.1 == (1 : Int)), ())
          else
            bif (p0 == (6 : Int)) then
              some ((p1.1 == (3 : Int)), ())
            else
              some (false, ())
      else
        bif (p0 == (1 : Int)) then
          bif (p0 == (1 : Int)) then
            bif (p1.1 == (1 : Int)) then
              some (true, ())
            else
              some ((p1.1 == (2 : Int)), ())
          else
            bif (p0 == (5 : Int)) then
              some ((p1.1 == (1 : Int)), ())
            else
              bif (p0 == (6 : Int)) then
              some ((p1.1 == (3 : Int)), ())
            else
              some (false, ())
        else
          bif (p0 == (2 : Int)) then
            bif (p0 == (2 : Int)) then
              bif (p1.1 == (1 : Int)) then
              some (true, ())
            else
              some ((p1.1 == (2 : Int)), ())
            else
              bif (p0 == (5 : Int)) then
              some ((p1.1 == (1 : Int)), ())
            else
              bif (p0 == (6 : Int)) then
              some ((p1.1 == (3 : Int)), ())
            else
              some (false, ())
          else
            bif (p0 == (3 : Int)) then
              bif (p0 == (3 : Int)) then
              bif (p1.1 == (1 : Int)) then
              some (true, ())
            else
              some ((p1.1 == (2 : Int)), ())
            else
              bif (p0 == (5 : Int)) then
              some ((p1.1 == (1 : Int)), ())
            else
              bif (p0 == (6 : Int)) then
              some ((p1.1 == (3 : Int)), ())
            else
              some (false, ())
            else
              bif (p0 == (4 : Int)) then
              bif (p1.1 == (1 : Int)) then
              some (true, ())
            else
              some ((p1.1 == (2 : Int)), ())
            else
              bif (p0 == (5 : Int)) then
              some ((p1.1 == (1 : Int)), ())
            else
              bif (p0 == (6 : Int)) then
              some ((p1.1 == (3 : Int)), ())
            else
              some (false, ())
  else
    none
theorem loops22 (N : Nat) : loopsOk C22 (L22 N) Go.Proofs.Tryd.f22 := ⟨trivial, ⟨⟨trivial, ⟨⟨trivial, trivial⟩, trivial⟩⟩, ⟨⟨trivial, ⟨⟨trivial, ⟨trivial, ⟨trivial, ⟨trivial, ⟨trivial, ⟨trivial, ⟨trivial, ⟨trivial, trivial⟩⟩⟩⟩⟩⟩⟩⟩, ⟨⟨trivial, trivial⟩, ⟨trivial, ⟨⟨trivial, trivial⟩, trivial⟩⟩⟩⟩⟩, ⟨trivial, trivial⟩⟩⟩⟩
theorem runs22 (N : Nat) (x : S22.ta.den) : run C22 S22 (L22 N) Go.Proofs.Tryd.f22 x = F22 N x.1 x.2.1 := by kernel_rfl

/-! ### 27: incognito/sign.find -/
def L27 (_ : Nat) : Loops ((Int × Int × ByteArray × Int × Bool × Unit) × Bool × Unit) := fun _ _ _ => none
def F27 (N : Nat) (p0 : Int) (p1 : Int) : Option ((Int × Int × ByteArray × Int × Bool × Unit) × Bool × Unit) :=
  bif decide ((Go.Inc.idxR (((1 : Int), ((1 : Int), ((strL [118]), ((-(1 : Int)), (false, ()))))) :: (((1 : Int), ((2 : Int), ((strL []), ((2 : Int), (true, ()))))) :: (((2 : Int), ((1 : Int), ((strL [118]), ((-(1 : Int)), (false, ()))))) :: (((2 : Int), ((2 : Int), ((strL []), ((2 : Int), (true, ()))))) :: (((2 : Int), ((3 : Int), ((strL [118, 118]), ((6 : Int), (false, ()))))) :: (((3 : Int), ((4 : Int), ((strL [118]), ((-(1 : Int)), (false, ()))))) :: (((3 : Int), ((5 : Int), ((strL [118]), ((-(1 : Int)), (false, ()))))) :: (((3 : Int), ((6 : Int), ((strL [118]), ((6 : Int), (false, ()))))) :: (((4 : Int), ((7 : Int), ((strL [102, 118]), ((-(1 : Int)), (false, ()))))) :: (((4 : Int), ((8 : Int), ((strL [102]), ((2 : Int), (true, ()))))) :: (((4 : Int), ((5 : Int), ((strL [102]), ((-(1 : Int)), (false, ()))))) :: (((5 : Int), ((9 : Int), ((strL [118]), ((-(1 : Int)), (false, ()))))) :: (((5 : Int), ((10 : Int), ((strL []), ((2 : Int), (true, ()))))) :: (((6 : Int), ((9 : Int), ((strL [118]), ((-(1 : Int)), (false, ()))))) :: (((6 : Int), ((10 : Int), ((strL []), ((2 : Int), (true, ()))))) :: (((7 : Int), ((11 : Int), ((strL []), ((6 : Int), (false, ()))))) :: (((7 : Int), ((12 : Int), ((strL []), ((6 : Int), (false, ()))))) :: (((8 : Int), ((4 : Int), ((strL [110]), ((-(1 : Int)), (false, ()))))) :: (((8 : Int), ((2 : Int), ((strL []), ((5 : Int), (false, ()))))) :: (((9 : Int), ((1 : Int), ((strL [111]), ((-(1 : Int)), (false, ()))))) :: (((9 : Int), ((2 : Int), ((strL []), ((4 : Int), (true, ()))))) :: (((10 : Int), ((7 : Int), ((strL [111, 118]), ((-(1 : Int)), (false, ()))))) :: (((10 : Int), ((5 : Int), ((strL [111]), ((-(1 : Int)), (false, ()))))) :: (((10 : Int), ((13 : Int), ((strL [111, 111]), ((99 : Int), (false, ()))))) :: ([] : List (Int × (Int × (ByteArray × (Int × (Bool × Unit)))))))))))))))))))))))))))))) p0 p1) < (0 : Int)) then
    some (((0 : Int), ((0 : Int), (ByteArray.empty, ((0 : Int), (false, ()))))), (false, ()))
  else
    bif ((decide ((0 : Int) ≤ (Go.Inc.idxR (((1 : Int), ((1 : Int), ((strL [118]), ((-(1 : Int)), (false, ()))))) :: (((1 : Int), ((2 : Int), ((strL []), ((2 : Int), (true, ()))))) :: (((2 : Int), ((1 : Int), ((strL [118]), ((-(1 : Int)), (false, ()))))) :: (((2 : Int), ((2 : Int), ((strL []), ((2 : Int), (true, ()))))) :: (((2 : Int), ((3 : Int), ((strL [118, 118]), ((6 : Int), (false, ()))))) :: (((3 : Int), ((4 : Int), ((strL [118]), ((-(1 : Int)), (false, ()))))) :: (((3 : Int), ((5 : Int), ((strL [118]), ((-(1 : Int)), (false, ()))))) :: (((3 : Int), ((6 : Int), ((strL [118]), ((6 : Int), (false, ()))))) :: (((4 : Int), ((7 : Int), ((strL [102, 118]), ((-(1 : Int)), (false, ()))))) :: (((4 : Int), ((8 : Int), ((strL [102]), ((2 : Int), (true, ()))))) :: (((4 : Int), ((5 : Int), ((strL [102]), ((-(1 : Int)), (false, ()))))) :: (((5 : Int), ((9 : Int), ((strL [118]), ((-(1 : Int)), (false, ()))))) :: (((5 : Int), ((10 : Int), ((strL []), ((2 : Int), (true, ()))))) :: (((6 : Int), ((9 : Int), ((strL [118]), ((-(1 : Int)), (false, ()))))) :: (((6 : Int), ((10 : Int), ((strL []), ((2 : Int), (true, ()))))) :: (((7 : Int), ((11 : Int), ((strL []), ((6 : Int), (false, ()))))) :: (((7 : Int), ((12 : Int), ((strL []), ((6 : Int), (false, ()))))) :: (((8 : Int), ((4 : Int), ((strL [110]), ((-(1 : Int)), (false, ()))))) :: (((8 : Int), ((2 : Int), ((strL []), ((5 : Int), (false, ()))))) :: (((9 : Int), ((1 : Int), ((strL [111]), ((-(1 : Int)), (false, ()))))) :: (((9 : Int), ((2 : Int), ((strL []), ((4 : Int), (true, ()))))) :: (((10 : Int), ((7 : Int), ((strL [111, 118]), ((-(1 : Int)), (false, ()))))) :: (((10 : Int), ((5 : Int), ((strL [111]), ((-(1 : Int)), (false, ()))))) :: (((10 : Int), ((13 : Int), ((strL [111, 111]), ((99 : Int), (false, ()))))) :: ([] : List (Int × (Int × (ByteArray × (Int × (Bool × Unit)))))))))))))))))))))))))))))) p0 p1))) && (decide ((Go.Inc.idxR (((1 : Int), ((1 : Int), ((strL [118]), ((-(1 : Int)), (false, ()))))) :: (((1 : Int), ((2 : Int), ((strL []), ((2 : Int), (true, ()))))) :: (((2 : Int), ((1 : Int), ((strL [118]), ((-(1 : Int)), (false, ()))))) :: (((2 : Int), ((2 : Int), ((strL []), ((2 : Int), (true, ()))))) :: (((2 : Int), ((3 : Int), ((strL [118, 118]), ((6 : Int), (false, ()))))) :: (((3 : Int), ((4 : Int), ((strL [118]), ((-(1 : Int)), (false, ()))))) :: (((3 : Int), ((5 : Int), ((strL [118]), ((-(1 : Int)), (false, ()))))) :: (((3 : Int), ((6 : Int), ((strL [118]), ((6 : Int), (false, ()))))) :: (((4 : Int), ((7 : Int), ((strL [102, 118]), ((-(1 : Int)), (false, ()))))) :: (((4 : Int), ((8 : Int), ((strL [102]), ((2 : Int), (true, ()))))) :: (((4 : Int), ((5 : Int), ((strL [102]), ((-(1 : Int)), (false, ()))))) :: (((5 : Int), ((9 : Int), ((strL [118]), ((-(1 : Int)), (false, ()))))) :: (((5 : Int), ((10 : Int), ((strL []), ((2 : Int), (true, ()))))) :: (((6 : Int), ((9 : Int), ((strL [118]), ((-(1 : Int)), (false, ()))))) :: (((6 : Int), ((10 : Int), ((strL []), ((2 : Int), (true, ()))))) :: (((7 : Int), ((11 : Int), ((strL []), ((6 : Int), (false, ()))))) :: (((7 : Int), ((12 : Int), ((strL []), ((6 : Int), (false, ()))))) :: (((8 : Int), ((4 : Int), ((strL [110]), ((-(1 : Int)), (false, ()))))) :: (((8 : Int), ((2 : Int), ((strL []), ((5 : Int), (false, ()))))) :: (((9 : Int), ((1 : Int), ((strL [111]), ((-(1 : Int)), (false, ()))))) :: (((9 : Int), ((2 : Int), ((strL []), ((4 : Int), (true, ()))))) :: (((10 : Int), ((7 : Int), ((strL [111, 118]), ((-(1 : Int)), (false, ()))))) :: (((10 : Int), ((5 : Int), ((strL [111]), ((-(1 : Int)), (false, ()))))) :: (((10 : Int), ((13 : Int), ((strL [111, 111]), ((99 : Int), (false, ()))))) :: ([] : List (Int × (Int × (ByteArray × (Int × (Bool × Unit)))))))))))))))))))))))))))))) p0 p1) < (((List.length (((1 : Int), ((1 : Int), ((strL [118]), ((-(1 : Int)), (false, ()))))) :: (((1 : Int), ((2 : Int), ((strL []), ((2 : Int), (true, ()))))) :: (((2 : Int), ((1 : Int), ((strL [118]), ((-(1 : Int)), (false, ()))))) :: (((2 : Int), ((2 : Int), ((strL []), ((2 : Int), (true, ()))))) :: (((2 : Int), ((3 : Int), ((strL [118, 118]), ((6 : Int), (false, ()))))) :: (((3 : Int), ((4 : Int), ((strL [118]), ((-(1 : Int)), (false, ()))))) :: (((3 : Int), ((5 : Int), ((strL [118]), ((-(1 : Int)), (false, ()))))) :: (((3 : Int), ((6 : Int), ((strL [118]), ((6 : Int), (false, ()))))) :: (((4 : Int), ((7 : Int), ((strL [102, 118]), ((-(1 : Int)), (false, ()))))) :: (((4 : Int), ((8 : Int), ((strL [102]), ((2 : Int), (true, ()))))) :: (((4 : Int), ((5 : Int), ((strL [102]), ((-(1 : Int)), (false, ()))))) :: (((5 : Int), ((9 : Int), ((strL [118]), ((-(1 : Int)), (false, ()))))) :: (((5 : Int), ((10 : Int), ((strL []), ((2 : Int), (true, ()))))) :: (((6 : Int), ((9 : Int), ((strL [118]), ((-(1 : Int)), (false, ()))))) :: (((6 : Int), ((10 : Int), ((strL []), ((2 : Int), (true, ()))))) :: (((7 : Int), ((11 : Int), ((strL []), ((6 : Int), (false, ()))))) :: (((7 : Int), ((12 : Int), ((strL []), ((6 : Int), (false, ()))))) :: (((8 : Int), ((4 : Int), ((strL [110]), ((-(1 : Int)), (false, ()))))) :: (((8 : Int), ((2 : Int), ((strL []), ((5 : Int), (false, ()))))) :: (((9 : Int), ((1 : Int), ((strL [111]), ((-(1 : Int)), (false, ()))))) :: (((9 : Int), ((2 : Int), ((strL []), ((4 : Int), (true, ()))))) :: (((10 : Int), ((7 : Int), ((strL [111, 118]), ((-(1 : Int)), (false, ()))))) :: (((10 : Int), ((5 : Int), ((strL [111]), ((-(1 : Int)), (false, ()))))) :: (((10 : Int), ((13 : Int), ((strL [111, 111]), ((99 : Int), (false, ()))))) :: ([] : List (Int × (Int × (ByteArray × (Int × (Bool × Unit))))))))))))))))))))))))))))))) : Nat) : Int)))) then
      some ((List.getD (((1 : Int), ((1 : Int), ((strL [118]), ((-(1 : Int)), (false, ()))))) :: (((1 : Int), ((2 : Int), ((strL []), ((2 : Int), (true, ()))))) :: (((2 : Int), ((1 : Int), ((strL [118]), ((-(1 : Int)), (false, ()))))) :: (((2 : Int), ((2 : Int), ((strL []), ((2 : Int), (true, ()))))) :: (((2 : Int), ((3 : Int), ((strL [118, 118]), ((6 : Int), (false, ()))))) :: (((3 : Int), ((4 : Int), ((strL [118]), ((-(1 : Int)), (false, ()))))) :: (((3 : Int), ((5 : Int), ((strL [118]), ((-(1 : Int)), (false, ()))))) :: (((3 : Int), ((6 : Int), ((strL [118]), ((6 : Int), (false, ()))))) :: (((4 : Int), ((7 : Int), ((strL [102, 118]), ((-(1 : Int)), (false, ()))))) :: (((4 : Int), ((8 : Int), ((strL [102]), ((2 : Int), (true, ()))))) :: (((4 : Int), ((5 : Int), ((strL [102]), ((-(1 : Int)), (false, ()))))) :: (((5 : Int), ((9 : Int), ((strL [118]), ((-(1 : Int)), (false, ()))))) :: (((5 : Int), ((10 : Int), ((strL []), ((2 : Int), (true, ()))))) :: (((6 : Int), ((9 : Int), ((strL [118]), ((-(1 : Int)), (false, ()))))) :: (((6 : Int), ((10 : Int), ((strL []), ((2 : Int), (true, ()))))) :: (((7 : Int), ((11 : Int), ((strL []), ((6 : Int), (false, ()))))) :: (((7 : Int), ((12 : Int), ((strL []), ((6 : Int), (false, ()))))) :: (((8 : Int), ((4 : Int), ((strL [110]), ((-(1 : Int)), (false, ()))))) :: (((8 : Int), ((2 : Int), ((strL []), ((5 : Int), (false, ()))))) :: (((9 : Int), ((1 : Int), ((strL [111]), ((-(1 : Int)), (false, ()))))) :: (((9 : Int), ((2 : Int), ((strL []), ((4 : Int), (true, ()))))) :: (((10 : Int), ((7 : Int), ((strL [111, 118]), ((-(1 : Int)), (false, ()))))) :: (((10 : Int), ((5 : Int), ((strL [111]), ((-(1 : Int)), (false, ()))))) :: (((10 : Int), ((13 : Int), ((strL [111, 111]), ((99 : Int), (false, ()))))) :: ([] : List (Int × (Int × (ByteArray × (Int × (Bool × Unit)))))))))))))))))))))))))))))) (Int.toNat (Go.Inc.idxR (((1 : Int), ((1 : Int), ((strL [118]), ((-(1 : Int)), (false, ()))))) :: (((1 : Int), ((2 : Int), ((strL []), ((2 : Int), (true, ()))))) :: (((2 : Int), ((1 : Int), ((strL [118]), ((-(1 : Int)), (false, ()))))) :: (((2 : Int), ((2 : Int), ((strL []), ((2 : Int), (true, ()))))) :: (((2 : Int), ((3 : Int), ((strL [118, 118]), ((6 : Int), (false, ()))))) :: (((3 : Int), ((4 : Int), ((strL [118]), ((-(1 : Int)), (false, ()))))) :: (((3 : Int), ((5 : Int), ((strL [118]), ((-(1 : Int)), (false, ()))))) :: (((3 : Int), ((6 : Int), ((strL [118]), ((6 : Int), (false, ()))))) :: (((4 : Int), ((7 : Int), ((strL [102, 118]), ((-(1 : Int)), (false, ()))))) :: (((4 : Int), ((8 : Int), ((strL [102]), ((2 : Int), (true, ()))))) :: (((4 : Int), ((5 : Int), ((strL [102]), ((-(1 : Int)), (false, ()))))) :: (((5 : Int), ((9 : Int), ((strL [118]), ((-(1 : Int)), (false, ()))))) :: (((5 : Int), ((10 : Int), ((strL []), ((2 : Int), (true, ()))))) :: (((6 : Int), ((9 : Int), ((strL [118]), ((-(1 : Int)), (false, ()))))) :: (((6 : Int), ((10 : Int), ((strL []), ((2 : Int), (true, ()))))) :: (((7 : Int), ((11 : Int), ((strL []), ((6 : Int), (false, ()))))) :: (((7 : Int), ((12 : Int), ((strL []), ((6 : Int), (false, ()))))) :: (((8 : Int), ((4 : Int), ((strL [110]), ((-(1 : Int)), (false, ()))))) :: (((8 : Int), ((2 : Int), ((strL []), ((5 : Int), (false, ()))))) :: (((9 : Int), ((1 : Int), ((strL [111]), ((-(1 : Int)), (false, ()))))) :: (((9 : Int), ((2 : Int), ((strL []), ((4 : Int), (true, ()))))) :: (((10 : Int), ((7 : Int), ((strL [111, 118]), ((-(1 : Int)), (false, ()))))) :: (((10 : Int), ((5 : Int), ((strL [111]), ((-(1 : Int)), (false, ()))))) :: (((10 : Int), ((13 : Int), ((strL [111, 111]), ((99 : Int), (false, ()))))) :: ([] : List (Int × (Int × (ByteArray × (Int × (Bool × Unit)))))))))))))))))))))))))))))) p0 p1)) ((0 : Int), ((0 : Int), (ByteArray.empty, ((0 : Int), (false, ())))))), (true, ()))
    else
      none
theorem loops27 (N : Nat) : loopsOk C27 (L27 N) Go.Proofs.Tryd.f27 := ⟨trivial, ⟨trivial, ⟨trivial, ⟨⟨trivial, ⟨⟨trivial, trivial⟩, trivial⟩⟩, ⟨trivial, trivial⟩⟩⟩⟩⟩
theorem runs27 (N : Nat) (x : S27.ta.den) : run C27 S27 (L27 N) Go.Proofs.Tryd.f27 x = F27 N x.1 x.2.1 := by kernel_rfl

/-! ### 38: incognito/sign.domain -/
def L38 (_ : Nat) : Loops (Int × Unit) := fun _ _ _ => none
def F38 (N : Nat) (p0 : Int) : Option (Int × Unit) :=
  bif (p0 == (118 : Int)) then
    some ((2 : Int), ())
  else
    bif (p0 == (102 : Int)) then
      some ((3 : Int), ())
    else
      bif (p0 == (111 : Int)) then
        some ((4 : Int), ())
      else
        some ((5 : Int), ())
theorem loops38 (N : Nat) : loopsOk C38 (L38 N) Go.Proofs.Tryd.f38 := ⟨trivial, ⟨⟨trivial, ⟨trivial, ⟨⟨trivial, trivial⟩, ⟨trivial, ⟨⟨trivial, trivial⟩, ⟨trivial, ⟨⟨trivial, trivial⟩, trivial⟩⟩⟩⟩⟩⟩⟩, ⟨trivial, trivial⟩⟩⟩
theorem runs38 (N : Nat) (x : S38.ta.den) : run C38 S38 (L38 N) Go.Proofs.Tryd.f38 x = F38 N x.1 := by kernel_rfl

/-! ### 23: incognito/sign.Fits -/
def W23_5 {β : Type} (N : Nat) (x0 : Bool → Option β) (x1 : Unit → Option β) : Nat → (List (Int × Int × ByteArray × Unit)) → (List Int) → Int → Int → Option β
  | 0, _, _, _, _ => none
  | n + 1, t2, t26, t27, t28 =>
  bif decide (t28 < t27) then
    bif ((decide ((0 : Int) ≤ t28)) && (decide (t28 < (((List.length t26) : Nat) : Int)))) then
      bif ((decide ((0 : Int) ≤ t28)) && (decide (t28 < (((List.length t2) : Nat) : Int)))) then
        bif (Go.Inc.okT (List.getD t26 (Int.toNat t28) (0 : Int)) (List.getD t2 (Int.toNat t28) ((0 : Int), ((0 : Int), (ByteArray.empty, ()))))) then
          bif (!(Go.Inc.takes (List.getD t26 (Int.toNat t28) (0 : Int)) (List.getD t2 (Int.toNat t28) ((0 : Int), ((0 : Int), (ByteArray.empty, ())))))) then
            x0 false
          else
            W23_5 N x0 x1 n t2 t26 t27 (Go.IntKind.wrap .i64 (t28 + (1 : Int)))
        else
          none
      else
        none
    else
      none
  else
    x1 ()
def L23 (N : Nat) : Loops (Bool × Unit) := fun k ρ K => match Nat.beq k 5 with
  | true => (match adH ρ H23_5.hd with
    | some v => W23_5 N (fun t6 => K .ret (encH [(12, .bo)] (t6, ()))) (fun _ => K (.exit 0) (encH [] ())) N v.1 v.2.1 v.2.2.1 v.2.2.2.1
    | none => none)
  | false => none
def F23 (N : Nat) (p0 : Int) (p1 : Int) (p2 : List (Int × Int × ByteArray × Unit)) : Option (Bool × Unit) :=
  bif (!(((Go.Inc.argsGo p0 p1).2).1)) then
    some (false, ())
  else
    bif ((((List.length ((Go.Inc.argsGo p0 p1).1)) : Nat) : Int) != (((List.length p2) : Nat) : Int)) then
      some (false, ())
    else
      W23_5 N
        (fun t6 =>
          some (t6, ()))
        (fun (_ : Unit) =>
          some (true, ()))
        N p2 ((Go.Inc.argsGo p0 p1).1) (((List.length ((Go.Inc.argsGo p0 p1).1)) : Nat) : Int) (0 : Int)
theorem loops23 (N : Nat) : loopsOk C23 (L23 N) Go.Proofs.Tryd.f23 := ⟨trivial, ⟨trivial, ⟨⟨trivial, ⟨⟨trivial, trivial⟩, trivial⟩⟩, ⟨⟨trivial, ⟨loopOk_of H23_5 N (fun K n v => W23_5 N (fun t6 => K .ret (encH [(12, .bo)] (t6, ()))) (fun _ => K (.exit 0) (encH [] ())) n v.1 v.2.1 v.2.2.1 v.2.2.2.1) (by kernel_rfl) (fun K v => by kernel_rfl) (fun K v => by kernel_rfl) (fun K n v => by kernel_rfl), ⟨trivial, ⟨⟨trivial, trivial⟩, ⟨⟨trivial, ⟨trivial, ⟨⟨trivial, trivial⟩, trivial⟩⟩⟩, trivial⟩⟩⟩⟩⟩, ⟨trivial, trivial⟩⟩⟩⟩⟩
theorem runs23 (N : Nat) (x : S23.ta.den) : run C23 S23 (L23 N) Go.Proofs.Tryd.f23 x = F23 N x.1 x.2.1 x.2.2.1 := by kernel_rfl

/-! ### 12: incognito/queue.Step -/
def L12 (_ : Nat) : Loops ((Int × (Int × Int × ByteArray × Unit) × Int × (List (Int × Int × ByteArray × Unit)) × Unit) × (List (Int × Int × ByteArray × Unit)) × Bool × Unit) := fun _ _ _ => none
def F12 (N : Nat) (p0 : Int × (Int × Int × ByteArray × Unit) × Int × (List (Int × Int × ByteArray × Unit)) × Unit) (p1 : Int × Int × ByteArray × Unit) (p2 : Int) (p3 : List (Int × Int × ByteArray × Unit)) : Option ((Int × (Int × Int × ByteArray × Unit) × Int × (List (Int × Int × ByteArray × Unit)) × Unit) × (List (Int × Int × ByteArray × Unit)) × Bool × Unit) :=
  bif (!(((Go.Inc.queueNew p0.1).2).1)) then
    some (((0 : Int), (((0 : Int), ((0 : Int), (ByteArray.empty, ()))), ((0 : Int), (([] : List (Int × (Int × (ByteArray × Unit)))), ())))), (([] : List (Int × (Int × (ByteArray × Unit)))), (false, ())))
  else
    bif (Go.Inc.okT (0 : Int) p1) then
      bif (!(Go.Inc.takes (0 : Int) p1)) then
        some (((0 : Int), (((0 : Int), ((0 : Int), (ByteArray.empty, ()))), ((0 : Int), (([] : List (Int × (Int × (ByteArray × Unit)))), ())))), (([] : List (Int × (Int × (ByteArray × Unit)))), (false, ())))
      else
        bif (Go.Inc.okF p0.1 p2 p3) then
          bif (!(Go.Inc.fits p0.1 p2 p3)) then
            some (((0 : Int), (((0 : Int), ((0 : Int), (ByteArray.empty, ()))), ((0 : Int), (([] : List (Int × (Int × (ByteArray × Unit)))), ())))), (([] : List (Int × (Int × (ByteArray × Unit)))), (false, ())))
          else
            bif (p2 == (9 : Int)) then
              bif ((decide ((0 : Int) ≤ (0 : Int))) && ((decide ((0 : Int) ≤ (((List.length p0.2.2.2.1) : Nat) : Int))) && (decide ((((List.length p0.2.2.2.1) : Nat) : Int) ≤ (((List.length p0.2.2.2.1) : Nat) : Int))))) then
              bif ((((List.length p0.2.2.2.1) : Nat) : Int) == (((List.length p0.2.2.2.1) : Nat) : Int)) then
              bif ((decide ((0 : Int) ≤ (0 : Int))) && (decide ((0 : Int) < (((List.length p3) : Nat) : Int)))) then
              bif decide ((((List.length (Go.Abs.sub p0.2.2.2.1 (0 : Int) (((List.length p0.2.2.2.1) : Nat) : Int))) + (List.length ((List.getD p3 (Int.toNat (0 : Int)) ((0 : Int), ((0 : Int), (ByteArray.empty, ())))) :: ([] : List (Int × (Int × (ByteArray × Unit))))))) * 32) ≤ 140737488351232) then
              some ((p0.1, (p0.2.1, (p0.2.2.1, (((Go.Abs.sub p0.2.2.2.1 (0 : Int) (((List.length p0.2.2.2.1) : Nat) : Int)) ++ ((List.getD p3 (Int.toNat (0 : Int)) ((0 : Int), ((0 : Int), (ByteArray.empty, ())))) :: ([] : List (Int × (Int × (ByteArray × Unit)))))), ())))), (([] : List (Int × (Int × (ByteArray × Unit)))), (true, ())))
            else
              none
            else
              none
            else
              none
            else
              none
            else
              bif (Go.Inc.okPop p0) then
              some ((p0.1, (p0.2.1, (p0.2.2.1, ((Go.Inc.queuePop p0).1, ())))), (((((Go.Inc.queuePop p0).2).1) :: ([] : List (Int × (Int × (ByteArray × Unit))))), (true, ())))
            else
              none
        else
          none
    else
      none
theorem loops12 (N : Nat) : loopsOk C12 (L12 N) Go.Proofs.Tryd.f12 := ⟨trivial, ⟨trivial, ⟨⟨trivial, ⟨⟨trivial, trivial⟩, trivial⟩⟩, ⟨⟨trivial, ⟨⟨trivial, ⟨trivial, trivial⟩⟩, trivial⟩⟩, ⟨trivial, ⟨trivial, ⟨trivial, trivial⟩⟩⟩⟩⟩⟩⟩
theorem runs12 (N : Nat) (x : S12.ta.den) : run C12 S12 (L12 N) Go.Proofs.Tryd.f12 x = F12 N x.1 x.2.1 x.2.2.1 x.2.2.2.1 := by kernel_rfl

/-! ### 21: incognito/incognitoref15.left -/
def W21_8 {β : Type} (N : Nat) (x3 : Int → (List ((Int × Int × ByteArray × Unit) × Int × (List (Int × Int × ByteArray × Unit)) × Unit)) → Nat → Int → Int → (List Bool) → Option β) : Nat → Int → (List ((Int × Int × ByteArray × Unit) × Int × (List (Int × Int × ByteArray × Unit)) × Unit)) → Nat → Int → Int → Int → (List Bool) → Option β
  | 0, _, _, _, _, _, _, _ => none
  | n + 1, t0, t1, t5, t6, t7, t8, b13 =>
  bif decide (t8 < t6) then
    bif ((decide ((0 : Int) ≤ t8)) && (decide (t8 < (((List.length t1) : Nat) : Int)))) then
      bif ((((List.getD t1 (Int.toNat t8) (((0 : Int), ((0 : Int), (ByteArray.empty, ()))), ((0 : Int), ([], ())))).2).1) == (9 : Int)) then
        bif ((decide ((0 : Int) ≤ t8)) && (decide (t8 < ((t5 : Nat) : Int)))) then
          bif decide ((Int.toNat t8) < (List.length b13)) then
            bif (!(List.getD b13 (Int.toNat t8) false)) then
              bif (t0 == (6 : Int)) then
              W21_8 N x3 n t0 t1 t5 t6 t8 (Go.IntKind.wrap .i64 (t8 + (1 : Int))) b13
            else
              bif decide (t7 < (0 : Int)) then
              W21_8 N x3 n t0 t1 t5 t6 t8 (Go.IntKind.wrap .i64 (t8 + (1 : Int))) b13
            else
              W21_8 N x3 n t0 t1 t5 t6 t7 (Go.IntKind.wrap .i64 (t8 + (1 : Int))) b13
            else
              W21_8 N x3 n t0 t1 t5 t6 t7 (Go.IntKind.wrap .i64 (t8 + (1 : Int))) b13
          else
            none
        else
          none
      else
        W21_8 N x3 n t0 t1 t5 t6 t7 (Go.IntKind.wrap .i64 (t8 + (1 : Int))) b13
    else
      none
  else
    x3 t0 t1 t5 t6 t7 b13
def W21_3 {β : Type} (N : Nat) (x1 : (List ((Int × Int × ByteArray × Unit) × Int × (List (Int × Int × ByteArray × Unit)) × Unit)) → Nat → (List Bool) → Option β) : Nat → Int → (List ((Int × Int × ByteArray × Unit) × Int × (List (Int × Int × ByteArray × Unit)) × Unit)) → Nat → Int → (List Bool) → Option β
  | 0, _, _, _, _, _ => none
  | n + 1, t0, t1, t5, t6, b13 =>
  bif decide (t6 < (((List.length t1) : Nat) : Int)) then
    bif ((decide ((0 : Int) ≤ t6)) && (decide (t6 < (((List.length t1) : Nat) : Int)))) then
      bif ((((List.getD t1 (Int.toNat t6) (((0 : Int), ((0 : Int), (ByteArray.empty, ()))), ((0 : Int), ([], ())))).2).1) != (10 : Int)) then
        W21_3 N x1 n t0 t1 t5 (Go.IntKind.wrap .i64 (t6 + (1 : Int))) b13
      else
        W21_8 N
          (fun t0 t1 t5 t6 t7 b13 =>
            bif decide (t7 ≥ (0 : Int)) then
              bif ((decide ((0 : Int) ≤ t7)) && (decide (t7 < ((t5 : Nat) : Int)))) then
              bif decide ((Int.toNat t7) < (List.length b13)) then
              W21_3 N x1 n t0 t1 t5 (Go.IntKind.wrap .i64 (t6 + (1 : Int))) (List.set b13 (Int.toNat t7) true)
            else
              none
            else
              none
            else
              W21_3 N x1 n t0 t1 t5 (Go.IntKind.wrap .i64 (t6 + (1 : Int))) b13)
          N t0 t1 t5 t6 (-(1 : Int)) (0 : Int) b13
    else
      none
  else
    x1 t1 t5 b13
def W21_16 {β : Type} (N : Nat) (x5 : (List (Int × Int × ByteArray × Unit)) → Option β) : Nat → (List ((Int × Int × ByteArray × Unit) × Int × (List (Int × Int × ByteArray × Unit)) × Unit)) → Nat → (List (Int × Int × ByteArray × Unit)) → Int → (List Bool) → Option β
  | 0, _, _, _, _, _ => none
  | n + 1, t1, t5, t9, t10, b13 =>
  bif decide (t10 < (((List.length t1) : Nat) : Int)) then
    bif ((decide ((0 : Int) ≤ t10)) && (decide (t10 < (((List.length t1) : Nat) : Int)))) then
      bif ((((List.getD t1 (Int.toNat t10) (((0 : Int), ((0 : Int), (ByteArray.empty, ()))), ((0 : Int), ([], ())))).2).1) == (9 : Int)) then
        bif ((decide ((0 : Int) ≤ t10)) && (decide (t10 < ((t5 : Nat) : Int)))) then
          bif decide ((Int.toNat t10) < (List.length b13)) then
            bif (!(List.getD b13 (Int.toNat t10) false)) then
              bif ((decide ((0 : Int) ≤ t10)) && (decide (t10 < (((List.length t1) : Nat) : Int)))) then
              bif ((decide ((0 : Int) ≤ (0 : Int))) && (decide ((0 : Int) < (((List.length ((((List.getD t1 (Int.toNat t10) (((0 : Int), ((0 : Int), (ByteArray.empty, ()))), ((0 : Int), ([], ())))).2).2).1)) : Nat) : Int)))) then
              bif decide ((((List.length t9) + (List.length ((List.getD ((((List.getD t1 (Int.toNat t10) (((0 : Int), ((0 : Int), (ByteArray.empty, ()))), ((0 : Int), ([], ())))).2).2).1) (Int.toNat (0 : Int)) ((0 : Int), ((0 : Int), (ByteArray.empty, ())))) :: ([] : List (Int × (Int × (ByteArray × Unit))))))) * 32) ≤ 140737488351232) then
              W21_16 N x5 n t1 t5 (t9 ++ ((List.getD ((((List.getD t1 (Int.toNat t10) (((0 : Int), ((0 : Int), (ByteArray.empty, ()))), ((0 : Int), ([], ())))).2).2).1) (Int.toNat (0 : Int)) ((0 : Int), ((0 : Int), (ByteArray.empty, ())))) :: ([] : List (Int × (Int × (ByteArray × Unit)))))) (Go.IntKind.wrap .i64 (t10 + (1 : Int))) b13
            else
              none
            else
              none
            else
              none
            else
              W21_16 N x5 n t1 t5 t9 (Go.IntKind.wrap .i64 (t10 + (1 : Int))) b13
          else
            none
        else
          none
      else
        W21_16 N x5 n t1 t5 t9 (Go.IntKind.wrap .i64 (t10 + (1 : Int))) b13
    else
      none
  else
    x5 t9
def L21 (N : Nat) : Loops ((List (Int × Int × ByteArray × Unit)) × Unit) := fun k ρ K => match Nat.beq k 8 with
  | true => (match adH ρ H21_8.hd with
    | some v => W21_8 N (fun t0 t1 t5 t6 t7 b13 => K (.exit 2) (encH [(0, (.i .i64)), (2, (.sl (.pr (.pr (.int .i64) (.pr (.int .i64) (.pr .str .un))) (.pr (.int .i64) (.pr (.sl (.pr (.int .i64) (.pr (.int .i64) (.pr .str .un)))) .un))) .no)), (10, (.os 13)), (12, (.i .i64)), (14, (.i .i64)), (27, (.ar .bool))] (t0, (t1, (t5, (t6, (t7, (b13, ())))))))) N v.1 v.2.1 v.2.2.1 v.2.2.2.1 v.2.2.2.2.1 v.2.2.2.2.2.1 v.2.2.2.2.2.2.1
    | none => none)
  | false => match Nat.beq k 3 with
  | true => (match adH ρ H21_3.hd with
    | some v => W21_3 N (fun t1 t5 b13 => K (.exit 0) (encH [(2, (.sl (.pr (.pr (.int .i64) (.pr (.int .i64) (.pr .str .un))) (.pr (.int .i64) (.pr (.sl (.pr (.int .i64) (.pr (.int .i64) (.pr .str .un)))) .un))) .no)), (10, (.os 13)), (27, (.ar .bool))] (t1, (t5, (b13, ()))))) N v.1 v.2.1 v.2.2.1 v.2.2.2.1 v.2.2.2.2.1
    | none => none)
  | false => match Nat.beq k 16 with
  | true => (match adH ρ H21_16.hd with
    | some v => W21_16 N (fun t9 => K (.exit 4) (encH [(18, (.sl (.pr (.int .i64) (.pr (.int .i64) (.pr .str .un))) (.own 86)))] (t9, ()))) N v.1 v.2.1 v.2.2.1 v.2.2.2.1 v.2.2.2.2.1
    | none => none)
  | false => none
def F21 (N : Nat) (p0 : Int) (p1 : List ((Int × Int × ByteArray × Unit) × Int × (List (Int × Int × ByteArray × Unit)) × Unit)) : Option ((List (Int × Int × ByteArray × Unit)) × Unit) :=
  bif ((decide ((0 : Int) ≤ (((List.length p1) : Nat) : Int))) && ((decide (((((List.length p1) : Nat) : Int) * ((1 : Nat) : Int)) ≤ (140737488351232 : Int))) && ((((List.length p1) : Nat) : Int) == (((List.length p1) : Nat) : Int)))) then
    W21_3 N
      (fun t1 t5 b13 =>
        W21_16 N
          (fun t9 =>
            some (t9, ()))
          N t1 t5 ([] : List (Int × (Int × (ByteArray × Unit)))) (0 : Int) b13)
      N p0 p1 (Int.toNat (((List.length p1) : Nat) : Int)) (0 : Int) (List.replicate (Int.toNat (((List.length p1) : Nat) : Int)) false)
  else
    none
theorem loops21 (N : Nat) : loopsOk C21 (L21 N) Go.Proofs.Tryd.f21 := ⟨trivial, ⟨trivial, ⟨⟨trivial, ⟨loopOk_of H21_3 N (fun K n v => W21_3 N (fun t1 t5 b13 => K (.exit 0) (encH [(2, (.sl (.pr (.pr (.int .i64) (.pr (.int .i64) (.pr .str .un))) (.pr (.int .i64) (.pr (.sl (.pr (.int .i64) (.pr (.int .i64) (.pr .str .un)))) .un))) .no)), (10, (.os 13)), (27, (.ar .bool))] (t1, (t5, (b13, ()))))) n v.1 v.2.1 v.2.2.1 v.2.2.2.1 v.2.2.2.2.1) (by kernel_rfl) (fun K v => by kernel_rfl) (fun K v => by kernel_rfl) (fun K n v => by kernel_rfl), ⟨⟨trivial, ⟨trivial, trivial⟩⟩, ⟨⟨⟨trivial, ⟨trivial, trivial⟩⟩, ⟨trivial, ⟨⟨trivial, ⟨loopOk_of H21_8 N (fun K n v => W21_8 N (fun t0 t1 t5 t6 t7 b13 => K (.exit 2) (encH [(0, (.i .i64)), (2, (.sl (.pr (.pr (.int .i64) (.pr (.int .i64) (.pr .str .un))) (.pr (.int .i64) (.pr (.sl (.pr (.int .i64) (.pr (.int .i64) (.pr .str .un)))) .un))) .no)), (10, (.os 13)), (12, (.i .i64)), (14, (.i .i64)), (27, (.ar .bool))] (t0, (t1, (t5, (t6, (t7, (b13, ())))))))) n v.1 v.2.1 v.2.2.1 v.2.2.2.1 v.2.2.2.2.1 v.2.2.2.2.2.1 v.2.2.2.2.2.2.1) (by kernel_rfl) (fun K v => by kernel_rfl) (fun K v => by kernel_rfl) (fun K n v => by kernel_rfl), ⟨⟨trivial, ⟨trivial, trivial⟩⟩, ⟨⟨trivial, ⟨trivial, trivial⟩⟩, trivial⟩⟩⟩⟩, ⟨trivial, ⟨trivial, trivial⟩⟩⟩⟩⟩, trivial⟩⟩⟩⟩, ⟨trivial, ⟨⟨trivial, ⟨loopOk_of H21_16 N (fun K n v => W21_16 N (fun t9 => K (.exit 4) (encH [(18, (.sl (.pr (.int .i64) (.pr (.int .i64) (.pr .str .un))) (.own 86)))] (t9, ()))) n v.1 v.2.1 v.2.2.1 v.2.2.2.1 v.2.2.2.2.1) (by kernel_rfl) (fun K v => by kernel_rfl) (fun K v => by kernel_rfl) (fun K n v => by kernel_rfl), ⟨⟨trivial, ⟨trivial, trivial⟩⟩, ⟨⟨trivial, ⟨trivial, trivial⟩⟩, trivial⟩⟩⟩⟩, ⟨trivial, trivial⟩⟩⟩⟩⟩⟩
theorem runs21 (N : Nat) (x : S21.ta.den) : run C21 S21 (L21 N) Go.Proofs.Tryd.f21 x = F21 N x.1 x.2.1 := by kernel_rfl

/-! ### 11: incognito/incognitoref15.State -/
def L11 (_ : Nat) : Loops ((Int × (Int × Int × ByteArray × Unit) × Int × (List (Int × Int × ByteArray × Unit)) × Unit) × Unit) := fun _ _ _ => none
def F11 (N : Nat) (p0 : Int) (p1 : List ((Int × Int × ByteArray × Unit) × Int × (List (Int × Int × ByteArray × Unit)) × Unit)) : Option ((Int × (Int × Int × ByteArray × Unit) × Int × (List (Int × Int × ByteArray × Unit)) × Unit) × Unit) :=
  bif (Go.Inc.okPast p0 p1) then
    some ((p0, (((0 : Int), ((0 : Int), (ByteArray.empty, ()))), ((0 : Int), ((Go.Inc.queueLeft p0 p1), ())))), ())
  else
    none
theorem loops11 (N : Nat) : loopsOk C11 (L11 N) Go.Proofs.Tryd.f11 := ⟨trivial, ⟨trivial, trivial⟩⟩
theorem runs11 (N : Nat) (x : S11.ta.den) : run C11 S11 (L11 N) Go.Proofs.Tryd.f11 x = F11 N x.1 x.2.1 := by kernel_rfl

/-! ### 41: incognito/incognitoref07.letter -/
def W41_2 {β : Type} (N : Nat) (x0 : Bool → Option β) (x1 : Int → Bool → Option β) : Nat → Int → Bool → Int → Option β
  | 0, _, _, _ => none
  | n + 1, t0, t1, t5 =>
  bif decide (t5 ≤ (122 : Int)) then
    bif (t0 == t5) then
      x0 true
    else
      W41_2 N x0 x1 n t0 t1 (Go.IntKind.wrap .u8 (t5 + (1 : Int)))
  else
    x1 t0 t1
def L41 (N : Nat) : Loops (Bool × Unit) := fun k ρ K => match Nat.beq k 2 with
  | true => (match adH ρ H41_2.hd with
    | some v => W41_2 N (fun t4 => K .ret (encH [(8, .bo)] (t4, ()))) (fun t0 t1 => K (.exit 0) (encH [(0, (.i .u8)), (2, .bo)] (t0, (t1, ())))) N v.1 v.2.1 v.2.2.1
    | none => none)
  | false => none
def F41 (N : Nat) (p0 : Int) (p1 : Bool) : Option (Bool × Unit) :=
  W41_2 N
    (fun t4 =>
      some (t4, ()))
    (fun t0 t1 =>
      bif (!t1) then
        bif (t0 == (95 : Int)) then
          some (true, ())
        else
          bif decide (t0 ≥ (48 : Int)) then
            some (decide (t0 ≤ (57 : Int)), ())
          else
            some (false, ())
      else
        some (false, ()))
    N p0 p1 (97 : Int)
theorem loops41 (N : Nat) : loopsOk C41 (L41 N) Go.Proofs.Tryd.f41 := ⟨trivial, ⟨⟨trivial, ⟨loopOk_of H41_2 N (fun K n v => W41_2 N (fun t4 => K .ret (encH [(8, .bo)] (t4, ()))) (fun t0 t1 => K (.exit 0) (encH [(0, (.i .u8)), (2, .bo)] (t0, (t1, ())))) n v.1 v.2.1 v.2.2.1) (by kernel_rfl) (fun K v => by kernel_rfl) (fun K v => by kernel_rfl) (fun K n v => by kernel_rfl), ⟨⟨trivial, ⟨trivial, trivial⟩⟩, ⟨⟨trivial, ⟨⟨trivial, trivial⟩, trivial⟩⟩, trivial⟩⟩⟩⟩, ⟨trivial, trivial⟩⟩⟩
theorem runs41 (N : Nat) (x : S41.ta.den) : run C41 S41 (L41 N) Go.Proofs.Tryd.f41 x = F41 N x.1 x.2.1 := by kernel_rfl

/-! ### 34: incognito/incognitoref07.IsWord -/
def W34_2 {β : Type} (N : Nat) (x0 : Bool → Option β) (x1 : ByteArray → Option β) : Nat → ByteArray → Int → Option β
  | 0, _, _ => none
  | n + 1, t0, t3 =>
  bif decide (t3 < (((ByteArray.size t0) : Nat) : Int)) then
    bif ((decide ((0 : Int) ≤ t3)) && (decide (t3 < (((ByteArray.size t0) : Nat) : Int)))) then
      bif (Go.Inc.ok8 (((UInt8.toNat (List.getD (Array.toList (ByteArray.data t0)) (Int.toNat t3) (0 : UInt8))) : Nat) : Int) (t3 == (0 : Int))) then
        bif (!(Go.Inc.letterGo (((UInt8.toNat (List.getD (Array.toList (ByteArray.data t0)) (Int.toNat t3) (0 : UInt8))) : Nat) : Int) (t3 == (0 : Int)))) then
          x0 false
        else
          W34_2 N x0 x1 n t0 (Go.IntKind.wrap .i64 (t3 + (1 : Int)))
      else
        none
    else
      none
  else
    x1 t0
def L34 (N : Nat) : Loops (Bool × Unit) := fun k ρ K => match Nat.beq k 2 with
  | true => (match adH ρ H34_2.hd with
    | some v => W34_2 N (fun t2 => K .ret (encH [(4, .bo)] (t2, ()))) (fun t0 => K (.exit 0) (encH [(0, .st)] (t0, ()))) N v.1 v.2.1
    | none => none)
  | false => none
def F34 (N : Nat) (p0 : ByteArray) : Option (Bool × Unit) :=
  W34_2 N
    (fun t2 =>
      some (t2, ()))
    (fun t0 =>
      bif decide ((((ByteArray.size t0) : Nat) : Int) ≥ (1 : Int)) then
        some (decide ((((ByteArray.size t0) : Nat) : Int) ≤ (40 : Int)), ())
      else
        some (false, ()))
    N p0 (0 : Int)
theorem loops34 (N : Nat) : loopsOk C34 (L34 N) Go.Proofs.Tryd.f34 := ⟨trivial, ⟨⟨trivial, ⟨loopOk_of H34_2 N (fun K n v => W34_2 N (fun t2 => K .ret (encH [(4, .bo)] (t2, ()))) (fun t0 => K (.exit 0) (encH [(0, .st)] (t0, ()))) n v.1 v.2.1) (by kernel_rfl) (fun K v => by kernel_rfl) (fun K v => by kernel_rfl) (fun K n v => by kernel_rfl), ⟨⟨trivial, ⟨trivial, trivial⟩⟩, ⟨⟨trivial, ⟨⟨trivial, trivial⟩, trivial⟩⟩, trivial⟩⟩⟩⟩, ⟨trivial, trivial⟩⟩⟩
theorem runs34 (N : Nat) (x : S34.ta.den) : run C34 S34 (L34 N) Go.Proofs.Tryd.f34 x = F34 N x.1 := by kernel_rfl

/-! ### 16: incognito/incognitoref07.Name -/
def L16 (_ : Nat) : Loops (Bool × Unit) := fun _ _ _ => none
def F16 (N : Nat) (p0 : Int × Int × ByteArray × Unit) : Option (Bool × Unit) :=
  bif (Go.Inc.okV p0) then
    bif (Go.Inc.right p0) then
      bif (p0.1 == (1 : Int)) then
        some (true, ())
      else
        some ((p0.1 == (2 : Int)), ())
    else
      some (false, ())
  else
    none
theorem loops16 (N : Nat) : loopsOk C16 (L16 N) Go.Proofs.Tryd.f16 := ⟨trivial, ⟨trivial, trivial⟩⟩
theorem runs16 (N : Nat) (x : S16.ta.den) : run C16 S16 (L16 N) Go.Proofs.Tryd.f16 x = F16 N x.1 := by kernel_rfl

/-! ### 25: incognito/incognitoref09.Fits -/
def W25_5 {β : Type} (N : Nat) (x0 : Bool → Option β) (x1 : Unit → Option β) : Nat → (List (Int × Int × ByteArray × Unit)) → (List Int) → Int → Bool → Bool → Int → Option β
  | 0, _, _, _, _, _, _ => none
  | n + 1, t2, b7a, b7ba, b7bba, b7bbba, t8 =>
  bif decide (t8 < (((List.length t2) : Nat) : Int)) then
    bif ((decide ((0 : Int) ≤ t8)) && (decide (t8 < (((List.length b7a) : Nat) : Int)))) then
      bif ((decide ((0 : Int) ≤ t8)) && (decide (t8 < (((List.length t2) : Nat) : Int)))) then
        bif (Go.Inc.okT (List.getD b7a (Int.toNat t8) (0 : Int)) (List.getD t2 (Int.toNat t8) ((0 : Int), ((0 : Int), (ByteArray.empty, ()))))) then
          bif (!(Go.Inc.takes (List.getD b7a (Int.toNat t8) (0 : Int)) (List.getD t2 (Int.toNat t8) ((0 : Int), ((0 : Int), (ByteArray.empty, ())))))) then
            x0 false
          else
            W25_5 N x0 x1 n t2 b7a b7ba b7bba b7bbba (Go.IntKind.wrap .i64 (t8 + (1 : Int)))
        else
          none
      else
        none
    else
      none
  else
    x1 ()
def L25 (N : Nat) : Loops (Bool × Unit) := fun k ρ K => match Nat.beq k 5 with
  | true => (match adH ρ H25_5.hd with
    | some v => W25_5 N (fun t6 => K .ret (encH [(12, .bo)] (t6, ()))) (fun _ => K (.exit 0) (encH [] ())) N v.1 v.2.2.1.1 v.2.2.1.2.1 v.2.2.1.2.2.1 v.2.2.1.2.2.2.1 v.2.2.2.1
    | none => none)
  | false => none
def F25 (N : Nat) (p0 : Int) (p1 : Int) (p2 : List (Int × Int × ByteArray × Unit)) : Option (Bool × Unit) :=
  bif (!(((((Go.Inc.signRef p0 p1).2).2).2).1)) then
    some (false, ())
  else
    bif ((((List.length p2) : Nat) : Int) != (((List.length ((Go.Inc.signRef p0 p1).1)) : Nat) : Int)) then
      some (false, ())
    else
      W25_5 N
        (fun t6 =>
          some (t6, ()))
        (fun (_ : Unit) =>
          some (true, ()))
        N p2 ((Go.Inc.signRef p0 p1).1) (((Go.Inc.signRef p0 p1).2).1) ((((Go.Inc.signRef p0 p1).2).2).1) (((((Go.Inc.signRef p0 p1).2).2).2).1) (0 : Int)
theorem loops25 (N : Nat) : loopsOk C25 (L25 N) Go.Proofs.Tryd.f25 := ⟨trivial, ⟨trivial, ⟨⟨trivial, ⟨⟨trivial, trivial⟩, trivial⟩⟩, ⟨⟨trivial, ⟨loopOk_of H25_5 N (fun K n v => W25_5 N (fun t6 => K .ret (encH [(12, .bo)] (t6, ()))) (fun _ => K (.exit 0) (encH [] ())) n v.1 v.2.2.1.1 v.2.2.1.2.1 v.2.2.1.2.2.1 v.2.2.1.2.2.2.1 v.2.2.2.1) (by kernel_rfl) (fun K v => by kernel_rfl) (fun K v => by kernel_rfl) (fun K n v => by kernel_rfl), ⟨⟨trivial, ⟨trivial, trivial⟩⟩, ⟨⟨trivial, ⟨⟨trivial, trivial⟩, trivial⟩⟩, trivial⟩⟩⟩⟩, ⟨trivial, trivial⟩⟩⟩⟩⟩
theorem runs25 (N : Nat) (x : S25.ta.den) : run C25 S25 (L25 N) Go.Proofs.Tryd.f25 x = F25 N x.1 x.2.1 x.2.2.1 := by kernel_rfl


end Go.L15
