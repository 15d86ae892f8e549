/- The walks of package bag and its statements. Printed by a program of this session. -/
import Derived.Test.YtjhkmflnelbbmaaDoorW0
set_option linter.unusedVariables false
set_option maxRecDepth 100000
namespace Go.L14
open Go Go.Abs Go.Inc

/-! ### 49: incognito/value.IsWord -/
def W49_4 {β : Type} (N : Nat) (x0 : Bool → Option β) (x1 : Unit → Option β) : Nat → ByteArray → Int → Int → Option β
  | 0, _, _, _ => none
  | n + 1, t0, t23, t24 =>
  bif decide (t24 < t23) then
    bif ((decide ((0 : Int) ≤ t24)) && (decide (t24 < (((ByteArray.size t0) : Nat) : Int)))) then
      bif decide ((((UInt8.toNat (List.getD (Array.toList (ByteArray.data t0)) (Int.toNat t24) (0 : UInt8))) : Nat) : Int) ≥ (97 : Int)) then
        bif decide ((((UInt8.toNat (List.getD (Array.toList (ByteArray.data t0)) (Int.toNat t24) (0 : UInt8))) : Nat) : Int) ≤ (122 : Int)) then
          W49_4 N x0 x1 n t0 t23 (Go.IntKind.wrap .i64 (t24 + (1 : Int)))
        else
          bif decide ((((UInt8.toNat (List.getD (Array.toList (ByteArray.data t0)) (Int.toNat t24) (0 : UInt8))) : Nat) : Int) ≥ (48 : Int)) then
            bif decide ((((UInt8.toNat (List.getD (Array.toList (ByteArray.data t0)) (Int.toNat t24) (0 : UInt8))) : Nat) : Int) ≤ (57 : Int)) then
              W49_4 N x0 x1 n t0 t23 (Go.IntKind.wrap .i64 (t24 + (1 : Int)))
            else
              bif (!((((UInt8.toNat (List.getD (Array.toList (ByteArray.data t0)) (Int.toNat t24) (0 : UInt8))) : Nat) : Int) == (95 : Int))) then
              x0 false
            else
              W49_4 N x0 x1 n t0 t23 (Go.IntKind.wrap .i64 (t24 + (1 : Int)))
          else
            bif (!((((UInt8.toNat (List.getD (Array.toList (ByteArray.data t0)) (Int.toNat t24) (0 : UInt8))) : Nat) : Int) == (95 : Int))) then
              x0 false
            else
              W49_4 N x0 x1 n t0 t23 (Go.IntKind.wrap .i64 (t24 + (1 : Int)))
      else
        bif decide ((((UInt8.toNat (List.getD (Array.toList (ByteArray.data t0)) (Int.toNat t24) (0 : UInt8))) : Nat) : Int) ≥ (48 : Int)) then
          bif decide ((((UInt8.toNat (List.getD (Array.toList (ByteArray.data t0)) (Int.toNat t24) (0 : UInt8))) : Nat) : Int) ≤ (57 : Int)) then
            W49_4 N x0 x1 n t0 t23 (Go.IntKind.wrap .i64 (t24 + (1 : Int)))
          else
            bif (!((((UInt8.toNat (List.getD (Array.toList (ByteArray.data t0)) (Int.toNat t24) (0 : UInt8))) : Nat) : Int) == (95 : Int))) then
              x0 false
            else
              W49_4 N x0 x1 n t0 t23 (Go.IntKind.wrap .i64 (t24 + (1 : Int)))
        else
          bif (!((((UInt8.toNat (List.getD (Array.toList (ByteArray.data t0)) (Int.toNat t24) (0 : UInt8))) : Nat) : Int) == (95 : Int))) then
            x0 false
          else
            W49_4 N x0 x1 n t0 t23 (Go.IntKind.wrap .i64 (t24 + (1 : Int)))
    else
      none
  else
    x1 ()
def L49 (N : Nat) : Loops (Bool × Unit) := fun k ρ K => match Nat.beq k 4 with
  | true => (match adH ρ H49_4.hd with
    | some v => W49_4 N (fun t2 => K .ret (encH [(4, .bo)] (t2, ()))) (fun _ => K (.exit 0) (encH [] ())) N v.1 v.2.1 v.2.2.1
    | none => none)
  | false => none
def F49 (N : Nat) (p0 : ByteArray) : Option (Bool × Unit) :=
  bif ((ByteArray.toList p0) == (ByteArray.toList (strL []))) then
    some (false, ())
  else
    bif decide ((((ByteArray.size p0) : Nat) : Int) > (40 : Int)) then
      some (false, ())
    else
      bif ((decide ((0 : Int) ≤ (0 : Int))) && (decide ((0 : Int) < (((ByteArray.size p0) : Nat) : Int)))) then
        bif decide ((((UInt8.toNat (List.getD (Array.toList (ByteArray.data p0)) (Int.toNat (0 : Int)) (0 : UInt8))) : Nat) : Int) < (97 : Int)) then
          some (false, ())
        else
          bif ((decide ((0 : Int) ≤ (0 : Int))) && (decide ((0 : Int) < (((ByteArray.size p0) : Nat) : Int)))) then
            bif decide ((((UInt8.toNat (List.getD (Array.toList (ByteArray.data p0)) (Int.toNat (0 : Int)) (0 : UInt8))) : Nat) : Int) > (122 : Int)) then
              some (false, ())
            else
              W49_4 N
              (fun t2 =>
                some (t2, ()))
              (fun (_ : Unit) =>
                some (true, ()))
              N p0 (((ByteArray.size p0) : Nat) : Int) (0 : Int)
          else
            none
      else
        none
theorem loops49 (N : Nat) : loopsOk C49 (L49 N) Go.Proofs.Tryd.f49 := ⟨trivial, ⟨⟨trivial, ⟨⟨trivial, trivial⟩, trivial⟩⟩, ⟨⟨trivial, ⟨loopOk_of H49_4 N (fun K n v => W49_4 N (fun t2 => K .ret (encH [(4, .bo)] (t2, ()))) (fun _ => K (.exit 0) (encH [] ())) n v.1 v.2.1 v.2.2.1) (by kernel_rfl) (fun K v => by kernel_rfl) (fun K v => by kernel_rfl) (fun K n v => by kernel_rfl), ⟨trivial, ⟨⟨trivial, trivial⟩, ⟨⟨trivial, ⟨trivial, ⟨trivial, ⟨⟨trivial, trivial⟩, trivial⟩⟩⟩⟩, trivial⟩⟩⟩⟩⟩, ⟨trivial, trivial⟩⟩⟩⟩
theorem runs49 (N : Nat) (x : S49.ta.den) : run C49 S49 (L49 N) Go.Proofs.Tryd.f49 x = F49 N x.1 := by kernel_rfl

/-! ### 35: incognito/value.Right -/
def L35 (_ : Nat) : Loops (Bool × Unit) := fun _ _ _ => none
def F35 (N : Nat) (p0 : Int × Int × ByteArray × Unit) : Option (Bool × Unit) :=
  bif (p0.1 == (0 : Int)) then
    some (((p0.1 == (0 : Int)) && ((p0.2.1 == (0 : Int)) && ((p0.2.2.1 == ByteArray.empty) && true))), ())
  else
    bif (p0.1 == (1 : Int)) then
      some (((ByteArray.toList p0.2.2.1) == (ByteArray.toList (strL []))), ())
    else
      bif (p0.1 == (2 : Int)) then
        bif (p0.2.1 == (0 : Int)) then
          bif (Go.Inc.okS p0.2.2.1) then
            some ((Go.Inc.isWord p0.2.2.1), ())
          else
            none
        else
          some (false, ())
      else
        bif ((p0.1 == (3 : Int)) && ((p0.2.1 == (1 : Int)) && ((p0.2.2.1 == ByteArray.empty) && true))) then
          some (true, ())
        else
          some (((p0.1 == (3 : Int)) && ((p0.2.1 == (0 : Int)) && ((p0.2.2.1 == ByteArray.empty) && true))), ())
theorem loops35 (N : Nat) : loopsOk C35 (L35 N) Go.Proofs.Tryd.f35 := ⟨trivial, ⟨⟨trivial, ⟨trivial, ⟨⟨trivial, trivial⟩, ⟨trivial, ⟨⟨trivial, trivial⟩, ⟨trivial, ⟨⟨trivial, trivial⟩, trivial⟩⟩⟩⟩⟩⟩⟩, ⟨trivial, trivial⟩⟩⟩
theorem runs35 (N : Nat) (x : S35.ta.den) : run C35 S35 (L35 N) Go.Proofs.Tryd.f35 x = F35 N x.1 := by kernel_rfl

/-! ### 47: slices.IndexFunc[[]incognito/sign.row,incognito/sign.row] -/
def W47_2 {β : Type} (N : Nat) (x0 : Int → Int → Int → Option β) (x1 : Int → Int → Option β) : Nat → (List (Int × Int × ByteArray × Int × Bool × Unit)) → Int → Int → Int → Int → Option β
  | 0, _, _, _, _, _ => none
  | n + 1, t0, t7, t8, b1000a, b1001a =>
  bif decide (t8 < t7) then
    bif ((decide ((0 : Int) ≤ t8)) && (decide (t8 < (((List.length t0) : Nat) : Int)))) then
      bif (Go.Inc.hitA ((List.getD t0 (Int.toNat t8) ((0 : Int), ((0 : Int), (ByteArray.empty, ((0 : Int), (false, ())))))).1) (((List.getD t0 (Int.toNat t8) ((0 : Int), ((0 : Int), (ByteArray.empty, ((0 : Int), (false, ())))))).2).1) ((((List.getD t0 (Int.toNat t8) ((0 : Int), ((0 : Int), (ByteArray.empty, ((0 : Int), (false, ())))))).2).2).1) (((((List.getD t0 (Int.toNat t8) ((0 : Int), ((0 : Int), (ByteArray.empty, ((0 : Int), (false, ())))))).2).2).2).1) ((((((List.getD t0 (Int.toNat t8) ((0 : Int), ((0 : Int), (ByteArray.empty, ((0 : Int), (false, ())))))).2).2).2).2).1) b1000a b1001a) then
        x0 t8 b1000a b1001a
      else
        W47_2 N x0 x1 n t0 t7 (Go.IntKind.wrap .i64 (t8 + (1 : Int))) b1000a b1001a
    else
      none
  else
    x1 b1000a b1001a
def L47 (N : Nat) : Loops (HS.den X47.hout) := fun k ρ K => match Nat.beq k 2 with
  | true => (match adH ρ H47_2.hd with
    | some v => W47_2 N (fun t4 b1000a b1001a => K .ret (encH [(8, (.i .i64)), (2001, (.pr (.i .i64) .un)), (2003, (.pr (.i .i64) .un))] (t4, ((b1000a, ()), ((b1001a, ()), ()))))) (fun b1000a b1001a => K (.exit 0) (encH [(2001, (.pr (.i .i64) .un)), (2003, (.pr (.i .i64) .un))] ((b1000a, ()), ((b1001a, ()), ())))) N v.1 v.2.2.1 v.2.2.2.1 v.2.2.2.2.1.1 v.2.2.2.2.2.1.1
    | none => none)
  | false => none
def F47 (N : Nat) (t0 : List (Int × Int × ByteArray × Int × Bool × Unit)) (b1000a : Int) (b1001a : Int) : Option (HS.den X47.hout) :=
  W47_2 N
    (fun t4 b1000a b1001a =>
      some (t4, ((b1000a, ()), ((b1001a, ()), ()))))
    (fun b1000a b1001a =>
      some ((-(1 : Int)), ((b1000a, ()), ((b1001a, ()), ()))))
    N t0 (((List.length t0) : Nat) : Int) (0 : Int) b1000a b1001a
theorem loops47 (N : Nat) : loopsOk C47 (L47 N) Go.Proofs.Tryd.f47 := ⟨trivial, ⟨⟨trivial, ⟨loopOk_of H47_2 N (fun K n v => W47_2 N (fun t4 b1000a b1001a => K .ret (encH [(8, (.i .i64)), (2001, (.pr (.i .i64) .un)), (2003, (.pr (.i .i64) .un))] (t4, ((b1000a, ()), ((b1001a, ()), ()))))) (fun b1000a b1001a => K (.exit 0) (encH [(2001, (.pr (.i .i64) .un)), (2003, (.pr (.i .i64) .un))] ((b1000a, ()), ((b1001a, ()), ())))) n v.1 v.2.2.1 v.2.2.2.1 v.2.2.2.2.1.1 v.2.2.2.2.2.1.1) (by kernel_rfl) (fun K v => by kernel_rfl) (fun K v => by kernel_rfl) (fun K n v => by kernel_rfl), ⟨trivial, ⟨⟨trivial, trivial⟩, ⟨⟨trivial, ⟨trivial, ⟨⟨trivial, trivial⟩, trivial⟩⟩⟩, trivial⟩⟩⟩⟩⟩, ⟨trivial, trivial⟩⟩⟩
theorem runs47 (N : Nat) (x : HS.den X47.hin) : runX C47 X47 (L47 N) Go.Proofs.Tryd.f47 x = F47 N x.1 x.2.2.1.1 x.2.2.2.1.1 := by kernel_rfl

/-! ### 32: incognito/sign.find -/
def L32 (_ : Nat) : Loops ((Int × Int × ByteArray × Int × Bool × Unit) × Bool × Unit) := fun _ _ _ => none
def F32 (N : Nat) (p0 : Int) (p1 : Int) : Option ((Int × Int × ByteArray × Int × Bool × Unit) × Bool × Unit) :=
  bif decide ((Go.Inc.idxR (((1 : Int), ((1 : Int), ((strL [118]), ((-(1 : Int)), (false, ()))))) :: (((1 : Int), ((2 : Int), ((strL []), ((2 : Int), (true, ()))))) :: (((2 : Int), ((1 : Int), ((strL [118]), ((-(1 : Int)), (false, ()))))) :: (((2 : Int), ((2 : Int), ((strL []), ((2 : Int), (true, ()))))) :: (((2 : Int), ((3 : Int), ((strL [118, 118]), ((6 : Int), (false, ()))))) :: (((3 : Int), ((4 : Int), ((strL [118]), ((-(1 : Int)), (false, ()))))) :: (((3 : Int), ((5 : Int), ((strL [118]), ((-(1 : Int)), (false, ()))))) :: (((3 : Int), ((6 : Int), ((strL [118]), ((6 : Int), (false, ()))))) :: (((4 : Int), ((7 : Int), ((strL [102, 118]), ((-(1 : Int)), (false, ()))))) :: (((4 : Int), ((8 : Int), ((strL [102]), ((2 : Int), (true, ()))))) :: (((4 : Int), ((5 : Int), ((strL [102]), ((-(1 : Int)), (false, ()))))) :: (((5 : Int), ((9 : Int), ((strL [118]), ((-(1 : Int)), (false, ()))))) :: (((5 : Int), ((10 : Int), ((strL []), ((2 : Int), (true, ()))))) :: (((6 : Int), ((9 : Int), ((strL [118]), ((-(1 : Int)), (false, ()))))) :: (((6 : Int), ((10 : Int), ((strL []), ((2 : Int), (true, ()))))) :: (((7 : Int), ((11 : Int), ((strL []), ((6 : Int), (false, ()))))) :: (((7 : Int), ((12 : Int), ((strL []), ((6 : Int), (false, ()))))) :: (((8 : Int), ((4 : Int), ((strL [110]), ((-(1 : Int)), (false, ()))))) :: (((8 : Int), ((2 : Int), ((strL []), ((5 : Int), (false, ()))))) :: (((9 : Int), ((1 : Int), ((strL [111]), ((-(1 : Int)), (false, ()))))) :: (((9 : Int), ((2 : Int), ((strL []), ((4 : Int), (true, ()))))) :: (((10 : Int), ((7 : Int), ((strL [111, 118]), ((-(1 : Int)), (false, ()))))) :: (((10 : Int), ((5 : Int), ((strL [111]), ((-(1 : Int)), (false, ()))))) :: (((10 : Int), ((13 : Int), ((strL [111, 111]), ((99 : Int), (false, ()))))) :: ([] : List (Int × (Int × (ByteArray × (Int × (Bool × Unit)))))))))))))))))))))))))))))) p0 p1) < (0 : Int)) then
    some (((0 : Int), ((0 : Int), (ByteArray.empty, ((0 : Int), (false, ()))))), (false, ()))
  else
    bif ((decide ((0 : Int) ≤ (Go.Inc.idxR (((1 : Int), ((1 : Int), ((strL [118]), ((-(1 : Int)), (false, ()))))) :: (((1 : Int), ((2 : Int), ((strL []), ((2 : Int), (true, ()))))) :: (((2 : Int), ((1 : Int), ((strL [118]), ((-(1 : Int)), (false, ()))))) :: (((2 : Int), ((2 : Int), ((strL []), ((2 : Int), (true, ()))))) :: (((2 : Int), ((3 : Int), ((strL [118, 118]), ((6 : Int), (false, ()))))) :: (((3 : Int), ((4 : Int), ((strL [118]), ((-(1 : Int)), (false, ()))))) :: (((3 : Int), ((5 : Int), ((strL [118]), ((-(1 : Int)), (false, ()))))) :: (((3 : Int), ((6 : Int), ((strL [118]), ((6 : Int), (false, ()))))) :: (((4 : Int), ((7 : Int), ((strL [102, 118]), ((-(1 : Int)), (false, ()))))) :: (((4 : Int), ((8 : Int), ((strL [102]), ((2 : Int), (true, ()))))) :: (((4 : Int), ((5 : Int), ((strL [102]), ((-(1 : Int)), (false, ()))))) :: (((5 : Int), ((9 : Int), ((strL [118]), ((-(1 : Int)), (false, ()))))) :: (((5 : Int), ((10 : Int), ((strL []), ((2 : Int), (true, ()))))) :: (((6 : Int), ((9 : Int), ((strL [118]), ((-(1 : Int)), (false, ()))))) :: (((6 : Int), ((10 : Int), ((strL []), ((2 : Int), (true, ()))))) :: (((7 : Int), ((11 : Int), ((strL []), ((6 : Int), (false, ()))))) :: (((7 : Int), ((12 : Int), ((strL []), ((6 : Int), (false, ()))))) :: (((8 : Int), ((4 : Int), ((strL [110]), ((-(1 : Int)), (false, ()))))) :: (((8 : Int), ((2 : Int), ((strL []), ((5 : Int), (false, ()))))) :: (((9 : Int), ((1 : Int), ((strL [111]), ((-(1 : Int)), (false, ()))))) :: (((9 : Int), ((2 : Int), ((strL []), ((4 : Int), (true, ()))))) :: (((10 : Int), ((7 : Int), ((strL [111, 118]), ((-(1 : Int)), (false, ()))))) :: (((10 : Int), ((5 : Int), ((strL [111]), ((-(1 : Int)), (false, ()))))) :: (((10 : Int), ((13 : Int), ((strL [111, 111]), ((99 : Int), (false, ()))))) :: ([] : List (Int × (Int × (ByteArray × (Int × (Bool × Unit)))))))))))))))))))))))))))))) p0 p1))) && (decide ((Go.Inc.idxR (((1 : Int), ((1 : Int), ((strL [118]), ((-(1 : Int)), (false, ()))))) :: (((1 : Int), ((2 : Int), ((strL []), ((2 : Int), (true, ()))))) :: (((2 : Int), ((1 : Int), ((strL [118]), ((-(1 : Int)), (false, ()))))) :: (((2 : Int), ((2 : Int), ((strL []), ((2 : Int), (true, ()))))) :: (((2 : Int), ((3 : Int), ((strL [118, 118]), ((6 : Int), (false, ()))))) :: (((3 : Int), ((4 : Int), ((strL [118]), ((-(1 : Int)), (false, ()))))) :: (((3 : Int), ((5 : Int), ((strL [118]), ((-(1 : Int)), (false, ()))))) :: (((3 : Int), ((6 : Int), ((strL [118]), ((6 : Int), (false, ()))))) :: (((4 : Int), ((7 : Int), ((strL [102, 118]), ((-(1 : Int)), (false, ()))))) :: (((4 : Int), ((8 : Int), ((strL [102]), ((2 : Int), (true, ()))))) :: (((4 : Int), ((5 : Int), ((strL [102]), ((-(1 : Int)), (false, ()))))) :: (((5 : Int), ((9 : Int), ((strL [118]), ((-(1 : Int)), (false, ()))))) :: (((5 : Int), ((10 : Int), ((strL []), ((2 : Int), (true, ()))))) :: (((6 : Int), ((9 : Int), ((strL [118]), ((-(1 : Int)), (false, ()))))) :: (((6 : Int), ((10 : Int), ((strL []), ((2 : Int), (true, ()))))) :: (((7 : Int), ((11 : Int), ((strL []), ((6 : Int), (false, ()))))) :: (((7 : Int), ((12 : Int), ((strL []), ((6 : Int), (false, ()))))) :: (((8 : Int), ((4 : Int), ((strL [110]), ((-(1 : Int)), (false, ()))))) :: (((8 : Int), ((2 : Int), ((strL []), ((5 : Int), (false, ()))))) :: (((9 : Int), ((1 : Int), ((strL [111]), ((-(1 : Int)), (false, ()))))) :: (((9 : Int), ((2 : Int), ((strL []), ((4 : Int), (true, ()))))) :: (((10 : Int), ((7 : Int), ((strL [111, 118]), ((-(1 : Int)), (false, ()))))) :: (((10 : Int), ((5 : Int), ((strL [111]), ((-(1 : Int)), (false, ()))))) :: (((10 : Int), ((13 : Int), ((strL [111, 111]), ((99 : Int), (false, ()))))) :: ([] : List (Int × (Int × (ByteArray × (Int × (Bool × Unit)))))))))))))))))))))))))))))) p0 p1) < (((List.length (((1 : Int), ((1 : Int), ((strL [118]), ((-(1 : Int)), (false, ()))))) :: (((1 : Int), ((2 : Int), ((strL []), ((2 : Int), (true, ()))))) :: (((2 : Int), ((1 : Int), ((strL [118]), ((-(1 : Int)), (false, ()))))) :: (((2 : Int), ((2 : Int), ((strL []), ((2 : Int), (true, ()))))) :: (((2 : Int), ((3 : Int), ((strL [118, 118]), ((6 : Int), (false, ()))))) :: (((3 : Int), ((4 : Int), ((strL [118]), ((-(1 : Int)), (false, ()))))) :: (((3 : Int), ((5 : Int), ((strL [118]), ((-(1 : Int)), (false, ()))))) :: (((3 : Int), ((6 : Int), ((strL [118]), ((6 : Int), (false, ()))))) :: (((4 : Int), ((7 : Int), ((strL [102, 118]), ((-(1 : Int)), (false, ()))))) :: (((4 : Int), ((8 : Int), ((strL [102]), ((2 : Int), (true, ()))))) :: (((4 : Int), ((5 : Int), ((strL [102]), ((-(1 : Int)), (false, ()))))) :: (((5 : Int), ((9 : Int), ((strL [118]), ((-(1 : Int)), (false, ()))))) :: (((5 : Int), ((10 : Int), ((strL []), ((2 : Int), (true, ()))))) :: (((6 : Int), ((9 : Int), ((strL [118]), ((-(1 : Int)), (false, ()))))) :: (((6 : Int), ((10 : Int), ((strL []), ((2 : Int), (true, ()))))) :: (((7 : Int), ((11 : Int), ((strL []), ((6 : Int), (false, ()))))) :: (((7 : Int), ((12 : Int), ((strL []), ((6 : Int), (false, ()))))) :: (((8 : Int), ((4 : Int), ((strL [110]), ((-(1 : Int)), (false, ()))))) :: (((8 : Int), ((2 : Int), ((strL []), ((5 : Int), (false, ()))))) :: (((9 : Int), ((1 : Int), ((strL [111]), ((-(1 : Int)), (false, ()))))) :: (((9 : Int), ((2 : Int), ((strL []), ((4 : Int), (true, ()))))) :: (((10 : Int), ((7 : Int), ((strL [111, 118]), ((-(1 : Int)), (false, ()))))) :: (((10 : Int), ((5 : Int), ((strL [111]), ((-(1 : Int)), (false, ()))))) :: (((10 : Int), ((13 : Int), ((strL [111, 111]), ((99 : Int), (false, ()))))) :: ([] : List (Int × (Int × (ByteArray × (Int × (Bool × Unit))))))))))))))))))))))))))))))) : Nat) : Int)))) then
      some ((List.getD (((1 : Int), ((1 : Int), ((strL [118]), ((-(1 : Int)), (false, ()))))) :: (((1 : Int), ((2 : Int), ((strL []), ((2 : Int), (true, ()))))) :: (((2 : Int), ((1 : Int), ((strL [118]), ((-(1 : Int)), (false, ()))))) :: (((2 : Int), ((2 : Int), ((strL []), ((2 : Int), (true, ()))))) :: (((2 : Int), ((3 : Int), ((strL [118, 118]), ((6 : Int), (false, ()))))) :: (((3 : Int), ((4 : Int), ((strL [118]), ((-(1 : Int)), (false, ()))))) :: (((3 : Int), ((5 : Int), ((strL [118]), ((-(1 : Int)), (false, ()))))) :: (((3 : Int), ((6 : Int), ((strL [118]), ((6 : Int), (false, ()))))) :: (((4 : Int), ((7 : Int), ((strL [102, 118]), ((-(1 : Int)), (false, ()))))) :: (((4 : Int), ((8 : Int), ((strL [102]), ((2 : Int), (true, ()))))) :: (((4 : Int), ((5 : Int), ((strL [102]), ((-(1 : Int)), (false, ()))))) :: (((5 : Int), ((9 : Int), ((strL [118]), ((-(1 : Int)), (false, ()))))) :: (((5 : Int), ((10 : Int), ((strL []), ((2 : Int), (true, ()))))) :: (((6 : Int), ((9 : Int), ((strL [118]), ((-(1 : Int)), (false, ()))))) :: (((6 : Int), ((10 : Int), ((strL []), ((2 : Int), (true, ()))))) :: (((7 : Int), ((11 : Int), ((strL []), ((6 : Int), (false, ()))))) :: (((7 : Int), ((12 : Int), ((strL []), ((6 : Int), (false, ()))))) :: (((8 : Int), ((4 : Int), ((strL [110]), ((-(1 : Int)), (false, ()))))) :: (((8 : Int), ((2 : Int), ((strL []), ((5 : Int), (false, ()))))) :: (((9 : Int), ((1 : Int), ((strL [111]), ((-(1 : Int)), (false, ()))))) :: (((9 : Int), ((2 : Int), ((strL []), ((4 : Int), (true, ()))))) :: (((10 : Int), ((7 : Int), ((strL [111, 118]), ((-(1 : Int)), (false, ()))))) :: (((10 : Int), ((5 : Int), ((strL [111]), ((-(1 : Int)), (false, ()))))) :: (((10 : Int), ((13 : Int), ((strL [111, 111]), ((99 : Int), (false, ()))))) :: ([] : List (Int × (Int × (ByteArray × (Int × (Bool × Unit)))))))))))))))))))))))))))))) (Int.toNat (Go.Inc.idxR (((1 : Int), ((1 : Int), ((strL [118]), ((-(1 : Int)), (false, ()))))) :: (((1 : Int), ((2 : Int), ((strL []), ((2 : Int), (true, ()))))) :: (((2 : Int), ((1 : Int), ((strL [118]), ((-(1 : Int)), (false, ()))))) :: (((2 : Int), ((2 : Int), ((strL []), ((2 : Int), (true, ()))))) :: (((2 : Int), ((3 : Int), ((strL [118, 118]), ((6 : Int), (false, ()))))) :: (((3 : Int), ((4 : Int), ((strL [118]), ((-(1 : Int)), (false, ()))))) :: (((3 : Int), ((5 : Int), ((strL [118]), ((-(1 : Int)), (false, ()))))) :: (((3 : Int), ((6 : Int), ((strL [118]), ((6 : Int), (false, ()))))) :: (((4 : Int), ((7 : Int), ((strL [102, 118]), ((-(1 : Int)), (false, ()))))) :: (((4 : Int), ((8 : Int), ((strL [102]), ((2 : Int), (true, ()))))) :: (((4 : Int), ((5 : Int), ((strL [102]), ((-(1 : Int)), (false, ()))))) :: (((5 : Int), ((9 : Int), ((strL [118]), ((-(1 : Int)), (false, ()))))) :: (((5 : Int), ((10 : Int), ((strL []), ((2 : Int), (true, ()))))) :: (((6 : Int), ((9 : Int), ((strL [118]), ((-(1 : Int)), (false, ()))))) :: (((6 : Int), ((10 : Int), ((strL []), ((2 : Int), (true, ()))))) :: (((7 : Int), ((11 : Int), ((strL []), ((6 : Int), (false, ()))))) :: (((7 : Int), ((12 : Int), ((strL []), ((6 : Int), (false, ()))))) :: (((8 : Int), ((4 : Int), ((strL [110]), ((-(1 : Int)), (false, ()))))) :: (((8 : Int), ((2 : Int), ((strL []), ((5 : Int), (false, ()))))) :: (((9 : Int), ((1 : Int), ((strL [111]), ((-(1 : Int)), (false, ()))))) :: (((9 : Int), ((2 : Int), ((strL []), ((4 : Int), (true, ()))))) :: (((10 : Int), ((7 : Int), ((strL [111, 118]), ((-(1 : Int)), (false, ()))))) :: (((10 : Int), ((5 : Int), ((strL [111]), ((-(1 : Int)), (false, ()))))) :: (((10 : Int), ((13 : Int), ((strL [111, 111]), ((99 : Int), (false, ()))))) :: ([] : List (Int × (Int × (ByteArray × (Int × (Bool × Unit)))))))))))))))))))))))))))))) p0 p1)) ((0 : Int), ((0 : Int), (ByteArray.empty, ((0 : Int), (false, ())))))), (true, ()))
    else
      none
theorem loops32 (N : Nat) : loopsOk C32 (L32 N) Go.Proofs.Tryd.f32 := ⟨trivial, ⟨trivial, ⟨trivial, ⟨⟨trivial, ⟨⟨trivial, trivial⟩, trivial⟩⟩, ⟨trivial, trivial⟩⟩⟩⟩⟩
theorem runs32 (N : Nat) (x : S32.ta.den) : run C32 S32 (L32 N) Go.Proofs.Tryd.f32 x = F32 N x.1 x.2.1 := by kernel_rfl

/-! ### 52: cmp.isNaN[int64] -/
def L52 (_ : Nat) : Loops (Bool × Unit) := fun _ _ _ => none
def F52 (N : Nat) (p0 : Int) : Option (Bool × Unit) :=
  some ((p0 != p0), ())
theorem loops52 (N : Nat) : loopsOk C52 (L52 N) Go.Proofs.Tryd.f52 := ⟨trivial, ⟨trivial, trivial⟩⟩
theorem runs52 (N : Nat) (x : S52.ta.den) : run C52 S52 (L52 N) Go.Proofs.Tryd.f52 x = F52 N x.1 := by kernel_rfl

/-! ### 25: incognito/bag.place[incognito/api.Value] -/
def L25 (_ : Nat) : Loops (HS.den X25.hout) := fun _ _ _ => none
def F25 (N : Nat) (t0 : Nat) (t1a : Int) (t1ba : Int) (t1bba : ByteArray) (b1000 : List (Int × Int × ByteArray × Unit)) : Option (HS.den X25.hout) :=
  bif (Go.Inc.okPlace t0 b1000) then
    some (Go.Inc.placeX (t1a, (t1ba, (t1bba, ()))) b1000)
  else
    none
theorem loops25 (N : Nat) : loopsOk C25 (L25 N) Go.Proofs.Tryd.f25 := ⟨trivial, ⟨trivial, trivial⟩⟩
theorem runs25 (N : Nat) (x : HS.den X25.hin) : runX C25 X25 (L25 N) Go.Proofs.Tryd.f25 x = F25 N x.1 x.2.1.1 x.2.1.2.1 x.2.1.2.2.1 x.2.2.2.1 := by kernel_rfl

/-! ### 8: incognito/incognitolaw14.own -/
def L8 (_ : Nat) : Loops (Bool × Unit) := fun _ _ _ => none
def F8 (N : Nat) (p0 : Int) : Option (Bool × Unit) :=
  some ((p0 == (3 : Int)), ())
theorem loops8 (N : Nat) : loopsOk C8 (L8 N) Go.Proofs.Tryd.f8 := ⟨trivial, ⟨trivial, trivial⟩⟩
theorem runs8 (N : Nat) (x : S8.ta.den) : run C8 S8 (L8 N) Go.Proofs.Tryd.f8 x = F8 N x.1 := by kernel_rfl

/-! ### 10: incognito/incognitoref13.Same -/
def L10 (_ : Nat) : Loops (Bool × Unit) := fun _ _ _ => none
def F10 (N : Nat) (p0 : Int × (Int × Int × ByteArray × Unit) × Int × (List (Int × Int × ByteArray × Unit)) × Unit) (p1 : Int × (Int × Int × ByteArray × Unit) × Int × (List (Int × Int × ByteArray × Unit)) × Unit) : Option (Bool × Unit) :=
  bif (p0.1 == p1.1) then
    bif ((p0.2.1.1 == p1.2.1.1) && ((p0.2.1.2.1 == p1.2.1.2.1) && ((p0.2.1.2.2.1 == p1.2.1.2.2.1) && true))) then
      bif (p0.2.2.1 == p1.2.2.1) then
        bif (Go.Inc.okSame2 p0.2.2.2.1 p1.2.2.2.1) then
          some ((Go.Inc.sameV p0.2.2.2.1 p1.2.2.2.1), ())
        else
          none
      else
        some (false, ())
    else
      some (false, ())
  else
    some (false, ())
theorem loops10 (N : Nat) : loopsOk C10 (L10 N) Go.Proofs.Tryd.f10 := ⟨trivial, ⟨trivial, trivial⟩⟩
theorem runs10 (N : Nat) (x : S10.ta.den) : run C10 S10 (L10 N) Go.Proofs.Tryd.f10 x = F10 N x.1 x.2.1 := by kernel_rfl

/-! ### 34: incognito/incognitoref07.Less -/
def L34 (_ : Nat) : Loops (Bool × Unit) := fun _ _ _ => none
def F34 (N : Nat) (p0 : Int × Int × ByteArray × Unit) (p1 : Int × Int × ByteArray × Unit) : Option (Bool × Unit) :=
  bif (p0.1 != p1.1) then
    some (decide (p0.1 < p1.1), ())
  else
    bif (p0.2.1 != p1.2.1) then
      some (decide (p0.2.1 < p1.2.1), ())
    else
      some ((Go.Op.bytesLess (ByteArray.toList p0.2.2.1) (ByteArray.toList p1.2.2.1)), ())
theorem loops34 (N : Nat) : loopsOk C34 (L34 N) Go.Proofs.Tryd.f34 := ⟨trivial, ⟨⟨trivial, ⟨⟨trivial, trivial⟩, trivial⟩⟩, ⟨⟨trivial, ⟨⟨trivial, trivial⟩, trivial⟩⟩, ⟨trivial, trivial⟩⟩⟩⟩
theorem runs34 (N : Nat) (x : S34.ta.den) : run C34 S34 (L34 N) Go.Proofs.Tryd.f34 x = F34 N x.1 x.2.1 := by kernel_rfl

/-! ### 57: incognito/incognitoref07.letter -/
def W57_2 {β : Type} (N : Nat) (x0 : Bool → Option β) (x1 : Int → Bool → Option β) : Nat → Int → Bool → Int → Option β
  | 0, _, _, _ => none
  | n + 1, t0, t1, t5 =>
  bif decide (t5 ≤ (122 : Int)) then
    bif (t0 == t5) then
      x0 true
    else
      W57_2 N x0 x1 n t0 t1 (Go.IntKind.wrap .u8 (t5 + (1 : Int)))
  else
    x1 t0 t1
def L57 (N : Nat) : Loops (Bool × Unit) := fun k ρ K => match Nat.beq k 2 with
  | true => (match adH ρ H57_2.hd with
    | some v => W57_2 N (fun t4 => K .ret (encH [(8, .bo)] (t4, ()))) (fun t0 t1 => K (.exit 0) (encH [(0, (.i .u8)), (2, .bo)] (t0, (t1, ())))) N v.1 v.2.1 v.2.2.1
    | none => none)
  | false => none
def F57 (N : Nat) (p0 : Int) (p1 : Bool) : Option (Bool × Unit) :=
  W57_2 N
    (fun t4 =>
      some (t4, ()))
    (fun t0 t1 =>
      bif (!t1) then
        bif (t0 == (95 : Int)) then
          some (true, ())
        else
          bif decide (t0 ≥ (48 : Int)) then
            some (decide (t0 ≤ (57 : Int)), ())
          else
            some (false, ())
      else
        some (false, ()))
    N p0 p1 (97 : Int)
theorem loops57 (N : Nat) : loopsOk C57 (L57 N) Go.Proofs.Tryd.f57 := ⟨trivial, ⟨⟨trivial, ⟨loopOk_of H57_2 N (fun K n v => W57_2 N (fun t4 => K .ret (encH [(8, .bo)] (t4, ()))) (fun t0 t1 => K (.exit 0) (encH [(0, (.i .u8)), (2, .bo)] (t0, (t1, ())))) n v.1 v.2.1 v.2.2.1) (by kernel_rfl) (fun K v => by kernel_rfl) (fun K v => by kernel_rfl) (fun K n v => by kernel_rfl), ⟨⟨trivial, ⟨trivial, trivial⟩⟩, ⟨⟨trivial, ⟨⟨trivial, trivial⟩, trivial⟩⟩, trivial⟩⟩⟩⟩, ⟨trivial, trivial⟩⟩⟩
theorem runs57 (N : Nat) (x : S57.ta.den) : run C57 S57 (L57 N) Go.Proofs.Tryd.f57 x = F57 N x.1 x.2.1 := by kernel_rfl

/-! ### 16: incognito/incognitoref07.Name -/
def L16 (_ : Nat) : Loops (Bool × Unit) := fun _ _ _ => none
def F16 (N : Nat) (p0 : Int × Int × ByteArray × Unit) : Option (Bool × Unit) :=
  bif (Go.Inc.okV p0) then
    bif (Go.Inc.right p0) then
      bif (p0.1 == (1 : Int)) then
        some (true, ())
      else
        some ((p0.1 == (2 : Int)), ())
    else
      some (false, ())
  else
    none
theorem loops16 (N : Nat) : loopsOk C16 (L16 N) Go.Proofs.Tryd.f16 := ⟨trivial, ⟨trivial, trivial⟩⟩
theorem runs16 (N : Nat) (x : S16.ta.den) : run C16 S16 (L16 N) Go.Proofs.Tryd.f16 x = F16 N x.1 := by kernel_rfl

/-! ### 56: incognito/incognitoref09.OpName -/
def L56 (_ : Nat) : Loops (ByteArray × Unit) := fun _ _ _ => none
def F56 (N : Nat) (p0 : Int) : Option (ByteArray × Unit) :=
  bif (p0 == (1 : Int)) then
    some ((strL [119, 114, 105, 116, 101]), ())
  else
    bif (p0 == (2 : Int)) then
      some ((strL [114, 101, 97, 100]), ())
    else
      bif (p0 == (3 : Int)) then
        some ((strL [115, 119, 97, 112]), ())
      else
        bif (p0 == (4 : Int)) then
          some ((strL [97, 100, 100]), ())
        else
          bif (p0 == (5 : Int)) then
            some ((strL [100, 101, 108]), ())
          else
            bif (p0 == (6 : Int)) then
              some ((strL [104, 97, 115]), ())
            else
              bif (p0 == (7 : Int)) then
              some ((strL [112, 117, 116]), ())
            else
              bif (p0 == (8 : Int)) then
              some ((strL [103, 101, 116]), ())
            else
              bif (p0 == (9 : Int)) then
              some ((strL [112, 117, 115, 104]), ())
            else
              bif (p0 == (10 : Int)) then
              some ((strL [112, 111, 112]), ())
            else
              bif (p0 == (11 : Int)) then
              some ((strL [116, 97, 107, 101]), ())
            else
              bif (p0 == (12 : Int)) then
              some ((strL [102, 114, 101, 101]), ())
            else
              bif (p0 == (13 : Int)) then
              some ((strL [115, 99, 97, 110]), ())
            else
              some ((strL []), ())
theorem loops56 (N : Nat) : loopsOk C56 (L56 N) Go.Proofs.Tryd.f56 := ⟨trivial, ⟨⟨trivial, ⟨trivial, ⟨⟨trivial, trivial⟩, ⟨trivial, ⟨⟨trivial, trivial⟩, ⟨trivial, ⟨⟨trivial, trivial⟩, ⟨trivial, ⟨⟨trivial, trivial⟩, ⟨trivial, ⟨⟨trivial, trivial⟩, ⟨trivial, ⟨⟨trivial, trivial⟩, ⟨trivial, ⟨⟨trivial, trivial⟩, ⟨trivial, ⟨⟨trivial, trivial⟩, ⟨trivial, ⟨⟨trivial, trivial⟩, ⟨trivial, ⟨⟨trivial, trivial⟩, ⟨trivial, ⟨⟨trivial, trivial⟩, ⟨trivial, ⟨⟨trivial, trivial⟩, ⟨trivial, ⟨⟨trivial, trivial⟩, trivial⟩⟩⟩⟩⟩⟩⟩⟩⟩⟩⟩⟩⟩⟩⟩⟩⟩⟩⟩⟩⟩⟩⟩⟩⟩⟩⟩, ⟨trivial, trivial⟩⟩⟩
theorem runs56 (N : Nat) (x : S56.ta.den) : run C56 S56 (L56 N) Go.Proofs.Tryd.f56 x = F56 N x.1 := by kernel_rfl

/-! ### 29: incognito/incognitoref09.Fits -/
def W29_5 {β : Type} (N : Nat) (x0 : Bool → Option β) (x1 : Unit → Option β) : Nat → (List (Int × Int × ByteArray × Unit)) → (List Int) → Int → Bool → Bool → Int → Option β
  | 0, _, _, _, _, _, _ => none
  | n + 1, t2, b7a, b7ba, b7bba, b7bbba, t8 =>
  bif decide (t8 < (((List.length t2) : Nat) : Int)) then
    bif ((decide ((0 : Int) ≤ t8)) && (decide (t8 < (((List.length b7a) : Nat) : Int)))) then
      bif ((decide ((0 : Int) ≤ t8)) && (decide (t8 < (((List.length t2) : Nat) : Int)))) then
        bif (Go.Inc.okT (List.getD b7a (Int.toNat t8) (0 : Int)) (List.getD t2 (Int.toNat t8) ((0 : Int), ((0 : Int), (ByteArray.empty, ()))))) then
          bif (!(Go.Inc.takes (List.getD b7a (Int.toNat t8) (0 : Int)) (List.getD t2 (Int.toNat t8) ((0 : Int), ((0 : Int), (ByteArray.empty, ())))))) then
            x0 false
          else
            W29_5 N x0 x1 n t2 b7a b7ba b7bba b7bbba (Go.IntKind.wrap .i64 (t8 + (1 : Int)))
        else
          none
      else
        none
    else
      none
  else
    x1 ()
def L29 (N : Nat) : Loops (Bool × Unit) := fun k ρ K => match Nat.beq k 5 with
  | true => (match adH ρ H29_5.hd with
    | some v => W29_5 N (fun t6 => K .ret (encH [(12, .bo)] (t6, ()))) (fun _ => K (.exit 0) (encH [] ())) N v.1 v.2.2.1.1 v.2.2.1.2.1 v.2.2.1.2.2.1 v.2.2.1.2.2.2.1 v.2.2.2.1
    | none => none)
  | false => none
def F29 (N : Nat) (p0 : Int) (p1 : Int) (p2 : List (Int × Int × ByteArray × Unit)) : Option (Bool × Unit) :=
  bif (!(((((Go.Inc.signRef p0 p1).2).2).2).1)) then
    some (false, ())
  else
    bif ((((List.length p2) : Nat) : Int) != (((List.length ((Go.Inc.signRef p0 p1).1)) : Nat) : Int)) then
      some (false, ())
    else
      W29_5 N
        (fun t6 =>
          some (t6, ()))
        (fun (_ : Unit) =>
          some (true, ()))
        N p2 ((Go.Inc.signRef p0 p1).1) (((Go.Inc.signRef p0 p1).2).1) ((((Go.Inc.signRef p0 p1).2).2).1) (((((Go.Inc.signRef p0 p1).2).2).2).1) (0 : Int)
theorem loops29 (N : Nat) : loopsOk C29 (L29 N) Go.Proofs.Tryd.f29 := ⟨trivial, ⟨trivial, ⟨⟨trivial, ⟨⟨trivial, trivial⟩, trivial⟩⟩, ⟨⟨trivial, ⟨loopOk_of H29_5 N (fun K n v => W29_5 N (fun t6 => K .ret (encH [(12, .bo)] (t6, ()))) (fun _ => K (.exit 0) (encH [] ())) n v.1 v.2.2.1.1 v.2.2.1.2.1 v.2.2.1.2.2.1 v.2.2.1.2.2.2.1 v.2.2.2.1) (by kernel_rfl) (fun K v => by kernel_rfl) (fun K v => by kernel_rfl) (fun K n v => by kernel_rfl), ⟨⟨trivial, ⟨trivial, trivial⟩⟩, ⟨⟨trivial, ⟨⟨trivial, trivial⟩, trivial⟩⟩, trivial⟩⟩⟩⟩, ⟨trivial, trivial⟩⟩⟩⟩⟩
theorem runs29 (N : Nat) (x : S29.ta.den) : run C29 S29 (L29 N) Go.Proofs.Tryd.f29 x = F29 N x.1 x.2.1 x.2.2.1 := by kernel_rfl

/-! ### 4: incognito/incognitolaw14.BagTurns -/
def W4_6 {β : Type} (N : Nat) (x0 : Bool → Option β) (x1 : (List (Int × Int × ByteArray × Unit)) → Int → Option β) : Nat → (List (Int × Int × ByteArray × Unit)) → Int → (List (Int × Int × ByteArray × Unit)) → Int → Int → Option β
  | 0, _, _, _, _, _ => none
  | n + 1, t0, t1, t27, t28, t29 =>
  bif decide (t29 < t28) then
    bif ((decide ((0 : Int) ≤ t29)) && (decide (t29 < (((List.length t27) : Nat) : Int)))) then
      bif decide ((((ByteArray.size ((((List.getD t27 (Int.toNat t29) ((0 : Int), ((0 : Int), (ByteArray.empty, ())))).2).2).1)) : Nat) : Int) > (100 : Int)) then
        x0 true
      else
        bif (Go.Inc.okV (List.getD t27 (Int.toNat t29) ((0 : Int), ((0 : Int), (ByteArray.empty, ()))))) then
          bif (!(Go.Inc.name (List.getD t27 (Int.toNat t29) ((0 : Int), ((0 : Int), (ByteArray.empty, ())))))) then
            x0 true
          else
            W4_6 N x0 x1 n t0 t1 t27 t28 (Go.IntKind.wrap .i64 (t29 + (1 : Int)))
        else
          none
    else
      none
  else
    x1 t0 t1
def W4_14 {β : Type} (N : Nat) (x3 : (List (Int × Int × ByteArray × Unit)) → Int → Int → Int → Int → ByteArray → Int → (List (Int × Int × ByteArray × Unit)) → Int → Int → Int → ByteArray → Int → (List (Int × Int × ByteArray × Unit)) → Option β) : Nat → (List (Int × Int × ByteArray × Unit)) → Int → Int → Int → Int → ByteArray → Int → (List (Int × Int × ByteArray × Unit)) → Int → Int → Int → ByteArray → Int → (List (Int × Int × ByteArray × Unit)) → Int → Int → Option β
  | 0, _, _, _, _, _, _, _, _, _, _, _, _, _, _, _, _ => none
  | n + 1, t0, t1, b7a, b7ba, b7bba, b7bbba, b7bbbba, b7bbbbba, b9a, b9ba, b9bba, b9bbba, b9bbbba, b9bbbbba, t49, t50 =>
  bif decide (t50 < t49) then
    bif ((decide ((0 : Int) ≤ t50)) && (decide (t50 < (((List.length t0) : Nat) : Int)))) then
      bif (Go.Inc.okBStep (b7a, ((b7ba, (b7bba, (b7bbba, ()))), (b7bbbba, (b7bbbbba, ())))) (Go.Inc.num' (1 : Int)) (4 : Int) ((List.getD t0 (Int.toNat t50) ((0 : Int), ((0 : Int), (ByteArray.empty, ())))) :: ([] : List (Int × (Int × (ByteArray × Unit)))))) then
        bif ((((List.length t0) : Nat) : Int) == (0 : Int)) then
          none
        else
          bif ((decide ((0 : Int) ≤ (Int.tmod (Go.IntKind.wrap .i64 (t50 + (Go.IntKind.wrap .i64 t1))) (((List.length t0) : Nat) : Int)))) && (decide ((Int.tmod (Go.IntKind.wrap .i64 (t50 + (Go.IntKind.wrap .i64 t1))) (((List.length t0) : Nat) : Int)) < (((List.length t0) : Nat) : Int)))) then
            bif (Go.Inc.okBStep (b9a, ((b9ba, (b9bba, (b9bbba, ()))), (b9bbbba, (b9bbbbba, ())))) (Go.Inc.num' (1 : Int)) (4 : Int) ((List.getD t0 (Int.toNat (Int.tmod (Go.IntKind.wrap .i64 (t50 + (Go.IntKind.wrap .i64 t1))) (((List.length t0) : Nat) : Int))) ((0 : Int), ((0 : Int), (ByteArray.empty, ())))) :: ([] : List (Int × (Int × (ByteArray × Unit)))))) then
              W4_14 N x3 n t0 t1 (((Go.Inc.bagStep (b7a, ((b7ba, (b7bba, (b7bbba, ()))), (b7bbbba, (b7bbbbba, ())))) (Go.Inc.num' (1 : Int)) (4 : Int) ((List.getD t0 (Int.toNat t50) ((0 : Int), ((0 : Int), (ByteArray.empty, ())))) :: ([] : List (Int × (Int × (ByteArray × Unit)))))).1).1) (((((Go.Inc.bagStep (b7a, ((b7ba, (b7bba, (b7bbba, ()))), (b7bbbba, (b7bbbbba, ())))) (Go.Inc.num' (1 : Int)) (4 : Int) ((List.getD t0 (Int.toNat t50) ((0 : Int), ((0 : Int), (ByteArray.empty, ())))) :: ([] : List (Int × (Int × (ByteArray × Unit)))))).1).2).1).1) ((((((Go.Inc.bagStep (b7a, ((b7ba, (b7bba, (b7bbba, ()))), (b7bbbba, (b7bbbbba, ())))) (Go.Inc.num' (1 : Int)) (4 : Int) ((List.getD t0 (Int.toNat t50) ((0 : Int), ((0 : Int), (ByteArray.empty, ())))) :: ([] : List (Int × (Int × (ByteArray × Unit)))))).1).2).1).2).1) (((((((Go.Inc.bagStep (b7a, ((b7ba, (b7bba, (b7bbba, ()))), (b7bbbba, (b7bbbbba, ())))) (Go.Inc.num' (1 : Int)) (4 : Int) ((List.getD t0 (Int.toNat t50) ((0 : Int), ((0 : Int), (ByteArray.empty, ())))) :: ([] : List (Int × (Int × (ByteArray × Unit)))))).1).2).1).2).2).1) (((((Go.Inc.bagStep (b7a, ((b7ba, (b7bba, (b7bbba, ()))), (b7bbbba, (b7bbbbba, ())))) (Go.Inc.num' (1 : Int)) (4 : Int) ((List.getD t0 (Int.toNat t50) ((0 : Int), ((0 : Int), (ByteArray.empty, ())))) :: ([] : List (Int × (Int × (ByteArray × Unit)))))).1).2).2).1) ((((((Go.Inc.bagStep (b7a, ((b7ba, (b7bba, (b7bbba, ()))), (b7bbbba, (b7bbbbba, ())))) (Go.Inc.num' (1 : Int)) (4 : Int) ((List.getD t0 (Int.toNat t50) ((0 : Int), ((0 : Int), (ByteArray.empty, ())))) :: ([] : List (Int × (Int × (ByteArray × Unit)))))).1).2).2).2).1) (((Go.Inc.bagStep (b9a, ((b9ba, (b9bba, (b9bbba, ()))), (b9bbbba, (b9bbbbba, ())))) (Go.Inc.num' (1 : Int)) (4 : Int) ((List.getD t0 (Int.toNat (Int.tmod (Go.IntKind.wrap .i64 (t50 + (Go.IntKind.wrap .i64 t1))) (((List.length t0) : Nat) : Int))) ((0 : Int), ((0 : Int), (ByteArray.empty, ())))) :: ([] : List (Int × (Int × (ByteArray × Unit)))))).1).1) (((((Go.Inc.bagStep (b9a, ((b9ba, (b9bba, (b9bbba, ()))), (b9bbbba, (b9bbbbba, ())))) (Go.Inc.num' (1 : Int)) (4 : Int) ((List.getD t0 (Int.toNat (Int.tmod (Go.IntKind.wrap .i64 (t50 + (Go.IntKind.wrap .i64 t1))) (((List.length t0) : Nat) : Int))) ((0 : Int), ((0 : Int), (ByteArray.empty, ())))) :: ([] : List (Int × (Int × (ByteArray × Unit)))))).1).2).1).1) ((((((Go.Inc.bagStep (b9a, ((b9ba, (b9bba, (b9bbba, ()))), (b9bbbba, (b9bbbbba, ())))) (Go.Inc.num' (1 : Int)) (4 : Int) ((List.getD t0 (Int.toNat (Int.tmod (Go.IntKind.wrap .i64 (t50 + (Go.IntKind.wrap .i64 t1))) (((List.length t0) : Nat) : Int))) ((0 : Int), ((0 : Int), (ByteArray.empty, ())))) :: ([] : List (Int × (Int × (ByteArray × Unit)))))).1).2).1).2).1) (((((((Go.Inc.bagStep (b9a, ((b9ba, (b9bba, (b9bbba, ()))), (b9bbbba, (b9bbbbba, ())))) (Go.Inc.num' (1 : Int)) (4 : Int) ((List.getD t0 (Int.toNat (Int.tmod (Go.IntKind.wrap .i64 (t50 + (Go.IntKind.wrap .i64 t1))) (((List.length t0) : Nat) : Int))) ((0 : Int), ((0 : Int), (ByteArray.empty, ())))) :: ([] : List (Int × (Int × (ByteArray × Unit)))))).1).2).1).2).2).1) (((((Go.Inc.bagStep (b9a, ((b9ba, (b9bba, (b9bbba, ()))), (b9bbbba, (b9bbbbba, ())))) (Go.Inc.num' (1 : Int)) (4 : Int) ((List.getD t0 (Int.toNat (Int.tmod (Go.IntKind.wrap .i64 (t50 + (Go.IntKind.wrap .i64 t1))) (((List.length t0) : Nat) : Int))) ((0 : Int), ((0 : Int), (ByteArray.empty, ())))) :: ([] : List (Int × (Int × (ByteArray × Unit)))))).1).2).2).1) ((((((Go.Inc.bagStep (b9a, ((b9ba, (b9bba, (b9bbba, ()))), (b9bbbba, (b9bbbbba, ())))) (Go.Inc.num' (1 : Int)) (4 : Int) ((List.getD t0 (Int.toNat (Int.tmod (Go.IntKind.wrap .i64 (t50 + (Go.IntKind.wrap .i64 t1))) (((List.length t0) : Nat) : Int))) ((0 : Int), ((0 : Int), (ByteArray.empty, ())))) :: ([] : List (Int × (Int × (ByteArray × Unit)))))).1).2).2).2).1) t49 (Go.IntKind.wrap .i64 (t50 + (1 : Int)))
            else
              none
          else
            none
      else
        none
    else
      none
  else
    x3 t0 t1 b7a b7ba b7bba b7bbba b7bbbba b7bbbbba b9a b9ba b9bba b9bbba b9bbbba b9bbbbba
def W4_25 {β : Type} (N : Nat) (x5 : Int → Int → Int → ByteArray → Int → (List (Int × Int × ByteArray × Unit)) → Int → Int → ByteArray → Int → Int → Int → ByteArray → Int → (List (Int × Int × ByteArray × Unit)) → Bool → Int → Int → Int → ByteArray → Int → (List (Int × Int × ByteArray × Unit)) → Option β) : Nat → Int → Int → Int → ByteArray → Int → (List (Int × Int × ByteArray × Unit)) → Int → Int → ByteArray → Int → Int → Int → ByteArray → Int → (List (Int × Int × ByteArray × Unit)) → Bool → Int → Int → Int → ByteArray → Int → (List (Int × Int × ByteArray × Unit)) → (List (Int × Int × ByteArray × Unit)) → Int → Int → Option β
  | 0, _, _, _, _, _, _, _, _, _, _, _, _, _, _, _, _, _, _, _, _, _, _, _, _, _ => none
  | n + 1, b7a, b7ba, b7bba, b7bbba, b7bbbba, b7bbbbba, b11a, b11ba, b11bba, b12a, b12ba, b12bba, b12bbba, b12bbbba, b12bbbbba, t14, b15a, b15ba, b15bba, b15bbba, b15bbbba, b15bbbbba, t117, t118, t119 =>
  bif decide (t119 < t118) then
    bif ((decide ((0 : Int) ≤ t119)) && (decide (t119 < (((List.length t117) : Nat) : Int)))) then
      bif (!((((List.getD t117 (Int.toNat t119) ((0 : Int), ((0 : Int), (ByteArray.empty, ())))).1) == b11a) && (((((List.getD t117 (Int.toNat t119) ((0 : Int), ((0 : Int), (ByteArray.empty, ())))).2).1) == b11ba) && ((((((List.getD t117 (Int.toNat t119) ((0 : Int), ((0 : Int), (ByteArray.empty, ())))).2).2).1) == b11bba) && true)))) then
        bif (Go.Inc.okBStep (b15a, ((b15ba, (b15bba, (b15bbba, ()))), (b15bbbba, (b15bbbbba, ())))) (Go.Inc.num' (1 : Int)) (4 : Int) ((List.getD t117 (Int.toNat t119) ((0 : Int), ((0 : Int), (ByteArray.empty, ())))) :: ([] : List (Int × (Int × (ByteArray × Unit)))))) then
          W4_25 N x5 n b7a b7ba b7bba b7bbba b7bbbba b7bbbbba b11a b11ba b11bba b12a b12ba b12bba b12bbba b12bbbba b12bbbbba t14 (((Go.Inc.bagStep (b15a, ((b15ba, (b15bba, (b15bbba, ()))), (b15bbbba, (b15bbbbba, ())))) (Go.Inc.num' (1 : Int)) (4 : Int) ((List.getD t117 (Int.toNat t119) ((0 : Int), ((0 : Int), (ByteArray.empty, ())))) :: ([] : List (Int × (Int × (ByteArray × Unit)))))).1).1) (((((Go.Inc.bagStep (b15a, ((b15ba, (b15bba, (b15bbba, ()))), (b15bbbba, (b15bbbbba, ())))) (Go.Inc.num' (1 : Int)) (4 : Int) ((List.getD t117 (Int.toNat t119) ((0 : Int), ((0 : Int), (ByteArray.empty, ())))) :: ([] : List (Int × (Int × (ByteArray × Unit)))))).1).2).1).1) ((((((Go.Inc.bagStep (b15a, ((b15ba, (b15bba, (b15bbba, ()))), (b15bbbba, (b15bbbbba, ())))) (Go.Inc.num' (1 : Int)) (4 : Int) ((List.getD t117 (Int.toNat t119) ((0 : Int), ((0 : Int), (ByteArray.empty, ())))) :: ([] : List (Int × (Int × (ByteArray × Unit)))))).1).2).1).2).1) (((((((Go.Inc.bagStep (b15a, ((b15ba, (b15bba, (b15bbba, ()))), (b15bbbba, (b15bbbbba, ())))) (Go.Inc.num' (1 : Int)) (4 : Int) ((List.getD t117 (Int.toNat t119) ((0 : Int), ((0 : Int), (ByteArray.empty, ())))) :: ([] : List (Int × (Int × (ByteArray × Unit)))))).1).2).1).2).2).1) (((((Go.Inc.bagStep (b15a, ((b15ba, (b15bba, (b15bbba, ()))), (b15bbbba, (b15bbbbba, ())))) (Go.Inc.num' (1 : Int)) (4 : Int) ((List.getD t117 (Int.toNat t119) ((0 : Int), ((0 : Int), (ByteArray.empty, ())))) :: ([] : List (Int × (Int × (ByteArray × Unit)))))).1).2).2).1) ((((((Go.Inc.bagStep (b15a, ((b15ba, (b15bba, (b15bbba, ()))), (b15bbbba, (b15bbbbba, ())))) (Go.Inc.num' (1 : Int)) (4 : Int) ((List.getD t117 (Int.toNat t119) ((0 : Int), ((0 : Int), (ByteArray.empty, ())))) :: ([] : List (Int × (Int × (ByteArray × Unit)))))).1).2).2).2).1) t117 t118 (Go.IntKind.wrap .i64 (t119 + (1 : Int)))
        else
          none
      else
        W4_25 N x5 n b7a b7ba b7bba b7bbba b7bbbba b7bbbbba b11a b11ba b11bba b12a b12ba b12bba b12bbba b12bbbba b12bbbbba t14 b15a b15ba b15bba b15bbba b15bbbba b15bbbbba t117 t118 (Go.IntKind.wrap .i64 (t119 + (1 : Int)))
    else
      none
  else
    x5 b7a b7ba b7bba b7bbba b7bbbba b7bbbbba b11a b11ba b11bba b12a b12ba b12bba b12bbba b12bbbba b12bbbbba t14 b15a b15ba b15bba b15bbba b15bbbba b15bbbbba
def L4 (N : Nat) : Loops (Bool × Unit) := fun k ρ K => match Nat.beq k 6 with
  | true => (match adH ρ H4_6.hd with
    | some v => W4_6 N (fun t4 => K .ret (encH [(8, .bo)] (t4, ()))) (fun t0 t1 => K (.exit 0) (encH [(0, (.sl (.pr (.int .i64) (.pr (.int .i64) (.pr .str .un))) .no)), (2, (.i .u8))] (t0, (t1, ())))) N v.1 v.2.1 v.2.2.1 v.2.2.2.1 v.2.2.2.2.1
    | none => none)
  | false => match Nat.beq k 14 with
  | true => (match adH ρ H4_14.hd with
    | some v => W4_14 N (fun t0 t1 b7a b7ba b7bba b7bbba b7bbbba b7bbbbba b9a b9ba b9bba b9bbba b9bbbba b9bbbbba => K (.exit 2) (encH [(0, (.sl (.pr (.int .i64) (.pr (.int .i64) (.pr .str .un))) .no)), (2, (.i .u8)), (14, (.bx 7 0)), (15, (.pr (.i .i64) (.pr (.i .i64) (.pr (.i .i64) (.pr .st (.pr (.i .i64) (.pr (.sl (.pr (.int .i64) (.pr (.int .i64) (.pr .str .un))) .no) .un))))))), (18, (.bx 9 0)), (19, (.pr (.i .i64) (.pr (.i .i64) (.pr (.i .i64) (.pr .st (.pr (.i .i64) (.pr (.sl (.pr (.int .i64) (.pr (.int .i64) (.pr .str .un))) .no) .un)))))))] (t0, (t1, ((), ((b7a, (b7ba, (b7bba, (b7bbba, (b7bbbba, (b7bbbbba, ())))))), ((), ((b9a, (b9ba, (b9bba, (b9bbba, (b9bbbba, (b9bbbbba, ())))))), ())))))))) N v.1 v.2.1 v.2.2.2.1.1 v.2.2.2.1.2.1 v.2.2.2.1.2.2.1 v.2.2.2.1.2.2.2.1 v.2.2.2.1.2.2.2.2.1 v.2.2.2.1.2.2.2.2.2.1 v.2.2.2.2.2.1.1 v.2.2.2.2.2.1.2.1 v.2.2.2.2.2.1.2.2.1 v.2.2.2.2.2.1.2.2.2.1 v.2.2.2.2.2.1.2.2.2.2.1 v.2.2.2.2.2.1.2.2.2.2.2.1 v.2.2.2.2.2.2.1 v.2.2.2.2.2.2.2.1
    | none => none)
  | false => match Nat.beq k 25 with
  | true => (match adH ρ H4_25.hd with
    | some v => W4_25 N (fun b7a b7ba b7bba b7bbba b7bbbba b7bbbbba b11a b11ba b11bba b12a b12ba b12bba b12bbba b12bbbba b12bbbbba t14 b15a b15ba b15bba b15bbba b15bbbba b15bbbbba => K (.exit 4) (encH [(14, (.bx 7 0)), (15, (.pr (.i .i64) (.pr (.i .i64) (.pr (.i .i64) (.pr .st (.pr (.i .i64) (.pr (.sl (.pr (.int .i64) (.pr (.int .i64) (.pr .str .un))) .no) .un))))))), (22, (.bx 11 0)), (23, (.pr (.i .i64) (.pr (.i .i64) (.pr .st .un)))), (24, (.bx 12 0)), (25, (.pr (.i .i64) (.pr (.i .i64) (.pr (.i .i64) (.pr .st (.pr (.i .i64) (.pr (.sl (.pr (.int .i64) (.pr (.int .i64) (.pr .str .un))) .no) .un))))))), (28, .bo), (30, (.bx 15 0)), (31, (.pr (.i .i64) (.pr (.i .i64) (.pr (.i .i64) (.pr .st (.pr (.i .i64) (.pr (.sl (.pr (.int .i64) (.pr (.int .i64) (.pr .str .un))) .no) .un)))))))] ((), ((b7a, (b7ba, (b7bba, (b7bbba, (b7bbbba, (b7bbbbba, ())))))), ((), ((b11a, (b11ba, (b11bba, ()))), ((), ((b12a, (b12ba, (b12bba, (b12bbba, (b12bbbba, (b12bbbbba, ())))))), (t14, ((), ((b15a, (b15ba, (b15bba, (b15bbba, (b15bbbba, (b15bbbbba, ())))))), ()))))))))))) N v.2.1.1 v.2.1.2.1 v.2.1.2.2.1 v.2.1.2.2.2.1 v.2.1.2.2.2.2.1 v.2.1.2.2.2.2.2.1 v.2.2.2.1.1 v.2.2.2.1.2.1 v.2.2.2.1.2.2.1 v.2.2.2.2.2.1.1 v.2.2.2.2.2.1.2.1 v.2.2.2.2.2.1.2.2.1 v.2.2.2.2.2.1.2.2.2.1 v.2.2.2.2.2.1.2.2.2.2.1 v.2.2.2.2.2.1.2.2.2.2.2.1 v.2.2.2.2.2.2.1 v.2.2.2.2.2.2.2.2.1.1 v.2.2.2.2.2.2.2.2.1.2.1 v.2.2.2.2.2.2.2.2.1.2.2.1 v.2.2.2.2.2.2.2.2.1.2.2.2.1 v.2.2.2.2.2.2.2.2.1.2.2.2.2.1 v.2.2.2.2.2.2.2.2.1.2.2.2.2.2.1 v.2.2.2.2.2.2.2.2.2.1 v.2.2.2.2.2.2.2.2.2.2.1 v.2.2.2.2.2.2.2.2.2.2.2.1
    | none => none)
  | false => none
def F4 (N : Nat) (p0 : List (Int × Int × ByteArray × Unit)) (p1 : Int) : Option (Bool × Unit) :=
  bif decide ((((List.length p0) : Nat) : Int) > (30 : Int)) then
    some (true, ())
  else
    W4_6 N
      (fun t4 =>
        some (t4, ()))
      (fun t0 t1 =>
        W4_14 N
          (fun t0 t1 b7a b7ba b7bba b7bbba b7bbbba b7bbbbba b9a b9ba b9bba b9bbba b9bbbba b9bbbbba =>
            bif (Go.Inc.okSS (b7a, ((b7ba, (b7bba, (b7bbba, ()))), (b7bbbba, (b7bbbbba, ())))) (b9a, ((b9ba, (b9bba, (b9bbba, ()))), (b9bbbba, (b9bbbbba, ()))))) then
              bif (!(Go.Inc.sameS (b7a, ((b7ba, (b7bba, (b7bbba, ()))), (b7bbbba, (b7bbbbba, ())))) (b9a, ((b9ba, (b9bba, (b9bbba, ()))), (b9bbbba, (b9bbbbba, ())))))) then
              bif (Go.Inc.okSS (b7a, ((b7ba, (b7bba, (b7bbba, ()))), (b7bbbba, (b7bbbbba, ())))) (b9a, ((b9ba, (b9bba, (b9bbba, ()))), (b9bbbba, (b9bbbbba, ()))))) then
              some ((Go.Inc.sameS (b7a, ((b7ba, (b7bba, (b7bbba, ()))), (b7bbbba, (b7bbbbba, ())))) (b9a, ((b9ba, (b9bba, (b9bbba, ()))), (b9bbbba, (b9bbbbba, ()))))), ())
            else
              none
            else
              bif ((((List.length t0) : Nat) : Int) == (0 : Int)) then
              bif (Go.Inc.okSS (b7a, ((b7ba, (b7bba, (b7bbba, ()))), (b7bbbba, (b7bbbbba, ())))) (b9a, ((b9ba, (b9bba, (b9bbba, ()))), (b9bbbba, (b9bbbbba, ()))))) then
              some ((Go.Inc.sameS (b7a, ((b7ba, (b7bba, (b7bbba, ()))), (b7bbbba, (b7bbbbba, ())))) (b9a, ((b9ba, (b9bba, (b9bbba, ()))), (b9bbbba, (b9bbbbba, ()))))), ())
            else
              none
            else
              bif ((((List.length t0) : Nat) : Int) == (0 : Int)) then
              none
            else
              bif ((decide ((0 : Int) ≤ (Int.tmod (Go.IntKind.wrap .i64 t1) (((List.length t0) : Nat) : Int)))) && (decide ((Int.tmod (Go.IntKind.wrap .i64 t1) (((List.length t0) : Nat) : Int)) < (((List.length t0) : Nat) : Int)))) then
              bif (Go.Inc.okBStep (b7a, ((b7ba, (b7bba, (b7bbba, ()))), (b7bbbba, (b7bbbbba, ())))) (Go.Inc.num' (1 : Int)) (4 : Int) ((List.getD t0 (Int.toNat (Int.tmod (Go.IntKind.wrap .i64 t1) (((List.length t0) : Nat) : Int))) ((0 : Int), ((0 : Int), (ByteArray.empty, ())))) :: ([] : List (Int × (Int × (ByteArray × Unit)))))) then
              W4_25 N
              (fun b7a b7ba b7bba b7bbba b7bbbba b7bbbbba b11a b11ba b11bba b12a b12ba b12bba b12bbba b12bbbba b12bbbbba t14 b15a b15ba b15bba b15bbba b15bbbba b15bbbbba =>
                bif (Go.Inc.okBStep (b12a, ((b12ba, (b12bba, (b12bbba, ()))), (b12bbbba, (b12bbbbba, ())))) (Go.Inc.num' (1 : Int)) (5 : Int) ((b11a, (b11ba, (b11bba, ()))) :: ([] : List (Int × (Int × (ByteArray × Unit)))))) then
              bif t14 then
              bif (((Go.Inc.bagStep (b12a, ((b12ba, (b12bba, (b12bbba, ()))), (b12bbbba, (b12bbbbba, ())))) (Go.Inc.num' (1 : Int)) (5 : Int) ((b11a, (b11ba, (b11bba, ()))) :: ([] : List (Int × (Int × (ByteArray × Unit)))))).2).2).1 then
              bif (Go.Inc.okSS (b12a, ((b12ba, (b12bba, (b12bbba, ()))), (b12bbbba, (b12bbbbba, ())))) (b7a, ((b7ba, (b7bba, (b7bbba, ()))), (b7bbbba, (b7bbbbba, ()))))) then
              bif (Go.Inc.sameS (b12a, ((b12ba, (b12bba, (b12bbba, ()))), (b12bbbba, (b12bbbbba, ())))) (b7a, ((b7ba, (b7bba, (b7bbba, ()))), (b7bbbba, (b7bbbbba, ()))))) then
              bif (Go.Inc.okSS ((Go.Inc.bagStep (b12a, ((b12ba, (b12bba, (b12bbba, ()))), (b12bbbba, (b12bbbbba, ())))) (Go.Inc.num' (1 : Int)) (5 : Int) ((b11a, (b11ba, (b11bba, ()))) :: ([] : List (Int × (Int × (ByteArray × Unit)))))).1) (b15a, ((b15ba, (b15bba, (b15bbba, ()))), (b15bbbba, (b15bbbbba, ()))))) then
              some ((Go.Inc.sameS ((Go.Inc.bagStep (b12a, ((b12ba, (b12bba, (b12bbba, ()))), (b12bbbba, (b12bbbbba, ())))) (Go.Inc.num' (1 : Int)) (5 : Int) ((b11a, (b11ba, (b11bba, ()))) :: ([] : List (Int × (Int × (ByteArray × Unit)))))).1) (b15a, ((b15ba, (b15bba, (b15bbba, ()))), (b15bbbba, (b15bbbbba, ()))))), ())
            else
              none
            else
              some (false, ())
            else
              none
            else
              some (false, ())
            else
              some (false, ())
            else
              none)
              N b7a b7ba b7bba b7bbba b7bbbba b7bbbbba ((List.getD t0 (Int.toNat (Int.tmod (Go.IntKind.wrap .i64 t1) (((List.length t0) : Nat) : Int))) ((0 : Int), ((0 : Int), (ByteArray.empty, ())))).1) (((List.getD t0 (Int.toNat (Int.tmod (Go.IntKind.wrap .i64 t1) (((List.length t0) : Nat) : Int))) ((0 : Int), ((0 : Int), (ByteArray.empty, ())))).2).1) ((((List.getD t0 (Int.toNat (Int.tmod (Go.IntKind.wrap .i64 t1) (((List.length t0) : Nat) : Int))) ((0 : Int), ((0 : Int), (ByteArray.empty, ())))).2).2).1) (((Go.Inc.bagStep (b7a, ((b7ba, (b7bba, (b7bbba, ()))), (b7bbbba, (b7bbbbba, ())))) (Go.Inc.num' (1 : Int)) (4 : Int) ((List.getD t0 (Int.toNat (Int.tmod (Go.IntKind.wrap .i64 t1) (((List.length t0) : Nat) : Int))) ((0 : Int), ((0 : Int), (ByteArray.empty, ())))) :: ([] : List (Int × (Int × (ByteArray × Unit)))))).1).1) (((((Go.Inc.bagStep (b7a, ((b7ba, (b7bba, (b7bbba, ()))), (b7bbbba, (b7bbbbba, ())))) (Go.Inc.num' (1 : Int)) (4 : Int) ((List.getD t0 (Int.toNat (Int.tmod (Go.IntKind.wrap .i64 t1) (((List.length t0) : Nat) : Int))) ((0 : Int), ((0 : Int), (ByteArray.empty, ())))) :: ([] : List (Int × (Int × (ByteArray × Unit)))))).1).2).1).1) ((((((Go.Inc.bagStep (b7a, ((b7ba, (b7bba, (b7bbba, ()))), (b7bbbba, (b7bbbbba, ())))) (Go.Inc.num' (1 : Int)) (4 : Int) ((List.getD t0 (Int.toNat (Int.tmod (Go.IntKind.wrap .i64 t1) (((List.length t0) : Nat) : Int))) ((0 : Int), ((0 : Int), (ByteArray.empty, ())))) :: ([] : List (Int × (Int × (ByteArray × Unit)))))).1).2).1).2).1) (((((((Go.Inc.bagStep (b7a, ((b7ba, (b7bba, (b7bbba, ()))), (b7bbbba, (b7bbbbba, ())))) (Go.Inc.num' (1 : Int)) (4 : Int) ((List.getD t0 (Int.toNat (Int.tmod (Go.IntKind.wrap .i64 t1) (((List.length t0) : Nat) : Int))) ((0 : Int), ((0 : Int), (ByteArray.empty, ())))) :: ([] : List (Int × (Int × (ByteArray × Unit)))))).1).2).1).2).2).1) (((((Go.Inc.bagStep (b7a, ((b7ba, (b7bba, (b7bbba, ()))), (b7bbbba, (b7bbbbba, ())))) (Go.Inc.num' (1 : Int)) (4 : Int) ((List.getD t0 (Int.toNat (Int.tmod (Go.IntKind.wrap .i64 t1) (((List.length t0) : Nat) : Int))) ((0 : Int), ((0 : Int), (ByteArray.empty, ())))) :: ([] : List (Int × (Int × (ByteArray × Unit)))))).1).2).2).1) ((((((Go.Inc.bagStep (b7a, ((b7ba, (b7bba, (b7bbba, ()))), (b7bbbba, (b7bbbbba, ())))) (Go.Inc.num' (1 : Int)) (4 : Int) ((List.getD t0 (Int.toNat (Int.tmod (Go.IntKind.wrap .i64 t1) (((List.length t0) : Nat) : Int))) ((0 : Int), ((0 : Int), (ByteArray.empty, ())))) :: ([] : List (Int × (Int × (ByteArray × Unit)))))).1).2).2).2).1) ((((Go.Inc.bagStep (b7a, ((b7ba, (b7bba, (b7bbba, ()))), (b7bbbba, (b7bbbbba, ())))) (Go.Inc.num' (1 : Int)) (4 : Int) ((List.getD t0 (Int.toNat (Int.tmod (Go.IntKind.wrap .i64 t1) (((List.length t0) : Nat) : Int))) ((0 : Int), ((0 : Int), (ByteArray.empty, ())))) :: ([] : List (Int × (Int × (ByteArray × Unit)))))).2).2).1) (((Go.Inc.bagNew (3 : Int)).1).1) (((((Go.Inc.bagNew (3 : Int)).1).2).1).1) ((((((Go.Inc.bagNew (3 : Int)).1).2).1).2).1) (((((((Go.Inc.bagNew (3 : Int)).1).2).1).2).2).1) (((((Go.Inc.bagNew (3 : Int)).1).2).2).1) ((((((Go.Inc.bagNew (3 : Int)).1).2).2).2).1) t0 (((List.length t0) : Nat) : Int) (0 : Int)
            else
              none
            else
              none
            else
              none)
          N t0 t1 (((Go.Inc.bagNew (3 : Int)).1).1) (((((Go.Inc.bagNew (3 : Int)).1).2).1).1) ((((((Go.Inc.bagNew (3 : Int)).1).2).1).2).1) (((((((Go.Inc.bagNew (3 : Int)).1).2).1).2).2).1) (((((Go.Inc.bagNew (3 : Int)).1).2).2).1) ((((((Go.Inc.bagNew (3 : Int)).1).2).2).2).1) (((Go.Inc.bagNew (3 : Int)).1).1) (((((Go.Inc.bagNew (3 : Int)).1).2).1).1) ((((((Go.Inc.bagNew (3 : Int)).1).2).1).2).1) (((((((Go.Inc.bagNew (3 : Int)).1).2).1).2).2).1) (((((Go.Inc.bagNew (3 : Int)).1).2).2).1) ((((((Go.Inc.bagNew (3 : Int)).1).2).2).2).1) (((List.length t0) : Nat) : Int) (0 : Int))
      N p0 p1 p0 (((List.length p0) : Nat) : Int) (0 : Int)
theorem loops4 (N : Nat) : loopsOk C4 (L4 N) Go.Proofs.Tryd.f4 := ⟨trivial, ⟨⟨trivial, ⟨⟨trivial, trivial⟩, trivial⟩⟩, ⟨⟨trivial, ⟨⟨trivial, trivial⟩, trivial⟩⟩, ⟨⟨trivial, ⟨loopOk_of H4_6 N (fun K n v => W4_6 N (fun t4 => K .ret (encH [(8, .bo)] (t4, ()))) (fun t0 t1 => K (.exit 0) (encH [(0, (.sl (.pr (.int .i64) (.pr (.int .i64) (.pr .str .un))) .no)), (2, (.i .u8))] (t0, (t1, ())))) n v.1 v.2.1 v.2.2.1 v.2.2.2.1 v.2.2.2.2.1) (by kernel_rfl) (fun K v => by kernel_rfl) (fun K v => by kernel_rfl) (fun K n v => by kernel_rfl), ⟨trivial, ⟨⟨trivial, trivial⟩, ⟨⟨trivial, ⟨trivial, ⟨⟨trivial, trivial⟩, trivial⟩⟩⟩, trivial⟩⟩⟩⟩⟩, ⟨trivial, ⟨trivial, ⟨⟨trivial, ⟨loopOk_of H4_14 N (fun K n v => W4_14 N (fun t0 t1 b7a b7ba b7bba b7bbba b7bbbba b7bbbbba b9a b9ba b9bba b9bbba b9bbbba b9bbbbba => K (.exit 2) (encH [(0, (.sl (.pr (.int .i64) (.pr (.int .i64) (.pr .str .un))) .no)), (2, (.i .u8)), (14, (.bx 7 0)), (15, (.pr (.i .i64) (.pr (.i .i64) (.pr (.i .i64) (.pr .st (.pr (.i .i64) (.pr (.sl (.pr (.int .i64) (.pr (.int .i64) (.pr .str .un))) .no) .un))))))), (18, (.bx 9 0)), (19, (.pr (.i .i64) (.pr (.i .i64) (.pr (.i .i64) (.pr .st (.pr (.i .i64) (.pr (.sl (.pr (.int .i64) (.pr (.int .i64) (.pr .str .un))) .no) .un)))))))] (t0, (t1, ((), ((b7a, (b7ba, (b7bba, (b7bbba, (b7bbbba, (b7bbbbba, ())))))), ((), ((b9a, (b9ba, (b9bba, (b9bbba, (b9bbbba, (b9bbbbba, ())))))), ())))))))) n v.1 v.2.1 v.2.2.2.1.1 v.2.2.2.1.2.1 v.2.2.2.1.2.2.1 v.2.2.2.1.2.2.2.1 v.2.2.2.1.2.2.2.2.1 v.2.2.2.1.2.2.2.2.2.1 v.2.2.2.2.2.1.1 v.2.2.2.2.2.1.2.1 v.2.2.2.2.2.1.2.2.1 v.2.2.2.2.2.1.2.2.2.1 v.2.2.2.2.2.1.2.2.2.2.1 v.2.2.2.2.2.1.2.2.2.2.2.1 v.2.2.2.2.2.2.1 v.2.2.2.2.2.2.2.1) (by kernel_rfl) (fun K v => by kernel_rfl) (fun K v => by kernel_rfl) (fun K n v => by kernel_rfl), ⟨trivial, ⟨⟨trivial, trivial⟩, ⟨⟨trivial, ⟨trivial, trivial⟩⟩, trivial⟩⟩⟩⟩⟩, ⟨⟨trivial, ⟨⟨trivial, trivial⟩, trivial⟩⟩, ⟨trivial, ⟨trivial, ⟨trivial, ⟨⟨trivial, ⟨loopOk_of H4_25 N (fun K n v => W4_25 N (fun b7a b7ba b7bba b7bbba b7bbbba b7bbbbba b11a b11ba b11bba b12a b12ba b12bba b12bbba b12bbbba b12bbbbba t14 b15a b15ba b15bba b15bbba b15bbbba b15bbbbba => K (.exit 4) (encH [(14, (.bx 7 0)), (15, (.pr (.i .i64) (.pr (.i .i64) (.pr (.i .i64) (.pr .st (.pr (.i .i64) (.pr (.sl (.pr (.int .i64) (.pr (.int .i64) (.pr .str .un))) .no) .un))))))), (22, (.bx 11 0)), (23, (.pr (.i .i64) (.pr (.i .i64) (.pr .st .un)))), (24, (.bx 12 0)), (25, (.pr (.i .i64) (.pr (.i .i64) (.pr (.i .i64) (.pr .st (.pr (.i .i64) (.pr (.sl (.pr (.int .i64) (.pr (.int .i64) (.pr .str .un))) .no) .un))))))), (28, .bo), (30, (.bx 15 0)), (31, (.pr (.i .i64) (.pr (.i .i64) (.pr (.i .i64) (.pr .st (.pr (.i .i64) (.pr (.sl (.pr (.int .i64) (.pr (.int .i64) (.pr .str .un))) .no) .un)))))))] ((), ((b7a, (b7ba, (b7bba, (b7bbba, (b7bbbba, (b7bbbbba, ())))))), ((), ((b11a, (b11ba, (b11bba, ()))), ((), ((b12a, (b12ba, (b12bba, (b12bbba, (b12bbbba, (b12bbbbba, ())))))), (t14, ((), ((b15a, (b15ba, (b15bba, (b15bbba, (b15bbbba, (b15bbbbba, ())))))), ()))))))))))) n v.2.1.1 v.2.1.2.1 v.2.1.2.2.1 v.2.1.2.2.2.1 v.2.1.2.2.2.2.1 v.2.1.2.2.2.2.2.1 v.2.2.2.1.1 v.2.2.2.1.2.1 v.2.2.2.1.2.2.1 v.2.2.2.2.2.1.1 v.2.2.2.2.2.1.2.1 v.2.2.2.2.2.1.2.2.1 v.2.2.2.2.2.1.2.2.2.1 v.2.2.2.2.2.1.2.2.2.2.1 v.2.2.2.2.2.1.2.2.2.2.2.1 v.2.2.2.2.2.2.1 v.2.2.2.2.2.2.2.2.1.1 v.2.2.2.2.2.2.2.2.1.2.1 v.2.2.2.2.2.2.2.2.1.2.2.1 v.2.2.2.2.2.2.2.2.1.2.2.2.1 v.2.2.2.2.2.2.2.2.1.2.2.2.2.1 v.2.2.2.2.2.2.2.2.1.2.2.2.2.2.1 v.2.2.2.2.2.2.2.2.2.1 v.2.2.2.2.2.2.2.2.2.2.1 v.2.2.2.2.2.2.2.2.2.2.2.1) (by kernel_rfl) (fun K v => by kernel_rfl) (fun K v => by kernel_rfl) (fun K n v => by kernel_rfl), ⟨trivial, ⟨⟨trivial, trivial⟩, ⟨⟨trivial, ⟨trivial, ⟨trivial, trivial⟩⟩⟩, trivial⟩⟩⟩⟩⟩, ⟨trivial, ⟨trivial, trivial⟩⟩⟩⟩⟩⟩⟩⟩⟩⟩⟩⟩⟩⟩
theorem runs4 (N : Nat) (x : S4.ta.den) : run C4 S4 (L4 N) Go.Proofs.Tryd.f4 x = F4 N x.1 x.2.1 := by kernel_rfl

/-! ### 18: incognito/incognitoref13.Copy -/
def L18 (_ : Nat) : Loops ((Int × (Int × Int × ByteArray × Unit) × Int × (List (Int × Int × ByteArray × Unit)) × Unit) × Unit) := fun _ _ _ => none
def F18 (N : Nat) (p0 : Int × (Int × Int × ByteArray × Unit) × Int × (List (Int × Int × ByteArray × Unit)) × Unit) : Option ((Int × (Int × Int × ByteArray × Unit) × Int × (List (Int × Int × ByteArray × Unit)) × Unit) × Unit) :=
  bif decide ((((List.length ([] : List (Int × (Int × (ByteArray × Unit))))) + (List.length p0.2.2.2.1)) * 32) ≤ 140737488351232) then
    some ((p0.1, (p0.2.1, (p0.2.2.1, ((([] : List (Int × (Int × (ByteArray × Unit)))) ++ p0.2.2.2.1), ())))), ())
  else
    none
theorem loops18 (N : Nat) : loopsOk C18 (L18 N) Go.Proofs.Tryd.f18 := ⟨trivial, ⟨trivial, ⟨trivial, trivial⟩⟩⟩
theorem runs18 (N : Nat) (x : S18.ta.den) : run C18 S18 (L18 N) Go.Proofs.Tryd.f18 x = F18 N x.1 := by kernel_rfl

/-! ### 33x: incognito/sign.paired -/
def W33x_5 {β : Type} (N : Nat) (x0 : (List Int) → Bool → (List (Int × Int × ByteArray × Unit)) → Option β) (x1 : (List Int) → (List (Int × Int × ByteArray × Unit)) → Option β) : Nat → (List Int) → Nat → Int → Int → (List (Int × Int × ByteArray × Unit)) → Option β
  | 0, _, _, _, _, _ => none
  | n + 1, t4, t12, t13, t14, b1000 =>
  bif decide (t14 < t13) then
    bif ((decide ((0 : Int) ≤ t14)) && (decide (t14 < ((t12 : Nat) : Int)))) then
      bif decide ((Int.toNat t14) < (List.length b1000)) then
        bif ((Int.tmod t14 (2 : Int)) == (1 : Int)) then
          bif (Go.Inc.okT (2 : Int) (List.getD b1000 (Int.toNat t14) ((0 : Int), ((0 : Int), (ByteArray.empty, ()))))) then
            bif (!(Go.Inc.takes (2 : Int) (List.getD b1000 (Int.toNat t14) ((0 : Int), ((0 : Int), (ByteArray.empty, ())))))) then
              x0 ([] : List Int) false b1000
            else
              bif decide ((((List.length t4) + (List.length ((2 : Int) :: ([] : List Int)))) * 8) ≤ 140737488351232) then
              W33x_5 N x0 x1 n (t4 ++ ((2 : Int) :: ([] : List Int))) t12 t13 (Go.IntKind.wrap .i64 (t14 + (1 : Int))) b1000
            else
              none
          else
            none
        else
          bif (Go.Inc.okT (4 : Int) (List.getD b1000 (Int.toNat t14) ((0 : Int), ((0 : Int), (ByteArray.empty, ()))))) then
            bif (!(Go.Inc.takes (4 : Int) (List.getD b1000 (Int.toNat t14) ((0 : Int), ((0 : Int), (ByteArray.empty, ())))))) then
              x0 ([] : List Int) false b1000
            else
              bif decide ((((List.length t4) + (List.length ((4 : Int) :: ([] : List Int)))) * 8) ≤ 140737488351232) then
              W33x_5 N x0 x1 n (t4 ++ ((4 : Int) :: ([] : List Int))) t12 t13 (Go.IntKind.wrap .i64 (t14 + (1 : Int))) b1000
            else
              none
          else
            none
      else
        none
    else
      none
  else
    x1 t4 b1000
def L33x (N : Nat) : Loops (HS.den X33x.hout) := fun k ρ K => match Nat.beq k 5 with
  | true => (match adH ρ H33x_5.hd with
    | some v => W33x_5 N (fun t2 t3 b1000 => K .ret (encH [(4, (.sl (.int .i64) .full)), (6, .bo), (2001, (.ar (.pr (.int .i64) (.pr (.int .i64) (.pr .str .un)))))] (t2, (t3, (b1000, ()))))) (fun t4 b1000 => K (.exit 0) (encH [(8, (.sl (.int .i64) (.own 29))), (2001, (.ar (.pr (.int .i64) (.pr (.int .i64) (.pr .str .un)))))] (t4, (b1000, ())))) N v.1 v.2.1 v.2.2.1 v.2.2.2.1 v.2.2.2.2.1
    | none => none)
  | false => none
def F33x (N : Nat) (t0 : Nat) (b1000 : List (Int × Int × ByteArray × Unit)) : Option (HS.den X33x.hout) :=
  bif ((Int.tmod ((t0 : Nat) : Int) (2 : Int)) != (0 : Int)) then
    some (([] : List Int), (false, (b1000, ())))
  else
    W33x_5 N
      (fun t2 t3 b1000 =>
        some (t2, (t3, (b1000, ()))))
      (fun t4 b1000 =>
        some (t4, (true, (b1000, ()))))
      N ([] : List Int) t0 ((t0 : Nat) : Int) (0 : Int) b1000
theorem loops33x (N : Nat) : loopsOk C33x (L33x N) Go.Proofs.Tryd.f33 := ⟨trivial, ⟨⟨trivial, ⟨⟨trivial, trivial⟩, trivial⟩⟩, ⟨trivial, ⟨⟨trivial, ⟨loopOk_of H33x_5 N (fun K n v => W33x_5 N (fun t2 t3 b1000 => K .ret (encH [(4, (.sl (.int .i64) .full)), (6, .bo), (2001, (.ar (.pr (.int .i64) (.pr (.int .i64) (.pr .str .un)))))] (t2, (t3, (b1000, ()))))) (fun t4 b1000 => K (.exit 0) (encH [(8, (.sl (.int .i64) (.own 29))), (2001, (.ar (.pr (.int .i64) (.pr (.int .i64) (.pr .str .un)))))] (t4, (b1000, ())))) n v.1 v.2.1 v.2.2.1 v.2.2.2.1 v.2.2.2.2.1) (by kernel_rfl) (fun K v => by kernel_rfl) (fun K v => by kernel_rfl) (fun K n v => by kernel_rfl), ⟨trivial, ⟨⟨trivial, trivial⟩, ⟨⟨trivial, ⟨trivial, ⟨⟨trivial, ⟨trivial, trivial⟩⟩, ⟨⟨trivial, ⟨⟨trivial, trivial⟩, trivial⟩⟩, trivial⟩⟩⟩⟩, trivial⟩⟩⟩⟩⟩, ⟨trivial, trivial⟩⟩⟩⟩⟩
theorem runs33x (N : Nat) (x : HS.den X33x.hin) : runX C33x X33x (L33x N) Go.Proofs.Tryd.f33 x = F33x N x.1 x.2.1 := by kernel_rfl


end Go.L14
