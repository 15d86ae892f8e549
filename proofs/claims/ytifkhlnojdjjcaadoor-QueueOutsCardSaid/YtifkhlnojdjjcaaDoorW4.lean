/- The walks of package queue and its statements. Printed by a program of this session. -/
import Derived.Test.YtifkhlnojdjjcaaDoorW0
set_option linter.unusedVariables false
set_option maxRecDepth 100000
namespace Go.L15
open Go Go.Abs Go.Inc

/-! ### 35: slices.IndexFunc[[]incognito/sign.row,incognito/sign.row] -/
def W35_2 {β : Type} (N : Nat) (x0 : Int → Int → Int → Option β) (x1 : Int → Int → Option β) : Nat → (List (Int × Int × ByteArray × Int × Bool × Unit)) → Int → Int → Int → Int → Option β
  | 0, _, _, _, _, _ => none
  | n + 1, t0, t7, t8, b1000a, b1001a =>
  bif decide (t8 < t7) then
    bif ((decide ((0 : Int) ≤ t8)) && (decide (t8 < (((List.length t0) : Nat) : Int)))) then
      bif (Go.Inc.hitA ((List.getD t0 (Int.toNat t8) ((0 : Int), ((0 : Int), (ByteArray.empty, ((0 : Int), (false, ())))))).1) (((List.getD t0 (Int.toNat t8) ((0 : Int), ((0 : Int), (ByteArray.empty, ((0 : Int), (false, ())))))).2).1) ((((List.getD t0 (Int.toNat t8) ((0 : Int), ((0 : Int), (ByteArray.empty, ((0 : Int), (false, ())))))).2).2).1) (((((List.getD t0 (Int.toNat t8) ((0 : Int), ((0 : Int), (ByteArray.empty, ((0 : Int), (false, ())))))).2).2).2).1) ((((((List.getD t0 (Int.toNat t8) ((0 : Int), ((0 : Int), (ByteArray.empty, ((0 : Int), (false, ())))))).2).2).2).2).1) b1000a b1001a) then
        x0 t8 b1000a b1001a
      else
        W35_2 N x0 x1 n t0 t7 (Go.IntKind.wrap .i64 (t8 + (1 : Int))) b1000a b1001a
    else
      none
  else
    x1 b1000a b1001a
def L35 (N : Nat) : Loops (HS.den X35.hout) := fun k ρ K => match Nat.beq k 2 with
  | true => (match adH ρ H35_2.hd with
    | some v => W35_2 N (fun t4 b1000a b1001a => K .ret (encH [(8, (.i .i64)), (2001, (.pr (.i .i64) .un)), (2003, (.pr (.i .i64) .un))] (t4, ((b1000a, ()), ((b1001a, ()), ()))))) (fun b1000a b1001a => K (.exit 0) (encH [(2001, (.pr (.i .i64) .un)), (2003, (.pr (.i .i64) .un))] ((b1000a, ()), ((b1001a, ()), ())))) N v.1 v.2.2.1 v.2.2.2.1 v.2.2.2.2.1.1 v.2.2.2.2.2.1.1
    | none => none)
  | false => none
def F35 (N : Nat) (t0 : List (Int × Int × ByteArray × Int × Bool × Unit)) (b1000a : Int) (b1001a : Int) : Option (HS.den X35.hout) :=
  W35_2 N
    (fun t4 b1000a b1001a =>
      some (t4, ((b1000a, ()), ((b1001a, ()), ()))))
    (fun b1000a b1001a =>
      some ((-(1 : Int)), ((b1000a, ()), ((b1001a, ()), ()))))
    N t0 (((List.length t0) : Nat) : Int) (0 : Int) b1000a b1001a
theorem loops35 (N : Nat) : loopsOk C35 (L35 N) Go.Proofs.Tryd.f35 := ⟨trivial, ⟨⟨trivial, ⟨loopOk_of H35_2 N (fun K n v => W35_2 N (fun t4 b1000a b1001a => K .ret (encH [(8, (.i .i64)), (2001, (.pr (.i .i64) .un)), (2003, (.pr (.i .i64) .un))] (t4, ((b1000a, ()), ((b1001a, ()), ()))))) (fun b1000a b1001a => K (.exit 0) (encH [(2001, (.pr (.i .i64) .un)), (2003, (.pr (.i .i64) .un))] ((b1000a, ()), ((b1001a, ()), ())))) n v.1 v.2.2.1 v.2.2.2.1 v.2.2.2.2.1.1 v.2.2.2.2.2.1.1) (by kernel_rfl) (fun K v => by kernel_rfl) (fun K v => by kernel_rfl) (fun K n v => by kernel_rfl), ⟨trivial, ⟨⟨trivial, trivial⟩, ⟨⟨trivial, ⟨trivial, ⟨⟨trivial, trivial⟩, trivial⟩⟩⟩, trivial⟩⟩⟩⟩⟩, ⟨trivial, trivial⟩⟩⟩
theorem runs35 (N : Nat) (x : HS.den X35.hin) : runX C35 X35 (L35 N) Go.Proofs.Tryd.f35 x = F35 N x.1 x.2.2.1.1 x.2.2.2.1.1 := by kernel_rfl

/-! ### 27: incognito/sign.find -/
def L27 (_ : Nat) : Loops ((Int × Int × ByteArray × Int × Bool × Unit) × Bool × Unit) := fun _ _ _ => none
def F27 (N : Nat) (p0 : Int) (p1 : Int) : Option ((Int × Int × ByteArray × Int × Bool × Unit) × Bool × Unit) :=
  bif decide ((Go.Inc.idxR (((1 : Int), ((1 : Int), ((strL [118]), ((-(1 : Int)), (false, ()))))) :: (((1 : Int), ((2 : Int), ((strL []), ((2 : Int), (true, ()))))) :: (((2 : Int), ((1 : Int), ((strL [118]), ((-(1 : Int)), (false, ()))))) :: (((2 : Int), ((2 : Int), ((strL []), ((2 : Int), (true, ()))))) :: (((2 : Int), ((3 : Int), ((strL [118, 118]), ((6 : Int), (false, ()))))) :: (((3 : Int), ((4 : Int), ((strL [118]), ((-(1 : Int)), (false, ()))))) :: (((3 : Int), ((5 : Int), ((strL [118]), ((-(1 : Int)), (false, ()))))) :: (((3 : Int), ((6 : Int), ((strL [118]), ((6 : Int), (false, ()))))) :: (((4 : Int), ((7 : Int), ((strL [102, 118]), ((-(1 : Int)), (false, ()))))) :: (((4 : Int), ((8 : Int), ((strL [102]), ((2 : Int), (true, ()))))) :: (((4 : Int), ((5 : Int), ((strL [102]), ((-(1 : Int)), (false, ()))))) :: (((5 : Int), ((9 : Int), ((strL [118]), ((-(1 : Int)), (false, ()))))) :: (((5 : Int), ((10 : Int), ((strL []), ((2 : Int), (true, ()))))) :: (((6 : Int), ((9 : Int), ((strL [118]), ((-(1 : Int)), (false, ()))))) :: (((6 : Int), ((10 : Int), ((strL []), ((2 : Int), (true, ()))))) :: (((7 : Int), ((11 : Int), ((strL []), ((6 : Int), (false, ()))))) :: (((7 : Int), ((12 : Int), ((strL []), ((6 : Int), (false, ()))))) :: (((8 : Int), ((4 : Int), ((strL [110]), ((-(1 : Int)), (false, ()))))) :: (((8 : Int), ((2 : Int), ((strL []), ((5 : Int), (false, ()))))) :: (((9 : Int), ((1 : Int), ((strL [111]), ((-(1 : Int)), (false, ()))))) :: (((9 : Int), ((2 : Int), ((strL []), ((4 : Int), (true, ()))))) :: (((10 : Int), ((7 : Int), ((strL [111, 118]), ((-(1 : Int)), (false, ()))))) :: (((10 : Int), ((5 : Int), ((strL [111]), ((-(1 : Int)), (false, ()))))) :: (((10 : Int), ((13 : Int), ((strL [111, 111]), ((99 : Int), (false, ()))))) :: ([] : List (Int × (Int × (ByteArray × (Int × (Bool × Unit)))))))))))))))))))))))))))))) p0 p1) < (0 : Int)) then
    some (((0 : Int), ((0 : Int), (ByteArray.empty, ((0 : Int), (false, ()))))), (false, ()))
  else
    bif ((decide ((0 : Int) ≤ (Go.Inc.idxR (((1 : Int), ((1 : Int), ((strL [118]), ((-(1 : Int)), (false, ()))))) :: (((1 : Int), ((2 : Int), ((strL []), ((2 : Int), (true, ()))))) :: (((2 : Int), ((1 : Int), ((strL [118]), ((-(1 : Int)), (false, ()))))) :: (((2 : Int), ((2 : Int), ((strL []), ((2 : Int), (true, ()))))) :: (((2 : Int), ((3 : Int), ((strL [118, 118]), ((6 : Int), (false, ()))))) :: (((3 : Int), ((4 : Int), ((strL [118]), ((-(1 : Int)), (false, ()))))) :: (((3 : Int), ((5 : Int), ((strL [118]), ((-(1 : Int)), (false, ()))))) :: (((3 : Int), ((6 : Int), ((strL [118]), ((6 : Int), (false, ()))))) :: (((4 : Int), ((7 : Int), ((strL [102, 118]), ((-(1 : Int)), (false, ()))))) :: (((4 : Int), ((8 : Int), ((strL [102]), ((2 : Int), (true, ()))))) :: (((4 : Int), ((5 : Int), ((strL [102]), ((-(1 : Int)), (false, ()))))) :: (((5 : Int), ((9 : Int), ((strL [118]), ((-(1 : Int)), (false, ()))))) :: (((5 : Int), ((10 : Int), ((strL []), ((2 : Int), (true, ()))))) :: (((6 : Int), ((9 : Int), ((strL [118]), ((-(1 : Int)), (false, ()))))) :: (((6 : Int), ((10 : Int), ((strL []), ((2 : Int), (true, ()))))) :: (((7 : Int), ((11 : Int), ((strL []), ((6 : Int), (false, ()))))) :: (((7 : Int), ((12 : Int), ((strL []), ((6 : Int), (false, ()))))) :: (((8 : Int), ((4 : Int), ((strL [110]), ((-(1 : Int)), (false, ()))))) :: (((8 : Int), ((2 : Int), ((strL []), ((5 : Int), (false, ()))))) :: (((9 : Int), ((1 : Int), ((strL [111]), ((-(1 : Int)), (false, ()))))) :: (((9 : Int), ((2 : Int), ((strL []), ((4 : Int), (true, ()))))) :: (((10 : Int), ((7 : Int), ((strL [111, 118]), ((-(1 : Int)), (false, ()))))) :: (((10 : Int), ((5 : Int), ((strL [111]), ((-(1 : Int)), (false, ()))))) :: (((10 : Int), ((13 : Int), ((strL [111, 111]), ((99 : Int), (false, ()))))) :: ([] : List (Int × (Int × (ByteArray × (Int × (Bool × Unit)))))))))))))))))))))))))))))) p0 p1))) && (decide ((Go.Inc.idxR (((1 : Int), ((1 : Int), ((strL [118]), ((-(1 : Int)), (false, ()))))) :: (((1 : Int), ((2 : Int), ((strL []), ((2 : Int), (true, ()))))) :: (((2 : Int), ((1 : Int), ((strL [118]), ((-(1 : Int)), (false, ()))))) :: (((2 : Int), ((2 : Int), ((strL []), ((2 : Int), (true, ()))))) :: (((2 : Int), ((3 : Int), ((strL [118, 118]), ((6 : Int), (false, ()))))) :: (((3 : Int), ((4 : Int), ((strL [118]), ((-(1 : Int)), (false, ()))))) :: (((3 : Int), ((5 : Int), ((strL [118]), ((-(1 : Int)), (false, ()))))) :: (((3 : Int), ((6 : Int), ((strL [118]), ((6 : Int), (false, ()))))) :: (((4 : Int), ((7 : Int), ((strL [102, 118]), ((-(1 : Int)), (false, ()))))) :: (((4 : Int), ((8 : Int), ((strL [102]), ((2 : Int), (true, ()))))) :: (((4 : Int), ((5 : Int), ((strL [102]), ((-(1 : Int)), (false, ()))))) :: (((5 : Int), ((9 : Int), ((strL [118]), ((-(1 : Int)), (false, ()))))) :: (((5 : Int), ((10 : Int), ((strL []), ((2 : Int), (true, ()))))) :: (((6 : Int), ((9 : Int), ((strL [118]), ((-(1 : Int)), (false, ()))))) :: (((6 : Int), ((10 : Int), ((strL []), ((2 : Int), (true, ()))))) :: (((7 : Int), ((11 : Int), ((strL []), ((6 : Int), (false, ()))))) :: (((7 : Int), ((12 : Int), ((strL []), ((6 : Int), (false, ()))))) :: (((8 : Int), ((4 : Int), ((strL [110]), ((-(1 : Int)), (false, ()))))) :: (((8 : Int), ((2 : Int), ((strL []), ((5 : Int), (false, ()))))) :: (((9 : Int), ((1 : Int), ((strL [111]), ((-(1 : Int)), (false, ()))))) :: (((9 : Int), ((2 : Int), ((strL []), ((4 : Int), (true, ()))))) :: (((10 : Int), ((7 : Int), ((strL [111, 118]), ((-(1 : Int)), (false, ()))))) :: (((10 : Int), ((5 : Int), ((strL [111]), ((-(1 : Int)), (false, ()))))) :: (((10 : Int), ((13 : Int), ((strL [111, 111]), ((99 : Int), (false, ()))))) :: ([] : List (Int × (Int × (ByteArray × (Int × (Bool × Unit)))))))))))))))))))))))))))))) p0 p1) < (((List.length (((1 : Int), ((1 : Int), ((strL [118]), ((-(1 : Int)), (false, ()))))) :: (((1 : Int), ((2 : Int), ((strL []), ((2 : Int), (true, ()))))) :: (((2 : Int), ((1 : Int), ((strL [118]), ((-(1 : Int)), (false, ()))))) :: (((2 : Int), ((2 : Int), ((strL []), ((2 : Int), (true, ()))))) :: (((2 : Int), ((3 : Int), ((strL [118, 118]), ((6 : Int), (false, ()))))) :: (((3 : Int), ((4 : Int), ((strL [118]), ((-(1 : Int)), (false, ()))))) :: (((3 : Int), ((5 : Int), ((strL [118]), ((-(1 : Int)), (false, ()))))) :: (((3 : Int), ((6 : Int), ((strL [118]), ((6 : Int), (false, ()))))) :: (((4 : Int), ((7 : Int), ((strL [102, 118]), ((-(1 : Int)), (false, ()))))) :: (((4 : Int), ((8 : Int), ((strL [102]), ((2 : Int), (true, ()))))) :: (((4 : Int), ((5 : Int), ((strL [102]), ((-(1 : Int)), (false, ()))))) :: (((5 : Int), ((9 : Int), ((strL [118]), ((-(1 : Int)), (false, ()))))) :: (((5 : Int), ((10 : Int), ((strL []), ((2 : Int), (true, ()))))) :: (((6 : Int), ((9 : Int), ((strL [118]), ((-(1 : Int)), (false, ()))))) :: (((6 : Int), ((10 : Int), ((strL []), ((2 : Int), (true, ()))))) :: (((7 : Int), ((11 : Int), ((strL []), ((6 : Int), (false, ()))))) :: (((7 : Int), ((12 : Int), ((strL []), ((6 : Int), (false, ()))))) :: (((8 : Int), ((4 : Int), ((strL [110]), ((-(1 : Int)), (false, ()))))) :: (((8 : Int), ((2 : Int), ((strL []), ((5 : Int), (false, ()))))) :: (((9 : Int), ((1 : Int), ((strL [111]), ((-(1 : Int)), (false, ()))))) :: (((9 : Int), ((2 : Int), ((strL []), ((4 : Int), (true, ()))))) :: (((10 : Int), ((7 : Int), ((strL [111, 118]), ((-(1 : Int)), (false, ()))))) :: (((10 : Int), ((5 : Int), ((strL [111]), ((-(1 : Int)), (false, ()))))) :: (((10 : Int), ((13 : Int), ((strL [111, 111]), ((99 : Int), (false, ()))))) :: ([] : List (Int × (Int × (ByteArray × (Int × (Bool × Unit))))))))))))))))))))))))))))))) : Nat) : Int)))) then
      some ((List.getD (((1 : Int), ((1 : Int), ((strL [118]), ((-(1 : Int)), (false, ()))))) :: (((1 : Int), ((2 : Int), ((strL []), ((2 : Int), (true, ()))))) :: (((2 : Int), ((1 : Int), ((strL [118]), ((-(1 : Int)), (false, ()))))) :: (((2 : Int), ((2 : Int), ((strL []), ((2 : Int), (true, ()))))) :: (((2 : Int), ((3 : Int), ((strL [118, 118]), ((6 : Int), (false, ()))))) :: (((3 : Int), ((4 : Int), ((strL [118]), ((-(1 : Int)), (false, ()))))) :: (((3 : Int), ((5 : Int), ((strL [118]), ((-(1 : Int)), (false, ()))))) :: (((3 : Int), ((6 : Int), ((strL [118]), ((6 : Int), (false, ()))))) :: (((4 : Int), ((7 : Int), ((strL [102, 118]), ((-(1 : Int)), (false, ()))))) :: (((4 : Int), ((8 : Int), ((strL [102]), ((2 : Int), (true, ()))))) :: (((4 : Int), ((5 : Int), ((strL [102]), ((-(1 : Int)), (false, ()))))) :: (((5 : Int), ((9 : Int), ((strL [118]), ((-(1 : Int)), (false, ()))))) :: (((5 : Int), ((10 : Int), ((strL []), ((2 : Int), (true, ()))))) :: (((6 : Int), ((9 : Int), ((strL [118]), ((-(1 : Int)), (false, ()))))) :: (((6 : Int), ((10 : Int), ((strL []), ((2 : Int), (true, ()))))) :: (((7 : Int), ((11 : Int), ((strL []), ((6 : Int), (false, ()))))) :: (((7 : Int), ((12 : Int), ((strL []), ((6 : Int), (false, ()))))) :: (((8 : Int), ((4 : Int), ((strL [110]), ((-(1 : Int)), (false, ()))))) :: (((8 : Int), ((2 : Int), ((strL []), ((5 : Int), (false, ()))))) :: (((9 : Int), ((1 : Int), ((strL [111]), ((-(1 : Int)), (false, ()))))) :: (((9 : Int), ((2 : Int), ((strL []), ((4 : Int), (true, ()))))) :: (((10 : Int), ((7 : Int), ((strL [111, 118]), ((-(1 : Int)), (false, ()))))) :: (((10 : Int), ((5 : Int), ((strL [111]), ((-(1 : Int)), (false, ()))))) :: (((10 : Int), ((13 : Int), ((strL [111, 111]), ((99 : Int), (false, ()))))) :: ([] : List (Int × (Int × (ByteArray × (Int × (Bool × Unit)))))))))))))))))))))))))))))) (Int.toNat (Go.Inc.idxR (((1 : Int), ((1 : Int), ((strL [118]), ((-(1 : Int)), (false, ()))))) :: (((1 : Int), ((2 : Int), ((strL []), ((2 : Int), (true, ()))))) :: (((2 : Int), ((1 : Int), ((strL [118]), ((-(1 : Int)), (false, ()))))) :: (((2 : Int), ((2 : Int), ((strL []), ((2 : Int), (true, ()))))) :: (((2 : Int), ((3 : Int), ((strL [118, 118]), ((6 : Int), (false, ()))))) :: (((3 : Int), ((4 : Int), ((strL [118]), ((-(1 : Int)), (false, ()))))) :: (((3 : Int), ((5 : Int), ((strL [118]), ((-(1 : Int)), (false, ()))))) :: (((3 : Int), ((6 : Int), ((strL [118]), ((6 : Int), (false, ()))))) :: (((4 : Int), ((7 : Int), ((strL [102, 118]), ((-(1 : Int)), (false, ()))))) :: (((4 : Int), ((8 : Int), ((strL [102]), ((2 : Int), (true, ()))))) :: (((4 : Int), ((5 : Int), ((strL [102]), ((-(1 : Int)), (false, ()))))) :: (((5 : Int), ((9 : Int), ((strL [118]), ((-(1 : Int)), (false, ()))))) :: (((5 : Int), ((10 : Int), ((strL []), ((2 : Int), (true, ()))))) :: (((6 : Int), ((9 : Int), ((strL [118]), ((-(1 : Int)), (false, ()))))) :: (((6 : Int), ((10 : Int), ((strL []), ((2 : Int), (true, ()))))) :: (((7 : Int), ((11 : Int), ((strL []), ((6 : Int), (false, ()))))) :: (((7 : Int), ((12 : Int), ((strL []), ((6 : Int), (false, ()))))) :: (((8 : Int), ((4 : Int), ((strL [110]), ((-(1 : Int)), (false, ()))))) :: (((8 : Int), ((2 : Int), ((strL []), ((5 : Int), (false, ()))))) :: (((9 : Int), ((1 : Int), ((strL [111]), ((-(1 : Int)), (false, ()))))) :: (((9 : Int), ((2 : Int), ((strL []), ((4 : Int), (true, ()))))) :: (((10 : Int), ((7 : Int), ((strL [111, 118]), ((-(1 : Int)), (false, ()))))) :: (((10 : Int), ((5 : Int), ((strL [111]), ((-(1 : Int)), (false, ()))))) :: (((10 : Int), ((13 : Int), ((strL [111, 111]), ((99 : Int), (false, ()))))) :: ([] : List (Int × (Int × (ByteArray × (Int × (Bool × Unit)))))))))))))))))))))))))))))) p0 p1)) ((0 : Int), ((0 : Int), (ByteArray.empty, ((0 : Int), (false, ())))))), (true, ()))
    else
      none
theorem loops27 (N : Nat) : loopsOk C27 (L27 N) Go.Proofs.Tryd.f27 := ⟨trivial, ⟨trivial, ⟨trivial, ⟨⟨trivial, ⟨⟨trivial, trivial⟩, trivial⟩⟩, ⟨trivial, trivial⟩⟩⟩⟩⟩
theorem runs27 (N : Nat) (x : S27.ta.den) : run C27 S27 (L27 N) Go.Proofs.Tryd.f27 x = F27 N x.1 x.2.1 := by kernel_rfl

/-! ### 23: incognito/sign.Fits -/
def W23_5 {β : Type} (N : Nat) (x0 : Bool → Option β) (x1 : Unit → Option β) : Nat → (List (Int × Int × ByteArray × Unit)) → (List Int) → Int → Int → Option β
  | 0, _, _, _, _ => none
  | n + 1, t2, t26, t27, t28 =>
  bif decide (t28 < t27) then
    bif ((decide ((0 : Int) ≤ t28)) && (decide (t28 < (((List.length t26) : Nat) : Int)))) then
      bif ((decide ((0 : Int) ≤ t28)) && (decide (t28 < (((List.length t2) : Nat) : Int)))) then
        bif (Go.Inc.okT (List.getD t26 (Int.toNat t28) (0 : Int)) (List.getD t2 (Int.toNat t28) ((0 : Int), ((0 : Int), (ByteArray.empty, ()))))) then
          bif (!(Go.Inc.takes (List.getD t26 (Int.toNat t28) (0 : Int)) (List.getD t2 (Int.toNat t28) ((0 : Int), ((0 : Int), (ByteArray.empty, ())))))) then
            x0 false
          else
            W23_5 N x0 x1 n t2 t26 t27 (Go.IntKind.wrap .i64 (t28 + (1 : Int)))
        else
          none
      else
        none
    else
      none
  else
    x1 ()
def L23 (N : Nat) : Loops (Bool × Unit) := fun k ρ K => match Nat.beq k 5 with
  | true => (match adH ρ H23_5.hd with
    | some v => W23_5 N (fun t6 => K .ret (encH [(12, .bo)] (t6, ()))) (fun _ => K (.exit 0) (encH [] ())) N v.1 v.2.1 v.2.2.1 v.2.2.2.1
    | none => none)
  | false => none
def F23 (N : Nat) (p0 : Int) (p1 : Int) (p2 : List (Int × Int × ByteArray × Unit)) : Option (Bool × Unit) :=
  bif (!(((Go.Inc.argsGo p0 p1).2).1)) then
    some (false, ())
  else
    bif ((((List.length ((Go.Inc.argsGo p0 p1).1)) : Nat) : Int) != (((List.length p2) : Nat) : Int)) then
      some (false, ())
    else
      W23_5 N
        (fun t6 =>
          some (t6, ()))
        (fun (_ : Unit) =>
          some (true, ()))
        N p2 ((Go.Inc.argsGo p0 p1).1) (((List.length ((Go.Inc.argsGo p0 p1).1)) : Nat) : Int) (0 : Int)
theorem loops23 (N : Nat) : loopsOk C23 (L23 N) Go.Proofs.Tryd.f23 := ⟨trivial, ⟨trivial, ⟨⟨trivial, ⟨⟨trivial, trivial⟩, trivial⟩⟩, ⟨⟨trivial, ⟨loopOk_of H23_5 N (fun K n v => W23_5 N (fun t6 => K .ret (encH [(12, .bo)] (t6, ()))) (fun _ => K (.exit 0) (encH [] ())) n v.1 v.2.1 v.2.2.1 v.2.2.2.1) (by kernel_rfl) (fun K v => by kernel_rfl) (fun K v => by kernel_rfl) (fun K n v => by kernel_rfl), ⟨trivial, ⟨⟨trivial, trivial⟩, ⟨⟨trivial, ⟨trivial, ⟨⟨trivial, trivial⟩, trivial⟩⟩⟩, trivial⟩⟩⟩⟩⟩, ⟨trivial, trivial⟩⟩⟩⟩⟩
theorem runs23 (N : Nat) (x : S23.ta.den) : run C23 S23 (L23 N) Go.Proofs.Tryd.f23 x = F23 N x.1 x.2.1 x.2.2.1 := by kernel_rfl

/-! ### 12: incognito/queue.Step -/
def L12 (_ : Nat) : Loops ((Int × (Int × Int × ByteArray × Unit) × Int × (List (Int × Int × ByteArray × Unit)) × Unit) × (List (Int × Int × ByteArray × Unit)) × Bool × Unit) := fun _ _ _ => none
def F12 (N : Nat) (p0 : Int × (Int × Int × ByteArray × Unit) × Int × (List (Int × Int × ByteArray × Unit)) × Unit) (p1 : Int × Int × ByteArray × Unit) (p2 : Int) (p3 : List (Int × Int × ByteArray × Unit)) : Option ((Int × (Int × Int × ByteArray × Unit) × Int × (List (Int × Int × ByteArray × Unit)) × Unit) × (List (Int × Int × ByteArray × Unit)) × Bool × Unit) :=
  bif (!(((Go.Inc.queueNew p0.1).2).1)) then
    some (((0 : Int), (((0 : Int), ((0 : Int), (ByteArray.empty, ()))), ((0 : Int), (([] : List (Int × (Int × (ByteArray × Unit)))), ())))), (([] : List (Int × (Int × (ByteArray × Unit)))), (false, ())))
  else
    bif (Go.Inc.okT (0 : Int) p1) then
      bif (!(Go.Inc.takes (0 : Int) p1)) then
        some (((0 : Int), (((0 : Int), ((0 : Int), (ByteArray.empty, ()))), ((0 : Int), (([] : List (Int × (Int × (ByteArray × Unit)))), ())))), (([] : List (Int × (Int × (ByteArray × Unit)))), (false, ())))
      else
        bif (Go.Inc.okF p0.1 p2 p3) then
          bif (!(Go.Inc.fits p0.1 p2 p3)) then
            some (((0 : Int), (((0 : Int), ((0 : Int), (ByteArray.empty, ()))), ((0 : Int), (([] : List (Int × (Int × (ByteArray × Unit)))), ())))), (([] : List (Int × (Int × (ByteArray × Unit)))), (false, ())))
          else
            bif (p2 == (9 : Int)) then
              bif ((decide ((0 : Int) ≤ (0 : Int))) && ((decide ((0 : Int) ≤ (((List.length p0.2.2.2.1) : Nat) : Int))) && (decide ((((List.length p0.2.2.2.1) : Nat) : Int) ≤ (((List.length p0.2.2.2.1) : Nat) : Int))))) then
              bif ((((List.length p0.2.2.2.1) : Nat) : Int) == (((List.length p0.2.2.2.1) : Nat) : Int)) then
              bif ((decide ((0 : Int) ≤ (0 : Int))) && (decide ((0 : Int) < (((List.length p3) : Nat) : Int)))) then
              bif decide ((((List.length (Go.Abs.sub p0.2.2.2.1 (0 : Int) (((List.length p0.2.2.2.1) : Nat) : Int))) + (List.length ((List.getD p3 (Int.toNat (0 : Int)) ((0 : Int), ((0 : Int), (ByteArray.empty, ())))) :: ([] : List (Int × (Int × (ByteArray × Unit))))))) * 32) ≤ 140737488351232) then
              some ((p0.1, (p0.2.1, (p0.2.2.1, (((Go.Abs.sub p0.2.2.2.1 (0 : Int) (((List.length p0.2.2.2.1) : Nat) : Int)) ++ ((List.getD p3 (Int.toNat (0 : Int)) ((0 : Int), ((0 : Int), (ByteArray.empty, ())))) :: ([] : List (Int × (Int × (ByteArray × Unit)))))), ())))), (([] : List (Int × (Int × (ByteArray × Unit)))), (true, ())))
            else
              none
            else
              none
            else
              none
            else
              none
            else
              bif (Go.Inc.okPop p0) then
              some ((p0.1, (p0.2.1, (p0.2.2.1, ((Go.Inc.queuePop p0).1, ())))), (((((Go.Inc.queuePop p0).2).1) :: ([] : List (Int × (Int × (ByteArray × Unit))))), (true, ())))
            else
              none
        else
          none
    else
      none
theorem loops12 (N : Nat) : loopsOk C12 (L12 N) Go.Proofs.Tryd.f12 := ⟨trivial, ⟨trivial, ⟨⟨trivial, ⟨⟨trivial, trivial⟩, trivial⟩⟩, ⟨⟨trivial, ⟨⟨trivial, ⟨trivial, trivial⟩⟩, trivial⟩⟩, ⟨trivial, ⟨trivial, ⟨trivial, trivial⟩⟩⟩⟩⟩⟩⟩
theorem runs12 (N : Nat) (x : S12.ta.den) : run C12 S12 (L12 N) Go.Proofs.Tryd.f12 x = F12 N x.1 x.2.1 x.2.2.1 x.2.2.2.1 := by kernel_rfl

/-! ### 10: incognito/incognitoref13.Same -/
def L10 (_ : Nat) : Loops (Bool × Unit) := fun _ _ _ => none
def F10 (N : Nat) (p0 : Int × (Int × Int × ByteArray × Unit) × Int × (List (Int × Int × ByteArray × Unit)) × Unit) (p1 : Int × (Int × Int × ByteArray × Unit) × Int × (List (Int × Int × ByteArray × Unit)) × Unit) : Option (Bool × Unit) :=
  bif (p0.1 == p1.1) then
    bif ((p0.2.1.1 == p1.2.1.1) && ((p0.2.1.2.1 == p1.2.1.2.1) && ((p0.2.1.2.2.1 == p1.2.1.2.2.1) && true))) then
      bif (p0.2.2.1 == p1.2.2.1) then
        bif (Go.Inc.okSame2 p0.2.2.2.1 p1.2.2.2.1) then
          some ((Go.Inc.sameV p0.2.2.2.1 p1.2.2.2.1), ())
        else
          none
      else
        some (false, ())
    else
      some (false, ())
  else
    some (false, ())
theorem loops10 (N : Nat) : loopsOk C10 (L10 N) Go.Proofs.Tryd.f10 := ⟨trivial, ⟨trivial, trivial⟩⟩
theorem runs10 (N : Nat) (x : S10.ta.den) : run C10 S10 (L10 N) Go.Proofs.Tryd.f10 x = F10 N x.1 x.2.1 := by kernel_rfl

/-! ### 11: incognito/incognitoref15.State -/
def L11 (_ : Nat) : Loops ((Int × (Int × Int × ByteArray × Unit) × Int × (List (Int × Int × ByteArray × Unit)) × Unit) × Unit) := fun _ _ _ => none
def F11 (N : Nat) (p0 : Int) (p1 : List ((Int × Int × ByteArray × Unit) × Int × (List (Int × Int × ByteArray × Unit)) × Unit)) : Option ((Int × (Int × Int × ByteArray × Unit) × Int × (List (Int × Int × ByteArray × Unit)) × Unit) × Unit) :=
  bif (Go.Inc.okPast p0 p1) then
    some ((p0, (((0 : Int), ((0 : Int), (ByteArray.empty, ()))), ((0 : Int), ((Go.Inc.queueLeft p0 p1), ())))), ())
  else
    none
theorem loops11 (N : Nat) : loopsOk C11 (L11 N) Go.Proofs.Tryd.f11 := ⟨trivial, ⟨trivial, trivial⟩⟩
theorem runs11 (N : Nat) (x : S11.ta.den) : run C11 S11 (L11 N) Go.Proofs.Tryd.f11 x = F11 N x.1 x.2.1 := by kernel_rfl

/-! ### 26: incognito/incognitoref07.Right -/
def L26 (_ : Nat) : Loops (Bool × Unit) := fun _ _ _ => none
def F26 (N : Nat) (p0 : Int × Int × ByteArray × Unit) : Option (Bool × Unit) :=
  bif (p0.1 == (0 : Int)) then
    bif (p0.2.1 == (0 : Int)) then
      some (((ByteArray.toList p0.2.2.1) == (ByteArray.toList (strL []))), ())
    else
      some (false, ())
  else
    bif (p0.1 == (1 : Int)) then
      some (((ByteArray.toList p0.2.2.1) == (ByteArray.toList (strL []))), ())
    else
      bif (p0.1 == (2 : Int)) then
        bif (p0.2.1 == (0 : Int)) then
          bif (Go.Inc.okS p0.2.2.1) then
            some ((Go.Inc.isWord p0.2.2.1), ())
          else
            none
        else
          some (false, ())
      else
        bif (p0.1 == (3 : Int)) then
          bif (p0.2.1 == (0 : Int)) then
            some (((ByteArray.toList p0.2.2.1) == (ByteArray.toList (strL []))), ())
          else
            bif (p0.2.1 == (1 : Int)) then
              some (((ByteArray.toList p0.2.2.1) == (ByteArray.toList (strL []))), ())
            else
              some (false, ())
        else
          some (false, ())
theorem loops26 (N : Nat) : loopsOk C26 (L26 N) Go.Proofs.Tryd.f26 := ⟨trivial, ⟨⟨trivial, ⟨trivial, ⟨⟨trivial, trivial⟩, ⟨trivial, ⟨⟨trivial, trivial⟩, ⟨trivial, ⟨⟨trivial, trivial⟩, ⟨trivial, ⟨⟨trivial, trivial⟩, trivial⟩⟩⟩⟩⟩⟩⟩⟩⟩, ⟨trivial, trivial⟩⟩⟩
theorem runs26 (N : Nat) (x : S26.ta.den) : run C26 S26 (L26 N) Go.Proofs.Tryd.f26 x = F26 N x.1 := by kernel_rfl

/-! ### 16: incognito/incognitoref07.Name -/
def L16 (_ : Nat) : Loops (Bool × Unit) := fun _ _ _ => none
def F16 (N : Nat) (p0 : Int × Int × ByteArray × Unit) : Option (Bool × Unit) :=
  bif (Go.Inc.okV p0) then
    bif (Go.Inc.right p0) then
      bif (p0.1 == (1 : Int)) then
        some (true, ())
      else
        some ((p0.1 == (2 : Int)), ())
    else
      some (false, ())
  else
    none
theorem loops16 (N : Nat) : loopsOk C16 (L16 N) Go.Proofs.Tryd.f16 := ⟨trivial, ⟨trivial, trivial⟩⟩
theorem runs16 (N : Nat) (x : S16.ta.den) : run C16 S16 (L16 N) Go.Proofs.Tryd.f16 x = F16 N x.1 := by kernel_rfl

/-! ### 39: incognito/incognitoref09.ModelName -/
def L39 (_ : Nat) : Loops (ByteArray × Unit) := fun _ _ _ => none
def F39 (N : Nat) (p0 : Int) : Option (ByteArray × Unit) :=
  bif (p0 == (1 : Int)) then
    some ((strL [114, 101, 103]), ())
  else
    bif (p0 == (2 : Int)) then
      some ((strL [99, 97, 115]), ())
    else
      bif (p0 == (3 : Int)) then
        some ((strL [115, 101, 116]), ())
      else
        bif (p0 == (4 : Int)) then
          some ((strL [109, 97, 112]), ())
        else
          bif (p0 == (5 : Int)) then
            some ((strL [102, 105, 102, 111]), ())
          else
            bif (p0 == (6 : Int)) then
              some ((strL [115, 116, 97, 99, 107]), ())
            else
              bif (p0 == (7 : Int)) then
              some ((strL [108, 111, 99, 107]), ())
            else
              bif (p0 == (8 : Int)) then
              some ((strL [99, 111, 117, 110, 116]), ())
            else
              bif (p0 == (9 : Int)) then
              some ((strL [109, 97, 120]), ())
            else
              bif (p0 == (10 : Int)) then
              some ((strL [111, 109, 97, 112]), ())
            else
              some ((strL []), ())
theorem loops39 (N : Nat) : loopsOk C39 (L39 N) Go.Proofs.Tryd.f39 := ⟨trivial, ⟨⟨trivial, ⟨trivial, ⟨⟨trivial, trivial⟩, ⟨trivial, ⟨⟨trivial, trivial⟩, ⟨trivial, ⟨⟨trivial, trivial⟩, ⟨trivial, ⟨⟨trivial, trivial⟩, ⟨trivial, ⟨⟨trivial, trivial⟩, ⟨trivial, ⟨⟨trivial, trivial⟩, ⟨trivial, ⟨⟨trivial, trivial⟩, ⟨trivial, ⟨⟨trivial, trivial⟩, ⟨trivial, ⟨⟨trivial, trivial⟩, ⟨trivial, ⟨⟨trivial, trivial⟩, trivial⟩⟩⟩⟩⟩⟩⟩⟩⟩⟩⟩⟩⟩⟩⟩⟩⟩⟩⟩⟩⟩, ⟨trivial, trivial⟩⟩⟩
theorem runs39 (N : Nat) (x : S39.ta.den) : run C39 S39 (L39 N) Go.Proofs.Tryd.f39 x = F39 N x.1 := by kernel_rfl

/-! ### 25: incognito/incognitoref09.Fits -/
def W25_5 {β : Type} (N : Nat) (x0 : Bool → Option β) (x1 : Unit → Option β) : Nat → (List (Int × Int × ByteArray × Unit)) → (List Int) → Int → Bool → Bool → Int → Option β
  | 0, _, _, _, _, _, _ => none
  | n + 1, t2, b7a, b7ba, b7bba, b7bbba, t8 =>
  bif decide (t8 < (((List.length t2) : Nat) : Int)) then
    bif ((decide ((0 : Int) ≤ t8)) && (decide (t8 < (((List.length b7a) : Nat) : Int)))) then
      bif ((decide ((0 : Int) ≤ t8)) && (decide (t8 < (((List.length t2) : Nat) : Int)))) then
        bif (Go.Inc.okT (List.getD b7a (Int.toNat t8) (0 : Int)) (List.getD t2 (Int.toNat t8) ((0 : Int), ((0 : Int), (ByteArray.empty, ()))))) then
          bif (!(Go.Inc.takes (List.getD b7a (Int.toNat t8) (0 : Int)) (List.getD t2 (Int.toNat t8) ((0 : Int), ((0 : Int), (ByteArray.empty, ())))))) then
            x0 false
          else
            W25_5 N x0 x1 n t2 b7a b7ba b7bba b7bbba (Go.IntKind.wrap .i64 (t8 + (1 : Int)))
        else
          none
      else
        none
    else
      none
  else
    x1 ()
def L25 (N : Nat) : Loops (Bool × Unit) := fun k ρ K => match Nat.beq k 5 with
  | true => (match adH ρ H25_5.hd with
    | some v => W25_5 N (fun t6 => K .ret (encH [(12, .bo)] (t6, ()))) (fun _ => K (.exit 0) (encH [] ())) N v.1 v.2.2.1.1 v.2.2.1.2.1 v.2.2.1.2.2.1 v.2.2.1.2.2.2.1 v.2.2.2.1
    | none => none)
  | false => none
def F25 (N : Nat) (p0 : Int) (p1 : Int) (p2 : List (Int × Int × ByteArray × Unit)) : Option (Bool × Unit) :=
  bif (!(((((Go.Inc.signRef p0 p1).2).2).2).1)) then
    some (false, ())
  else
    bif ((((List.length p2) : Nat) : Int) != (((List.length ((Go.Inc.signRef p0 p1).1)) : Nat) : Int)) then
      some (false, ())
    else
      W25_5 N
        (fun t6 =>
          some (t6, ()))
        (fun (_ : Unit) =>
          some (true, ()))
        N p2 ((Go.Inc.signRef p0 p1).1) (((Go.Inc.signRef p0 p1).2).1) ((((Go.Inc.signRef p0 p1).2).2).1) (((((Go.Inc.signRef p0 p1).2).2).2).1) (0 : Int)
theorem loops25 (N : Nat) : loopsOk C25 (L25 N) Go.Proofs.Tryd.f25 := ⟨trivial, ⟨trivial, ⟨⟨trivial, ⟨⟨trivial, trivial⟩, trivial⟩⟩, ⟨⟨trivial, ⟨loopOk_of H25_5 N (fun K n v => W25_5 N (fun t6 => K .ret (encH [(12, .bo)] (t6, ()))) (fun _ => K (.exit 0) (encH [] ())) n v.1 v.2.2.1.1 v.2.2.1.2.1 v.2.2.1.2.2.1 v.2.2.1.2.2.2.1 v.2.2.2.1) (by kernel_rfl) (fun K v => by kernel_rfl) (fun K v => by kernel_rfl) (fun K n v => by kernel_rfl), ⟨⟨trivial, ⟨trivial, trivial⟩⟩, ⟨⟨trivial, ⟨⟨trivial, trivial⟩, trivial⟩⟩, trivial⟩⟩⟩⟩, ⟨trivial, trivial⟩⟩⟩⟩⟩
theorem runs25 (N : Nat) (x : S25.ta.den) : run C25 S25 (L25 N) Go.Proofs.Tryd.f25 x = F25 N x.1 x.2.1 x.2.2.1 := by kernel_rfl

/-! ### 3: incognito/incognitolaw15.QueuePlays -/
def W3_12 {β : Type} (N : Nat) (x0 : Bool → Option β) (x1 : Unit → Option β) : Nat → Int → Int → Int → Int → ByteArray → Int → (List (Int × Int × ByteArray × Unit)) → (List ((Int × Int × ByteArray × Unit) × Int × (List (Int × Int × ByteArray × Unit)) × Unit)) → (List ((Int × Int × ByteArray × Unit) × Int × (List (Int × Int × ByteArray × Unit)) × Unit)) → Int → Int → Option β
  | 0, _, _, _, _, _, _, _, _, _, _, _ => none
  | n + 1, t0, b5a, b5ba, b5bba, b5bbba, b5bbbba, b5bbbbba, t7, t42, t43, t44 =>
  bif decide (t44 < t43) then
    bif ((decide ((0 : Int) ≤ t44)) && (decide (t44 < (((List.length t42) : Nat) : Int)))) then
      bif (Go.Inc.okQStep (b5a, ((b5ba, (b5bba, (b5bbba, ()))), (b5bbbba, (b5bbbbba, ())))) ((List.getD t42 (Int.toNat t44) (((0 : Int), ((0 : Int), (ByteArray.empty, ()))), ((0 : Int), ([], ())))).1) (((List.getD t42 (Int.toNat t44) (((0 : Int), ((0 : Int), (ByteArray.empty, ()))), ((0 : Int), ([], ())))).2).1) ((((List.getD t42 (Int.toNat t44) (((0 : Int), ((0 : Int), (ByteArray.empty, ()))), ((0 : Int), ([], ())))).2).2).1)) then
        bif (Go.Inc.okMay t0 (List.getD t42 (Int.toNat t44) (((0 : Int), ((0 : Int), (ByteArray.empty, ()))), ((0 : Int), ([], ()))))) then
          bif (!(((((Go.Inc.queueStep (b5a, ((b5ba, (b5bba, (b5bbba, ()))), (b5bbbba, (b5bbbbba, ())))) ((List.getD t42 (Int.toNat t44) (((0 : Int), ((0 : Int), (ByteArray.empty, ()))), ((0 : Int), ([], ())))).1) (((List.getD t42 (Int.toNat t44) (((0 : Int), ((0 : Int), (ByteArray.empty, ()))), ((0 : Int), ([], ())))).2).1) ((((List.getD t42 (Int.toNat t44) (((0 : Int), ((0 : Int), (ByteArray.empty, ()))), ((0 : Int), ([], ())))).2).2).1)).2).2).1) == (Go.Inc.mayD t0 (List.getD t42 (Int.toNat t44) (((0 : Int), ((0 : Int), (ByteArray.empty, ()))), ((0 : Int), ([], ()))))))) then
            x0 false
          else
            bif (!((((Go.Inc.queueStep (b5a, ((b5ba, (b5bba, (b5bbba, ()))), (b5bbbba, (b5bbbbba, ())))) ((List.getD t42 (Int.toNat t44) (((0 : Int), ((0 : Int), (ByteArray.empty, ()))), ((0 : Int), ([], ())))).1) (((List.getD t42 (Int.toNat t44) (((0 : Int), ((0 : Int), (ByteArray.empty, ()))), ((0 : Int), ([], ())))).2).1) ((((List.getD t42 (Int.toNat t44) (((0 : Int), ((0 : Int), (ByteArray.empty, ()))), ((0 : Int), ([], ())))).2).2).1)).2).2).1)) then
              bif decide ((((List.length (((Go.Inc.queueStep (b5a, ((b5ba, (b5bba, (b5bbba, ()))), (b5bbbba, (b5bbbbba, ())))) ((List.getD t42 (Int.toNat t44) (((0 : Int), ((0 : Int), (ByteArray.empty, ()))), ((0 : Int), ([], ())))).1) (((List.getD t42 (Int.toNat t44) (((0 : Int), ((0 : Int), (ByteArray.empty, ()))), ((0 : Int), ([], ())))).2).1) ((((List.getD t42 (Int.toNat t44) (((0 : Int), ((0 : Int), (ByteArray.empty, ()))), ((0 : Int), ([], ())))).2).2).1)).2).1)) : Nat) : Int) > (0 : Int)) then
              x0 false
            else
              bif (Go.Inc.okSS ((Go.Inc.queueStep (b5a, ((b5ba, (b5bba, (b5bbba, ()))), (b5bbbba, (b5bbbbba, ())))) ((List.getD t42 (Int.toNat t44) (((0 : Int), ((0 : Int), (ByteArray.empty, ()))), ((0 : Int), ([], ())))).1) (((List.getD t42 (Int.toNat t44) (((0 : Int), ((0 : Int), (ByteArray.empty, ()))), ((0 : Int), ([], ())))).2).1) ((((List.getD t42 (Int.toNat t44) (((0 : Int), ((0 : Int), (ByteArray.empty, ()))), ((0 : Int), ([], ())))).2).2).1)).1) ((0 : Int), (((0 : Int), ((0 : Int), (ByteArray.empty, ()))), ((0 : Int), (([] : List (Int × (Int × (ByteArray × Unit)))), ()))))) then
              bif (!(Go.Inc.sameS ((Go.Inc.queueStep (b5a, ((b5ba, (b5bba, (b5bbba, ()))), (b5bbbba, (b5bbbbba, ())))) ((List.getD t42 (Int.toNat t44) (((0 : Int), ((0 : Int), (ByteArray.empty, ()))), ((0 : Int), ([], ())))).1) (((List.getD t42 (Int.toNat t44) (((0 : Int), ((0 : Int), (ByteArray.empty, ()))), ((0 : Int), ([], ())))).2).1) ((((List.getD t42 (Int.toNat t44) (((0 : Int), ((0 : Int), (ByteArray.empty, ()))), ((0 : Int), ([], ())))).2).2).1)).1) ((0 : Int), (((0 : Int), ((0 : Int), (ByteArray.empty, ()))), ((0 : Int), (([] : List (Int × (Int × (ByteArray × Unit)))), ())))))) then
              x0 false
            else
              W3_12 N x0 x1 n t0 b5a b5ba b5bba b5bbba b5bbbba b5bbbbba t7 t42 t43 (Go.IntKind.wrap .i64 (t44 + (1 : Int)))
            else
              none
            else
              bif (Go.Inc.okPast1 t0 t7 (List.getD t42 (Int.toNat t44) (((0 : Int), ((0 : Int), (ByteArray.empty, ()))), ((0 : Int), ([], ()))))) then
              bif (Go.Inc.okSame2 (((Go.Inc.queueStep (b5a, ((b5ba, (b5bba, (b5bbba, ()))), (b5bbbba, (b5bbbbba, ())))) ((List.getD t42 (Int.toNat t44) (((0 : Int), ((0 : Int), (ByteArray.empty, ()))), ((0 : Int), ([], ())))).1) (((List.getD t42 (Int.toNat t44) (((0 : Int), ((0 : Int), (ByteArray.empty, ()))), ((0 : Int), ([], ())))).2).1) ((((List.getD t42 (Int.toNat t44) (((0 : Int), ((0 : Int), (ByteArray.empty, ()))), ((0 : Int), ([], ())))).2).2).1)).2).1) (Go.Inc.queueOut t0 t7 (List.getD t42 (Int.toNat t44) (((0 : Int), ((0 : Int), (ByteArray.empty, ()))), ((0 : Int), ([], ())))))) then
              bif (!(Go.Inc.sameV (((Go.Inc.queueStep (b5a, ((b5ba, (b5bba, (b5bbba, ()))), (b5bbbba, (b5bbbbba, ())))) ((List.getD t42 (Int.toNat t44) (((0 : Int), ((0 : Int), (ByteArray.empty, ()))), ((0 : Int), ([], ())))).1) (((List.getD t42 (Int.toNat t44) (((0 : Int), ((0 : Int), (ByteArray.empty, ()))), ((0 : Int), ([], ())))).2).1) ((((List.getD t42 (Int.toNat t44) (((0 : Int), ((0 : Int), (ByteArray.empty, ()))), ((0 : Int), ([], ())))).2).2).1)).2).1) (Go.Inc.queueOut t0 t7 (List.getD t42 (Int.toNat t44) (((0 : Int), ((0 : Int), (ByteArray.empty, ()))), ((0 : Int), ([], ()))))))) then
              x0 false
            else
              bif decide ((((List.length t7) + (List.length ((List.getD t42 (Int.toNat t44) (((0 : Int), ((0 : Int), (ByteArray.empty, ()))), ((0 : Int), ([], ())))) :: ([] : List ((Int × (Int × (ByteArray × Unit))) × (Int × ((List (Int × (Int × (ByteArray × Unit)))) × Unit))))))) * 64) ≤ 140737488351232) then
              bif (Go.Inc.okPast t0 (t7 ++ ((List.getD t42 (Int.toNat t44) (((0 : Int), ((0 : Int), (ByteArray.empty, ()))), ((0 : Int), ([], ())))) :: ([] : List ((Int × (Int × (ByteArray × Unit))) × (Int × ((List (Int × (Int × (ByteArray × Unit)))) × Unit))))))) then
              bif (Go.Inc.okSS ((Go.Inc.queueStep (b5a, ((b5ba, (b5bba, (b5bbba, ()))), (b5bbbba, (b5bbbbba, ())))) ((List.getD t42 (Int.toNat t44) (((0 : Int), ((0 : Int), (ByteArray.empty, ()))), ((0 : Int), ([], ())))).1) (((List.getD t42 (Int.toNat t44) (((0 : Int), ((0 : Int), (ByteArray.empty, ()))), ((0 : Int), ([], ())))).2).1) ((((List.getD t42 (Int.toNat t44) (((0 : Int), ((0 : Int), (ByteArray.empty, ()))), ((0 : Int), ([], ())))).2).2).1)).1) (Go.Inc.queueState t0 (t7 ++ ((List.getD t42 (Int.toNat t44) (((0 : Int), ((0 : Int), (ByteArray.empty, ()))), ((0 : Int), ([], ())))) :: ([] : List ((Int × (Int × (ByteArray × Unit))) × (Int × ((List (Int × (Int × (ByteArray × Unit)))) × Unit)))))))) then
              bif (!(Go.Inc.sameS ((Go.Inc.queueStep (b5a, ((b5ba, (b5bba, (b5bbba, ()))), (b5bbbba, (b5bbbbba, ())))) ((List.getD t42 (Int.toNat t44) (((0 : Int), ((0 : Int), (ByteArray.empty, ()))), ((0 : Int), ([], ())))).1) (((List.getD t42 (Int.toNat t44) (((0 : Int), ((0 : Int), (ByteArray.empty, ()))), ((0 : Int), ([], ())))).2).1) ((((List.getD t42 (Int.toNat t44) (((0 : Int), ((0 : Int), (ByteArray.empty, ()))), ((0 : Int), ([], ())))).2).2).1)).1) (Go.Inc.queueState t0 (t7 ++ ((List.getD t42 (Int.toNat t44) (((0 : Int), ((0 : Int), (ByteArray.empty, ()))), ((0 : Int), ([], ())))) :: ([] : List ((Int × (Int × (ByteArray × Unit))) × (Int × ((List (Int × (Int × (ByteArray × Unit)))) × Unit))))))))) then
              x0 false
            else
              W3_12 N x0 x1 n t0 (((Go.Inc.queueStep (b5a, ((b5ba, (b5bba, (b5bbba, ()))), (b5bbbba, (b5bbbbba, ())))) ((List.getD t42 (Int.toNat t44) (((0 : Int), ((0 : Int), (ByteArray.empty, ()))), ((0 : Int), ([], ())))).1) (((List.getD t42 (Int.toNat t44) (((0 : Int), ((0 : Int), (ByteArray.empty, ()))), ((0 : Int), ([], ())))).2).1) ((((List.getD t42 (Int.toNat t44) (((0 : Int), ((0 : Int), (ByteArray.empty, ()))), ((0 : Int), ([], ())))).2).2).1)).1).1) (((((Go.Inc.queueStep (b5a, ((b5ba, (b5bba, (b5bbba, ()))), (b5bbbba, (b5bbbbba, ())))) ((List.getD t42 (Int.toNat t44) (((0 : Int), ((0 : Int), (ByteArray.empty, ()))), ((0 : Int), ([], ())))).1) (((List.getD t42 (Int.toNat t44) (((0 : Int), ((0 : Int), (ByteArray.empty, ()))), ((0 : Int), ([], ())))).2).1) ((((List.getD t42 (Int.toNat t44) (((0 : Int), ((0 : Int), (ByteArray.empty, ()))), ((0 : Int), ([], ())))).2).2).1)).1).2).1).1) ((((((Go.Inc.queueStep (b5a, ((b5ba, (b5bba, (b5bbba, ()))), (b5bbbba, (b5bbbbba, ())))) ((List.getD t42 (Int.toNat t44) (((0 : Int), ((0 : Int), (ByteArray.empty, ()))), ((0 : Int), ([], ())))).1) (((List.getD t42 (Int.toNat t44) (((0 : Int), ((0 : Int), (ByteArray.empty, ()))), ((0 : Int), ([], ())))).2).1) ((((List.getD t42 (Int.toNat t44) (((0 : Int), ((0 : Int), (ByteArray.empty, ()))), ((0 : Int), ([], ())))).2).2).1)).1).2).1).2).1) (((((((Go.Inc.queueStep (b5a, ((b5ba, (b5bba, (b5bbba, ()))), (b5bbbba, (b5bbbbba, ())))) ((List.getD t42 (Int.toNat t44) (((0 : Int), ((0 : Int), (ByteArray.empty, ()))), ((0 : Int), ([], ())))).1) (((List.getD t42 (Int.toNat t44) (((0 : Int), ((0 : Int), (ByteArray.empty, ()))), ((0 : Int), ([], ())))).2).1) ((((List.getD t42 (Int.toNat t44) (((0 : Int), ((0 : Int), (ByteArray.empty, ()))), ((0 : Int), ([], ())))).2).2).1)).1).2).1).2).2).1) (((((Go.Inc.queueStep (b5a, ((b5ba, (b5bba, (b5bbba, ()))), (b5bbbba, (b5bbbbba, ())))) ((List.getD t42 (Int.toNat t44) (((0 : Int), ((0 : Int), (ByteArray.empty, ()))), ((0 : Int), ([], ())))).1) (((List.getD t42 (Int.toNat t44) (((0 : Int), ((0 : Int), (ByteArray.empty, ()))), ((0 : Int), ([], ())))).2).1) ((((List.getD t42 (Int.toNat t44) (((0 : Int), ((0 : Int), (ByteArray.empty, ()))), ((0 : Int), ([], ())))).2).2).1)).1).2).2).1) ((((((Go.Inc.queueStep (b5a, ((b5ba, (b5bba, (b5bbba, ()))), (b5bbbba, (b5bbbbba, ())))) ((List.getD t42 (Int.toNat t44) (((0 : Int), ((0 : Int), (ByteArray.empty, ()))), ((0 : Int), ([], ())))).1) (((List.getD t42 (Int.toNat t44) (((0 : Int), ((0 : Int), (ByteArray.empty, ()))), ((0 : Int), ([], ())))).2).1) ((((List.getD t42 (Int.toNat t44) (((0 : Int), ((0 : Int), (ByteArray.empty, ()))), ((0 : Int), ([], ())))).2).2).1)).1).2).2).2).1) (t7 ++ ((List.getD t42 (Int.toNat t44) (((0 : Int), ((0 : Int), (ByteArray.empty, ()))), ((0 : Int), ([], ())))) :: ([] : List ((Int × (Int × (ByteArray × Unit))) × (Int × ((List (Int × (Int × (ByteArray × Unit)))) × Unit)))))) t42 t43 (Go.IntKind.wrap .i64 (t44 + (1 : Int)))
            else
              none
            else
              none
            else
              none
            else
              none
            else
              none
        else
          none
      else
        none
    else
      none
  else
    x1 ()
def L3 (N : Nat) : Loops (Bool × Unit) := fun k ρ K => match Nat.beq k 12 with
  | true => (match adH ρ H3_12.hd with
    | some v => W3_12 N (fun t4 => K .ret (encH [(8, .bo)] (t4, ()))) (fun _ => K (.exit 0) (encH [] ())) N v.1 v.2.2.1.1 v.2.2.1.2.1 v.2.2.1.2.2.1 v.2.2.1.2.2.2.1 v.2.2.1.2.2.2.2.1 v.2.2.1.2.2.2.2.2.1 v.2.2.2.1 v.2.2.2.2.1 v.2.2.2.2.2.1 v.2.2.2.2.2.2.1
    | none => none)
  | false => none
def F3 (N : Nat) (p0 : Int) (p1 : List ((Int × Int × ByteArray × Unit) × Int × (List (Int × Int × ByteArray × Unit)) × Unit)) : Option (Bool × Unit) :=
  bif (!((((Go.Inc.queueNew p0).2).1) == (Go.Inc.qOwn p0))) then
    some (false, ())
  else
    bif (!(((Go.Inc.queueNew p0).2).1)) then
      bif (Go.Inc.okSS ((Go.Inc.queueNew p0).1) ((0 : Int), (((0 : Int), ((0 : Int), (ByteArray.empty, ()))), ((0 : Int), (([] : List (Int × (Int × (ByteArray × Unit)))), ()))))) then
        bif (Go.Inc.sameS ((Go.Inc.queueNew p0).1) ((0 : Int), (((0 : Int), ((0 : Int), (ByteArray.empty, ()))), ((0 : Int), (([] : List (Int × (Int × (ByteArray × Unit)))), ()))))) then
          some (true, ())
        else
          some ((Go.Inc.queueNew p0).2)
      else
        none
    else
      bif (Go.Inc.okDs p1) then
        bif (Go.Inc.greatD p1) then
          bif (Go.Inc.okSS ((Go.Inc.queueNew p0).1) ((0 : Int), (((0 : Int), ((0 : Int), (ByteArray.empty, ()))), ((0 : Int), (([] : List (Int × (Int × (ByteArray × Unit)))), ()))))) then
            bif (Go.Inc.sameS ((Go.Inc.queueNew p0).1) ((0 : Int), (((0 : Int), ((0 : Int), (ByteArray.empty, ()))), ((0 : Int), (([] : List (Int × (Int × (ByteArray × Unit)))), ()))))) then
              some (true, ())
            else
              some ((Go.Inc.queueNew p0).2)
          else
            none
        else
          bif (Go.Inc.okPast p0 ([] : List ((Int × (Int × (ByteArray × Unit))) × (Int × ((List (Int × (Int × (ByteArray × Unit)))) × Unit))))) then
            bif (Go.Inc.okSS ((Go.Inc.queueNew p0).1) (Go.Inc.queueState p0 ([] : List ((Int × (Int × (ByteArray × Unit))) × (Int × ((List (Int × (Int × (ByteArray × Unit)))) × Unit)))))) then
              bif (!(Go.Inc.sameS ((Go.Inc.queueNew p0).1) (Go.Inc.queueState p0 ([] : List ((Int × (Int × (ByteArray × Unit))) × (Int × ((List (Int × (Int × (ByteArray × Unit)))) × Unit))))))) then
              some (false, ())
            else
              W3_12 N
              (fun t4 =>
                some (t4, ()))
              (fun (_ : Unit) =>
                some (true, ()))
              N p0 (((Go.Inc.queueNew p0).1).1) (((((Go.Inc.queueNew p0).1).2).1).1) ((((((Go.Inc.queueNew p0).1).2).1).2).1) (((((((Go.Inc.queueNew p0).1).2).1).2).2).1) (((((Go.Inc.queueNew p0).1).2).2).1) ((((((Go.Inc.queueNew p0).1).2).2).2).1) ([] : List ((Int × (Int × (ByteArray × Unit))) × (Int × ((List (Int × (Int × (ByteArray × Unit)))) × Unit)))) p1 (((List.length p1) : Nat) : Int) (0 : Int)
            else
              none
          else
            none
      else
        none
theorem loops3 (N : Nat) : loopsOk C3 (L3 N) Go.Proofs.Tryd.f3 := ⟨trivial, ⟨⟨trivial, ⟨⟨trivial, trivial⟩, trivial⟩⟩, ⟨trivial, ⟨⟨trivial, ⟨⟨trivial, trivial⟩, trivial⟩⟩, ⟨⟨trivial, ⟨⟨trivial, trivial⟩, trivial⟩⟩, ⟨trivial, ⟨⟨trivial, ⟨⟨trivial, trivial⟩, trivial⟩⟩, ⟨⟨trivial, ⟨loopOk_of H3_12 N (fun K n v => W3_12 N (fun t4 => K .ret (encH [(8, .bo)] (t4, ()))) (fun _ => K (.exit 0) (encH [] ())) n v.1 v.2.2.1.1 v.2.2.1.2.1 v.2.2.1.2.2.1 v.2.2.1.2.2.2.1 v.2.2.1.2.2.2.2.1 v.2.2.1.2.2.2.2.2.1 v.2.2.2.1 v.2.2.2.2.1 v.2.2.2.2.2.1 v.2.2.2.2.2.2.1) (by kernel_rfl) (fun K v => by kernel_rfl) (fun K v => by kernel_rfl) (fun K n v => by kernel_rfl), ⟨trivial, ⟨⟨trivial, trivial⟩, ⟨⟨trivial, ⟨trivial, ⟨⟨trivial, ⟨⟨trivial, trivial⟩, trivial⟩⟩, ⟨⟨trivial, ⟨⟨⟨trivial, ⟨⟨trivial, trivial⟩, trivial⟩⟩, trivial⟩, trivial⟩⟩, ⟨⟨trivial, ⟨⟨trivial, trivial⟩, trivial⟩⟩, ⟨trivial, ⟨trivial, ⟨trivial, ⟨⟨trivial, trivial⟩, trivial⟩⟩⟩⟩⟩⟩⟩⟩⟩, trivial⟩⟩⟩⟩⟩, ⟨trivial, trivial⟩⟩⟩⟩⟩⟩⟩⟩⟩
theorem runs3 (N : Nat) (x : S3.ta.den) : run C3 S3 (L3 N) Go.Proofs.Tryd.f3 x = F3 N x.1 x.2.1 := by kernel_rfl

/-! ### 28x: incognito/sign.paired -/
def W28x_5 {β : Type} (N : Nat) (x0 : (List Int) → Bool → (List (Int × Int × ByteArray × Unit)) → Option β) (x1 : (List Int) → (List (Int × Int × ByteArray × Unit)) → Option β) : Nat → (List Int) → Nat → Int → Int → (List (Int × Int × ByteArray × Unit)) → Option β
  | 0, _, _, _, _, _ => none
  | n + 1, t4, t12, t13, t14, b1000 =>
  bif decide (t14 < t13) then
    bif ((decide ((0 : Int) ≤ t14)) && (decide (t14 < ((t12 : Nat) : Int)))) then
      bif decide ((Int.toNat t14) < (List.length b1000)) then
        bif ((Int.tmod t14 (2 : Int)) == (1 : Int)) then
          bif (Go.Inc.okT (2 : Int) (List.getD b1000 (Int.toNat t14) ((0 : Int), ((0 : Int), (ByteArray.empty, ()))))) then
            bif (!(Go.Inc.takes (2 : Int) (List.getD b1000 (Int.toNat t14) ((0 : Int), ((0 : Int), (ByteArray.empty, ())))))) then
              x0 ([] : List Int) false b1000
            else
              bif decide ((((List.length t4) + (List.length ((2 : Int) :: ([] : List Int)))) * 8) ≤ 140737488351232) then
              W28x_5 N x0 x1 n (t4 ++ ((2 : Int) :: ([] : List Int))) t12 t13 (Go.IntKind.wrap .i64 (t14 + (1 : Int))) b1000
            else
              none
          else
            none
        else
          bif (Go.Inc.okT (4 : Int) (List.getD b1000 (Int.toNat t14) ((0 : Int), ((0 : Int), (ByteArray.empty, ()))))) then
            bif (!(Go.Inc.takes (4 : Int) (List.getD b1000 (Int.toNat t14) ((0 : Int), ((0 : Int), (ByteArray.empty, ())))))) then
              x0 ([] : List Int) false b1000
            else
              bif decide ((((List.length t4) + (List.length ((4 : Int) :: ([] : List Int)))) * 8) ≤ 140737488351232) then
              W28x_5 N x0 x1 n (t4 ++ ((4 : Int) :: ([] : List Int))) t12 t13 (Go.IntKind.wrap .i64 (t14 + (1 : Int))) b1000
            else
              none
          else
            none
      else
        none
    else
      none
  else
    x1 t4 b1000
def L28x (N : Nat) : Loops (HS.den X28x.hout) := fun k ρ K => match Nat.beq k 5 with
  | true => (match adH ρ H28x_5.hd with
    | some v => W28x_5 N (fun t2 t3 b1000 => K .ret (encH [(4, (.sl (.int .i64) .full)), (6, .bo), (2001, (.ar (.pr (.int .i64) (.pr (.int .i64) (.pr .str .un)))))] (t2, (t3, (b1000, ()))))) (fun t4 b1000 => K (.exit 0) (encH [(8, (.sl (.int .i64) (.own 29))), (2001, (.ar (.pr (.int .i64) (.pr (.int .i64) (.pr .str .un)))))] (t4, (b1000, ())))) N v.1 v.2.1 v.2.2.1 v.2.2.2.1 v.2.2.2.2.1
    | none => none)
  | false => none
def F28x (N : Nat) (t0 : Nat) (b1000 : List (Int × Int × ByteArray × Unit)) : Option (HS.den X28x.hout) :=
  bif ((Int.tmod ((t0 : Nat) : Int) (2 : Int)) != (0 : Int)) then
    some (([] : List Int), (false, (b1000, ())))
  else
    W28x_5 N
      (fun t2 t3 b1000 =>
        some (t2, (t3, (b1000, ()))))
      (fun t4 b1000 =>
        some (t4, (true, (b1000, ()))))
      N ([] : List Int) t0 ((t0 : Nat) : Int) (0 : Int) b1000
theorem loops28x (N : Nat) : loopsOk C28x (L28x N) Go.Proofs.Tryd.f28 := ⟨trivial, ⟨⟨trivial, ⟨⟨trivial, trivial⟩, trivial⟩⟩, ⟨trivial, ⟨⟨trivial, ⟨loopOk_of H28x_5 N (fun K n v => W28x_5 N (fun t2 t3 b1000 => K .ret (encH [(4, (.sl (.int .i64) .full)), (6, .bo), (2001, (.ar (.pr (.int .i64) (.pr (.int .i64) (.pr .str .un)))))] (t2, (t3, (b1000, ()))))) (fun t4 b1000 => K (.exit 0) (encH [(8, (.sl (.int .i64) (.own 29))), (2001, (.ar (.pr (.int .i64) (.pr (.int .i64) (.pr .str .un)))))] (t4, (b1000, ())))) n v.1 v.2.1 v.2.2.1 v.2.2.2.1 v.2.2.2.2.1) (by kernel_rfl) (fun K v => by kernel_rfl) (fun K v => by kernel_rfl) (fun K n v => by kernel_rfl), ⟨trivial, ⟨⟨trivial, trivial⟩, ⟨⟨trivial, ⟨trivial, ⟨⟨trivial, ⟨trivial, trivial⟩⟩, ⟨⟨trivial, ⟨⟨trivial, trivial⟩, trivial⟩⟩, trivial⟩⟩⟩⟩, trivial⟩⟩⟩⟩⟩, ⟨trivial, trivial⟩⟩⟩⟩⟩
theorem runs28x (N : Nat) (x : HS.den X28x.hin) : runX C28x X28x (L28x N) Go.Proofs.Tryd.f28 x = F28x N x.1 x.2.1 := by kernel_rfl


end Go.L15
