/- The walks of package pair and its statements. Printed by a program of this session. -/
import Derived.Test.YtkkkjcpfahhhpaaDoorW0
set_option linter.unusedVariables false
set_option maxRecDepth 100000
namespace Go.K12
open Go Go.Abs Go.Inc

/-! ### 44: incognito/value.Right -/
def L44 (_ : Nat) : Loops (Bool × Unit) := fun _ _ _ => none
def F44 (N : Nat) (p0 : Int × Int × ByteArray × Unit) : Option (Bool × Unit) :=
  bif (p0.1 == (0 : Int)) then
    some (((p0.1 == (0 : Int)) && ((p0.2.1 == (0 : Int)) && ((p0.2.2.1 == ByteArray.empty) && true))), ())
  else
    bif (p0.1 == (1 : Int)) then
      some (((ByteArray.toList p0.2.2.1) == (ByteArray.toList (strL []))), ())
    else
      bif (p0.1 == (2 : Int)) then
        bif (p0.2.1 == (0 : Int)) then
          bif (Go.Inc.okS p0.2.2.1) then
            some ((Go.Inc.isWord p0.2.2.1), ())
          else
            none
        else
          some (false, ())
      else
        bif ((p0.1 == (3 : Int)) && ((p0.2.1 == (1 : Int)) && ((p0.2.2.1 == ByteArray.empty) && true))) then
          some (true, ())
        else
          some (((p0.1 == (3 : Int)) && ((p0.2.1 == (0 : Int)) && ((p0.2.2.1 == ByteArray.empty) && true))), ())
theorem loops44 (N : Nat) : loopsOk C44 (L44 N) Go.Proofs.Tryd.f44 := ⟨trivial, ⟨⟨trivial, ⟨trivial, ⟨⟨trivial, trivial⟩, ⟨trivial, ⟨⟨trivial, trivial⟩, ⟨trivial, ⟨⟨trivial, trivial⟩, trivial⟩⟩⟩⟩⟩⟩⟩, ⟨trivial, trivial⟩⟩⟩
theorem runs44 (N : Nat) (x : S44.ta.den) : run C44 S44 (L44 N) Go.Proofs.Tryd.f44 x = F44 N x.1 := by kernel_rfl

/-! ### 41: incognito/event.noted -/
def L41 (_ : Nat) : Loops (Bool × Unit) := fun _ _ _ => none
def F41 (N : Nat) (p0 : Int × (Int × Int × ByteArray × Unit) × Int × Int × (Int × Int × ByteArray × Unit) × Int × (List (Int × Int × ByteArray × Unit)) × (List (Int × Int × ByteArray × Unit)) × Bool × ByteArray × Unit) : Option (Bool × Unit) :=
  bif decide ((((ByteArray.size p0.2.2.2.2.2.2.2.2.2.1) : Nat) : Int) ≤ (100 : Int)) then
    bif (!(Go.Inc.containsOne p0.2.2.2.2.2.2.2.2.2.1 (strL [10]))) then
      bif p0.2.2.2.2.2.2.2.2.1 then
        some (true, ())
      else
        some (((ByteArray.toList p0.2.2.2.2.2.2.2.2.2.1) == (ByteArray.toList (strL []))), ())
    else
      some (false, ())
  else
    some (false, ())
theorem loops41 (N : Nat) : loopsOk C41 (L41 N) Go.Proofs.Tryd.f41 := ⟨trivial, ⟨trivial, trivial⟩⟩
theorem runs41 (N : Nat) (x : S41.ta.den) : run C41 S41 (L41 N) Go.Proofs.Tryd.f41 x = F41 N x.1 := by kernel_rfl

/-! ### 54: incognito/sign.find$1 -/
def L54 (_ : Nat) : Loops (HS.den X54.hout) := fun _ _ _ => none
def F54 (N : Nat) (t0a : Int) (t0ba : Int) (t0bba : ByteArray) (t0bbba : Int) (t0bbbba : Bool) (b1000a : Int) (b1001a : Int) : Option (HS.den X54.hout) :=
  bif (t0a == b1000a) then
    some ((t0ba == b1001a), ((b1000a, ()), ((b1001a, ()), ())))
  else
    some (false, ((b1000a, ()), ((b1001a, ()), ())))
theorem loops54 (N : Nat) : loopsOk C54 (L54 N) Go.Proofs.Tryd.f54 := ⟨trivial, ⟨trivial, trivial⟩⟩
theorem runs54 (N : Nat) (x : HS.den X54.hin) : runX C54 X54 (L54 N) Go.Proofs.Tryd.f54 x = F54 N x.1.1 x.1.2.1 x.1.2.2.1 x.1.2.2.2.1 x.1.2.2.2.2.1 x.2.2.2.1.1 x.2.2.2.2.1.1 := by kernel_rfl

/-! ### 53: slices.IndexFunc[[]incognito/sign.row,incognito/sign.row] -/
def W53_2 {β : Type} (N : Nat) (x0 : Int → Int → Int → Option β) (x1 : Int → Int → Option β) : Nat → (List (Int × Int × ByteArray × Int × Bool × Unit)) → Int → Int → Int → Int → Option β
  | 0, _, _, _, _, _ => none
  | n + 1, t0, t7, t8, b1000a, b1001a =>
  bif decide (t8 < t7) then
    bif ((decide ((0 : Int) ≤ t8)) && (decide (t8 < (((List.length t0) : Nat) : Int)))) then
      bif (Go.Inc.hitA ((List.getD t0 (Int.toNat t8) ((0 : Int), ((0 : Int), (ByteArray.empty, ((0 : Int), (false, ())))))).1) (((List.getD t0 (Int.toNat t8) ((0 : Int), ((0 : Int), (ByteArray.empty, ((0 : Int), (false, ())))))).2).1) ((((List.getD t0 (Int.toNat t8) ((0 : Int), ((0 : Int), (ByteArray.empty, ((0 : Int), (false, ())))))).2).2).1) (((((List.getD t0 (Int.toNat t8) ((0 : Int), ((0 : Int), (ByteArray.empty, ((0 : Int), (false, ())))))).2).2).2).1) ((((((List.getD t0 (Int.toNat t8) ((0 : Int), ((0 : Int), (ByteArray.empty, ((0 : Int), (false, ())))))).2).2).2).2).1) b1000a b1001a) then
        x0 t8 b1000a b1001a
      else
        W53_2 N x0 x1 n t0 t7 (Go.IntKind.wrap .i64 (t8 + (1 : Int))) b1000a b1001a
    else
      none
  else
    x1 b1000a b1001a
def L53 (N : Nat) : Loops (HS.den X53.hout) := fun k ρ K => match Nat.beq k 2 with
  | true => (match adH ρ H53_2.hd with
    | some v => W53_2 N (fun t4 b1000a b1001a => K .ret (encH [(8, (.i .i64)), (2001, (.pr (.i .i64) .un)), (2003, (.pr (.i .i64) .un))] (t4, ((b1000a, ()), ((b1001a, ()), ()))))) (fun b1000a b1001a => K (.exit 0) (encH [(2001, (.pr (.i .i64) .un)), (2003, (.pr (.i .i64) .un))] ((b1000a, ()), ((b1001a, ()), ())))) N v.1 v.2.2.1 v.2.2.2.1 v.2.2.2.2.1.1 v.2.2.2.2.2.1.1
    | none => none)
  | false => none
def F53 (N : Nat) (t0 : List (Int × Int × ByteArray × Int × Bool × Unit)) (b1000a : Int) (b1001a : Int) : Option (HS.den X53.hout) :=
  W53_2 N
    (fun t4 b1000a b1001a =>
      some (t4, ((b1000a, ()), ((b1001a, ()), ()))))
    (fun b1000a b1001a =>
      some ((-(1 : Int)), ((b1000a, ()), ((b1001a, ()), ()))))
    N t0 (((List.length t0) : Nat) : Int) (0 : Int) b1000a b1001a
theorem loops53 (N : Nat) : loopsOk C53 (L53 N) Go.Proofs.Tryd.f53 := ⟨trivial, ⟨⟨trivial, ⟨loopOk_of H53_2 N (fun K n v => W53_2 N (fun t4 b1000a b1001a => K .ret (encH [(8, (.i .i64)), (2001, (.pr (.i .i64) .un)), (2003, (.pr (.i .i64) .un))] (t4, ((b1000a, ()), ((b1001a, ()), ()))))) (fun b1000a b1001a => K (.exit 0) (encH [(2001, (.pr (.i .i64) .un)), (2003, (.pr (.i .i64) .un))] ((b1000a, ()), ((b1001a, ()), ())))) n v.1 v.2.2.1 v.2.2.2.1 v.2.2.2.2.1.1 v.2.2.2.2.2.1.1) (by kernel_rfl) (fun K v => by kernel_rfl) (fun K v => by kernel_rfl) (fun K n v => by kernel_rfl), ⟨trivial, ⟨⟨trivial, trivial⟩, ⟨⟨trivial, ⟨trivial, ⟨⟨trivial, trivial⟩, trivial⟩⟩⟩, trivial⟩⟩⟩⟩⟩, ⟨trivial, trivial⟩⟩⟩
theorem runs53 (N : Nat) (x : HS.den X53.hin) : runX C53 X53 (L53 N) Go.Proofs.Tryd.f53 x = F53 N x.1 x.2.2.1.1 x.2.2.2.1.1 := by kernel_rfl

/-! ### 45: incognito/sign.find -/
def L45 (_ : Nat) : Loops ((Int × Int × ByteArray × Int × Bool × Unit) × Bool × Unit) := fun _ _ _ => none
def F45 (N : Nat) (p0 : Int) (p1 : Int) : Option ((Int × Int × ByteArray × Int × Bool × Unit) × Bool × Unit) :=
  bif decide ((Go.Inc.idxR (((1 : Int), ((1 : Int), ((strL [118]), ((-(1 : Int)), (false, ()))))) :: (((1 : Int), ((2 : Int), ((strL []), ((2 : Int), (true, ()))))) :: (((2 : Int), ((1 : Int), ((strL [118]), ((-(1 : Int)), (false, ()))))) :: (((2 : Int), ((2 : Int), ((strL []), ((2 : Int), (true, ()))))) :: (((2 : Int), ((3 : Int), ((strL [118, 118]), ((6 : Int), (false, ()))))) :: (((3 : Int), ((4 : Int), ((strL [118]), ((-(1 : Int)), (false, ()))))) :: (((3 : Int), ((5 : Int), ((strL [118]), ((-(1 : Int)), (false, ()))))) :: (((3 : Int), ((6 : Int), ((strL [118]), ((6 : Int), (false, ()))))) :: (((4 : Int), ((7 : Int), ((strL [102, 118]), ((-(1 : Int)), (false, ()))))) :: (((4 : Int), ((8 : Int), ((strL [102]), ((2 : Int), (true, ()))))) :: (((4 : Int), ((5 : Int), ((strL [102]), ((-(1 : Int)), (false, ()))))) :: (((5 : Int), ((9 : Int), ((strL [118]), ((-(1 : Int)), (false, ()))))) :: (((5 : Int), ((10 : Int), ((strL []), ((2 : Int), (true, ()))))) :: (((6 : Int), ((9 : Int), ((strL [118]), ((-(1 : Int)), (false, ()))))) :: (((6 : Int), ((10 : Int), ((strL []), ((2 : Int), (true, ()))))) :: (((7 : Int), ((11 : Int), ((strL []), ((6 : Int), (false, ()))))) :: (((7 : Int), ((12 : Int), ((strL []), ((6 : Int), (false, ()))))) :: (((8 : Int), ((4 : Int), ((strL [110]), ((-(1 : Int)), (false, ()))))) :: (((8 : Int), ((2 : Int), ((strL []), ((5 : Int), (false, ()))))) :: (((9 : Int), ((1 : Int), ((strL [111]), ((-(1 : Int)), (false, ()))))) :: (((9 : Int), ((2 : Int), ((strL []), ((4 : Int), (true, ()))))) :: (((10 : Int), ((7 : Int), ((strL [111, 118]), ((-(1 : Int)), (false, ()))))) :: (((10 : Int), ((5 : Int), ((strL [111]), ((-(1 : Int)), (false, ()))))) :: (((10 : Int), ((13 : Int), ((strL [111, 111]), ((99 : Int), (false, ()))))) :: ([] : List (Int × (Int × (ByteArray × (Int × (Bool × Unit)))))))))))))))))))))))))))))) p0 p1) < (0 : Int)) then
    some (((0 : Int), ((0 : Int), (ByteArray.empty, ((0 : Int), (false, ()))))), (false, ()))
  else
    bif ((decide ((0 : Int) ≤ (Go.Inc.idxR (((1 : Int), ((1 : Int), ((strL [118]), ((-(1 : Int)), (false, ()))))) :: (((1 : Int), ((2 : Int), ((strL []), ((2 : Int), (true, ()))))) :: (((2 : Int), ((1 : Int), ((strL [118]), ((-(1 : Int)), (false, ()))))) :: (((2 : Int), ((2 : Int), ((strL []), ((2 : Int), (true, ()))))) :: (((2 : Int), ((3 : Int), ((strL [118, 118]), ((6 : Int), (false, ()))))) :: (((3 : Int), ((4 : Int), ((strL [118]), ((-(1 : Int)), (false, ()))))) :: (((3 : Int), ((5 : Int), ((strL [118]), ((-(1 : Int)), (false, ()))))) :: (((3 : Int), ((6 : Int), ((strL [118]), ((6 : Int), (false, ()))))) :: (((4 : Int), ((7 : Int), ((strL [102, 118]), ((-(1 : Int)), (false, ()))))) :: (((4 : Int), ((8 : Int), ((strL [102]), ((2 : Int), (true, ()))))) :: (((4 : Int), ((5 : Int), ((strL [102]), ((-(1 : Int)), (false, ()))))) :: (((5 : Int), ((9 : Int), ((strL [118]), ((-(1 : Int)), (false, ()))))) :: (((5 : Int), ((10 : Int), ((strL []), ((2 : Int), (true, ()))))) :: (((6 : Int), ((9 : Int), ((strL [118]), ((-(1 : Int)), (false, ()))))) :: (((6 : Int), ((10 : Int), ((strL []), ((2 : Int), (true, ()))))) :: (((7 : Int), ((11 : Int), ((strL []), ((6 : Int), (false, ()))))) :: (((7 : Int), ((12 : Int), ((strL []), ((6 : Int), (false, ()))))) :: (((8 : Int), ((4 : Int), ((strL [110]), ((-(1 : Int)), (false, ()))))) :: (((8 : Int), ((2 : Int), ((strL []), ((5 : Int), (false, ()))))) :: (((9 : Int), ((1 : Int), ((strL [111]), ((-(1 : Int)), (false, ()))))) :: (((9 : Int), ((2 : Int), ((strL []), ((4 : Int), (true, ()))))) :: (((10 : Int), ((7 : Int), ((strL [111, 118]), ((-(1 : Int)), (false, ()))))) :: (((10 : Int), ((5 : Int), ((strL [111]), ((-(1 : Int)), (false, ()))))) :: (((10 : Int), ((13 : Int), ((strL [111, 111]), ((99 : Int), (false, ()))))) :: ([] : List (Int × (Int × (ByteArray × (Int × (Bool × Unit)))))))))))))))))))))))))))))) p0 p1))) && (decide ((Go.Inc.idxR (((1 : Int), ((1 : Int), ((strL [118]), ((-(1 : Int)), (false, ()))))) :: (((1 : Int), ((2 : Int), ((strL []), ((2 : Int), (true, ()))))) :: (((2 : Int), ((1 : Int), ((strL [118]), ((-(1 : Int)), (false, ()))))) :: (((2 : Int), ((2 : Int), ((strL []), ((2 : Int), (true, ()))))) :: (((2 : Int), ((3 : Int), ((strL [118, 118]), ((6 : Int), (false, ()))))) :: (((3 : Int), ((4 : Int), ((strL [118]), ((-(1 : Int)), (false, ()))))) :: (((3 : Int), ((5 : Int), ((strL [118]), ((-(1 : Int)), (false, ()))))) :: (((3 : Int), ((6 : Int), ((strL [118]), ((6 : Int), (false, ()))))) :: (((4 : Int), ((7 : Int), ((strL [102, 118]), ((-(1 : Int)), (false, ()))))) :: (((4 : Int), ((8 : Int), ((strL [102]), ((2 : Int), (true, ()))))) :: (((4 : Int), ((5 : Int), ((strL [102]), ((-(1 : Int)), (false, ()))))) :: (((5 : Int), ((9 : Int), ((strL [118]), ((-(1 : Int)), (false, ()))))) :: (((5 : Int), ((10 : Int), ((strL []), ((2 : Int), (true, ()))))) :: (((6 : Int), ((9 : Int), ((strL [118]), ((-(1 : Int)), (false, ()))))) :: (((6 : Int), ((10 : Int), ((strL []), ((2 : Int), (true, ()))))) :: (((7 : Int), ((11 : Int), ((strL []), ((6 : Int), (false, ()))))) :: (((7 : Int), ((12 : Int), ((strL []), ((6 : Int), (false, ()))))) :: (((8 : Int), ((4 : Int), ((strL [110]), ((-(1 : Int)), (false, ()))))) :: (((8 : Int), ((2 : Int), ((strL []), ((5 : Int), (false, ()))))) :: (((9 : Int), ((1 : Int), ((strL [111]), ((-(1 : Int)), (false, ()))))) :: (((9 : Int), ((2 : Int), ((strL []), ((4 : Int), (true, ()))))) :: (((10 : Int), ((7 : Int), ((strL [111, 118]), ((-(1 : Int)), (false, ()))))) :: (((10 : Int), ((5 : Int), ((strL [111]), ((-(1 : Int)), (false, ()))))) :: (((10 : Int), ((13 : Int), ((strL [111, 111]), ((99 : Int), (false, ()))))) :: ([] : List (Int × (Int × (ByteArray × (Int × (Bool × Unit)))))))))))))))))))))))))))))) p0 p1) < (((List.length (((1 : Int), ((1 : Int), ((strL [118]), ((-(1 : Int)), (false, ()))))) :: (((1 : Int), ((2 : Int), ((strL []), ((2 : Int), (true, ()))))) :: (((2 : Int), ((1 : Int), ((strL [118]), ((-(1 : Int)), (false, ()))))) :: (((2 : Int), ((2 : Int), ((strL []), ((2 : Int), (true, ()))))) :: (((2 : Int), ((3 : Int), ((strL [118, 118]), ((6 : Int), (false, ()))))) :: (((3 : Int), ((4 : Int), ((strL [118]), ((-(1 : Int)), (false, ()))))) :: (((3 : Int), ((5 : Int), ((strL [118]), ((-(1 : Int)), (false, ()))))) :: (((3 : Int), ((6 : Int), ((strL [118]), ((6 : Int), (false, ()))))) :: (((4 : Int), ((7 : Int), ((strL [102, 118]), ((-(1 : Int)), (false, ()))))) :: (((4 : Int), ((8 : Int), ((strL [102]), ((2 : Int), (true, ()))))) :: (((4 : Int), ((5 : Int), ((strL [102]), ((-(1 : Int)), (false, ()))))) :: (((5 : Int), ((9 : Int), ((strL [118]), ((-(1 : Int)), (false, ()))))) :: (((5 : Int), ((10 : Int), ((strL []), ((2 : Int), (true, ()))))) :: (((6 : Int), ((9 : Int), ((strL [118]), ((-(1 : Int)), (false, ()))))) :: (((6 : Int), ((10 : Int), ((strL []), ((2 : Int), (true, ()))))) :: (((7 : Int), ((11 : Int), ((strL []), ((6 : Int), (false, ()))))) :: (((7 : Int), ((12 : Int), ((strL []), ((6 : Int), (false, ()))))) :: (((8 : Int), ((4 : Int), ((strL [110]), ((-(1 : Int)), (false, ()))))) :: (((8 : Int), ((2 : Int), ((strL []), ((5 : Int), (false, ()))))) :: (((9 : Int), ((1 : Int), ((strL [111]), ((-(1 : Int)), (false, ()))))) :: (((9 : Int), ((2 : Int), ((strL []), ((4 : Int), (true, ()))))) :: (((10 : Int), ((7 : Int), ((strL [111, 118]), ((-(1 : Int)), (false, ()))))) :: (((10 : Int), ((5 : Int), ((strL [111]), ((-(1 : Int)), (false, ()))))) :: (((10 : Int), ((13 : Int), ((strL [111, 111]), ((99 : Int), (false, ()))))) :: ([] : List (Int × (Int × (ByteArray × (Int × (Bool × Unit))))))))))))))))))))))))))))))) : Nat) : Int)))) then
      some ((List.getD (((1 : Int), ((1 : Int), ((strL [118]), ((-(1 : Int)), (false, ()))))) :: (((1 : Int), ((2 : Int), ((strL []), ((2 : Int), (true, ()))))) :: (((2 : Int), ((1 : Int), ((strL [118]), ((-(1 : Int)), (false, ()))))) :: (((2 : Int), ((2 : Int), ((strL []), ((2 : Int), (true, ()))))) :: (((2 : Int), ((3 : Int), ((strL [118, 118]), ((6 : Int), (false, ()))))) :: (((3 : Int), ((4 : Int), ((strL [118]), ((-(1 : Int)), (false, ()))))) :: (((3 : Int), ((5 : Int), ((strL [118]), ((-(1 : Int)), (false, ()))))) :: (((3 : Int), ((6 : Int), ((strL [118]), ((6 : Int), (false, ()))))) :: (((4 : Int), ((7 : Int), ((strL [102, 118]), ((-(1 : Int)), (false, ()))))) :: (((4 : Int), ((8 : Int), ((strL [102]), ((2 : Int), (true, ()))))) :: (((4 : Int), ((5 : Int), ((strL [102]), ((-(1 : Int)), (false, ()))))) :: (((5 : Int), ((9 : Int), ((strL [118]), ((-(1 : Int)), (false, ()))))) :: (((5 : Int), ((10 : Int), ((strL []), ((2 : Int), (true, ()))))) :: (((6 : Int), ((9 : Int), ((strL [118]), ((-(1 : Int)), (false, ()))))) :: (((6 : Int), ((10 : Int), ((strL []), ((2 : Int), (true, ()))))) :: (((7 : Int), ((11 : Int), ((strL []), ((6 : Int), (false, ()))))) :: (((7 : Int), ((12 : Int), ((strL []), ((6 : Int), (false, ()))))) :: (((8 : Int), ((4 : Int), ((strL [110]), ((-(1 : Int)), (false, ()))))) :: (((8 : Int), ((2 : Int), ((strL []), ((5 : Int), (false, ()))))) :: (((9 : Int), ((1 : Int), ((strL [111]), ((-(1 : Int)), (false, ()))))) :: (((9 : Int), ((2 : Int), ((strL []), ((4 : Int), (true, ()))))) :: (((10 : Int), ((7 : Int), ((strL [111, 118]), ((-(1 : Int)), (false, ()))))) :: (((10 : Int), ((5 : Int), ((strL [111]), ((-(1 : Int)), (false, ()))))) :: (((10 : Int), ((13 : Int), ((strL [111, 111]), ((99 : Int), (false, ()))))) :: ([] : List (Int × (Int × (ByteArray × (Int × (Bool × Unit)))))))))))))))))))))))))))))) (Int.toNat (Go.Inc.idxR (((1 : Int), ((1 : Int), ((strL [118]), ((-(1 : Int)), (false, ()))))) :: (((1 : Int), ((2 : Int), ((strL []), ((2 : Int), (true, ()))))) :: (((2 : Int), ((1 : Int), ((strL [118]), ((-(1 : Int)), (false, ()))))) :: (((2 : Int), ((2 : Int), ((strL []), ((2 : Int), (true, ()))))) :: (((2 : Int), ((3 : Int), ((strL [118, 118]), ((6 : Int), (false, ()))))) :: (((3 : Int), ((4 : Int), ((strL [118]), ((-(1 : Int)), (false, ()))))) :: (((3 : Int), ((5 : Int), ((strL [118]), ((-(1 : Int)), (false, ()))))) :: (((3 : Int), ((6 : Int), ((strL [118]), ((6 : Int), (false, ()))))) :: (((4 : Int), ((7 : Int), ((strL [102, 118]), ((-(1 : Int)), (false, ()))))) :: (((4 : Int), ((8 : Int), ((strL [102]), ((2 : Int), (true, ()))))) :: (((4 : Int), ((5 : Int), ((strL [102]), ((-(1 : Int)), (false, ()))))) :: (((5 : Int), ((9 : Int), ((strL [118]), ((-(1 : Int)), (false, ()))))) :: (((5 : Int), ((10 : Int), ((strL []), ((2 : Int), (true, ()))))) :: (((6 : Int), ((9 : Int), ((strL [118]), ((-(1 : Int)), (false, ()))))) :: (((6 : Int), ((10 : Int), ((strL []), ((2 : Int), (true, ()))))) :: (((7 : Int), ((11 : Int), ((strL []), ((6 : Int), (false, ()))))) :: (((7 : Int), ((12 : Int), ((strL []), ((6 : Int), (false, ()))))) :: (((8 : Int), ((4 : Int), ((strL [110]), ((-(1 : Int)), (false, ()))))) :: (((8 : Int), ((2 : Int), ((strL []), ((5 : Int), (false, ()))))) :: (((9 : Int), ((1 : Int), ((strL [111]), ((-(1 : Int)), (false, ()))))) :: (((9 : Int), ((2 : Int), ((strL []), ((4 : Int), (true, ()))))) :: (((10 : Int), ((7 : Int), ((strL [111, 118]), ((-(1 : Int)), (false, ()))))) :: (((10 : Int), ((5 : Int), ((strL [111]), ((-(1 : Int)), (false, ()))))) :: (((10 : Int), ((13 : Int), ((strL [111, 111]), ((99 : Int), (false, ()))))) :: ([] : List (Int × (Int × (ByteArray × (Int × (Bool × Unit)))))))))))))))))))))))))))))) p0 p1)) ((0 : Int), ((0 : Int), (ByteArray.empty, ((0 : Int), (false, ())))))), (true, ()))
    else
      none
theorem loops45 (N : Nat) : loopsOk C45 (L45 N) Go.Proofs.Tryd.f45 := ⟨trivial, ⟨trivial, ⟨trivial, ⟨⟨trivial, ⟨⟨trivial, trivial⟩, trivial⟩⟩, ⟨trivial, trivial⟩⟩⟩⟩⟩
theorem runs45 (N : Nat) (x : S45.ta.den) : run C45 S45 (L45 N) Go.Proofs.Tryd.f45 x = F45 N x.1 x.2.1 := by kernel_rfl

/-! ### 42: incognito/sign.Args -/
def W42_6 {β : Type} (N : Nat) (x1 : (List Int) → Option β) : Nat → Int → Int → ByteArray → Int → Bool → (List Int) → Int → Int → Option β
  | 0, _, _, _, _, _, _, _, _ => none
  | n + 1, b6a, b6ba, b6bba, b6bbba, b6bbbba, t8, t20, t21 =>
  bif decide (t21 < t20) then
    bif ((decide ((0 : Int) ≤ t21)) && (decide (t21 < (((ByteArray.size b6bba) : Nat) : Int)))) then
      bif decide ((((List.length t8) + (List.length ((Go.Inc.domain (((UInt8.toNat (List.getD (Array.toList (ByteArray.data b6bba)) (Int.toNat t21) (0 : UInt8))) : Nat) : Int)) :: ([] : List Int)))) * 8) ≤ 140737488351232) then
        W42_6 N x1 n b6a b6ba b6bba b6bbba b6bbbba (t8 ++ ((Go.Inc.domain (((UInt8.toNat (List.getD (Array.toList (ByteArray.data b6bba)) (Int.toNat t21) (0 : UInt8))) : Nat) : Int)) :: ([] : List Int))) t20 (Go.IntKind.wrap .i64 (t21 + (1 : Int)))
      else
        none
    else
      none
  else
    x1 t8
def L42 (N : Nat) : Loops ((List Int) × Bool × Unit) := fun k ρ K => match Nat.beq k 6 with
  | true => (match adH ρ H42_6.hd with
    | some v => W42_6 N (fun t8 => K (.exit 0) (encH [(16, (.sl (.int .i64) (.own 31)))] (t8, ()))) N v.2.1.1 v.2.1.2.1 v.2.1.2.2.1 v.2.1.2.2.2.1 v.2.1.2.2.2.2.1 v.2.2.1 v.2.2.2.1 v.2.2.2.2.1
    | none => none)
  | false => none
def F42 (N : Nat) (p0 : Int) (p1 : Int) : Option ((List Int) × Bool × Unit) :=
  bif (!(((Go.Inc.findGo p0 p1).2).1)) then
    some (([] : List Int), (false, ()))
  else
    W42_6 N
      (fun t8 =>
        some (t8, (true, ())))
      N (((Go.Inc.findGo p0 p1).1).1) ((((Go.Inc.findGo p0 p1).1).2).1) (((((Go.Inc.findGo p0 p1).1).2).2).1) ((((((Go.Inc.findGo p0 p1).1).2).2).2).1) (((((((Go.Inc.findGo p0 p1).1).2).2).2).2).1) ([] : List Int) (((ByteArray.size (((((Go.Inc.findGo p0 p1).1).2).2).1)) : Nat) : Int) (0 : Int)
theorem loops42 (N : Nat) : loopsOk C42 (L42 N) Go.Proofs.Tryd.f42 := ⟨trivial, ⟨trivial, ⟨⟨trivial, ⟨⟨trivial, trivial⟩, trivial⟩⟩, ⟨trivial, ⟨⟨trivial, ⟨loopOk_of H42_6 N (fun K n v => W42_6 N (fun t8 => K (.exit 0) (encH [(16, (.sl (.int .i64) (.own 31)))] (t8, ()))) n v.2.1.1 v.2.1.2.1 v.2.1.2.2.1 v.2.1.2.2.2.1 v.2.1.2.2.2.2.1 v.2.2.1 v.2.2.2.1 v.2.2.2.2.1) (by kernel_rfl) (fun K v => by kernel_rfl) (fun K v => by kernel_rfl) (fun K n v => by kernel_rfl), ⟨trivial, ⟨⟨trivial, trivial⟩, ⟨⟨trivial, trivial⟩, trivial⟩⟩⟩⟩⟩, ⟨trivial, trivial⟩⟩⟩⟩⟩⟩
theorem runs42 (N : Nat) (x : S42.ta.den) : run C42 S42 (L42 N) Go.Proofs.Tryd.f42 x = F42 N x.1 x.2.1 := by kernel_rfl

/-! ### 46: incognito/sign.paired -/
def W46_5 {β : Type} (N : Nat) (x0 : (List Int) → Bool → Option β) (x1 : (List Int) → Option β) : Nat → (List Int) → (List (Int × Int × ByteArray × Unit)) → Int → Int → Option β
  | 0, _, _, _, _ => none
  | n + 1, t4, t12, t13, t14 =>
  bif decide (t14 < t13) then
    bif ((decide ((0 : Int) ≤ t14)) && (decide (t14 < (((List.length t12) : Nat) : Int)))) then
      bif ((Int.tmod t14 (2 : Int)) == (1 : Int)) then
        bif (Go.Inc.okT (2 : Int) (List.getD t12 (Int.toNat t14) ((0 : Int), ((0 : Int), (ByteArray.empty, ()))))) then
          bif (!(Go.Inc.takes (2 : Int) (List.getD t12 (Int.toNat t14) ((0 : Int), ((0 : Int), (ByteArray.empty, ())))))) then
            x0 ([] : List Int) false
          else
            bif decide ((((List.length t4) + (List.length ((2 : Int) :: ([] : List Int)))) * 8) ≤ 140737488351232) then
              W46_5 N x0 x1 n (t4 ++ ((2 : Int) :: ([] : List Int))) t12 t13 (Go.IntKind.wrap .i64 (t14 + (1 : Int)))
            else
              none
        else
          none
      else
        bif (Go.Inc.okT (4 : Int) (List.getD t12 (Int.toNat t14) ((0 : Int), ((0 : Int), (ByteArray.empty, ()))))) then
          bif (!(Go.Inc.takes (4 : Int) (List.getD t12 (Int.toNat t14) ((0 : Int), ((0 : Int), (ByteArray.empty, ())))))) then
            x0 ([] : List Int) false
          else
            bif decide ((((List.length t4) + (List.length ((4 : Int) :: ([] : List Int)))) * 8) ≤ 140737488351232) then
              W46_5 N x0 x1 n (t4 ++ ((4 : Int) :: ([] : List Int))) t12 t13 (Go.IntKind.wrap .i64 (t14 + (1 : Int)))
            else
              none
        else
          none
    else
      none
  else
    x1 t4
def L46 (N : Nat) : Loops ((List Int) × Bool × Unit) := fun k ρ K => match Nat.beq k 5 with
  | true => (match adH ρ H46_5.hd with
    | some v => W46_5 N (fun t2 t3 => K .ret (encH [(4, (.sl (.int .i64) .full)), (6, .bo)] (t2, (t3, ())))) (fun t4 => K (.exit 0) (encH [(8, (.sl (.int .i64) (.own 29)))] (t4, ()))) N v.1 v.2.1 v.2.2.1 v.2.2.2.1
    | none => none)
  | false => none
def F46 (N : Nat) (p0 : List (Int × Int × ByteArray × Unit)) : Option ((List Int) × Bool × Unit) :=
  bif ((Int.tmod (((List.length p0) : Nat) : Int) (2 : Int)) != (0 : Int)) then
    some (([] : List Int), (false, ()))
  else
    W46_5 N
      (fun t2 t3 =>
        some (t2, (t3, ())))
      (fun t4 =>
        some (t4, (true, ())))
      N ([] : List Int) p0 (((List.length p0) : Nat) : Int) (0 : Int)
theorem loops46 (N : Nat) : loopsOk C46 (L46 N) Go.Proofs.Tryd.f46 := ⟨trivial, ⟨⟨trivial, ⟨⟨trivial, trivial⟩, trivial⟩⟩, ⟨trivial, ⟨⟨trivial, ⟨loopOk_of H46_5 N (fun K n v => W46_5 N (fun t2 t3 => K .ret (encH [(4, (.sl (.int .i64) .full)), (6, .bo)] (t2, (t3, ())))) (fun t4 => K (.exit 0) (encH [(8, (.sl (.int .i64) (.own 29)))] (t4, ()))) n v.1 v.2.1 v.2.2.1 v.2.2.2.1) (by kernel_rfl) (fun K v => by kernel_rfl) (fun K v => by kernel_rfl) (fun K n v => by kernel_rfl), ⟨trivial, ⟨⟨trivial, trivial⟩, ⟨⟨trivial, ⟨trivial, ⟨⟨trivial, ⟨trivial, trivial⟩⟩, ⟨⟨trivial, ⟨⟨trivial, trivial⟩, trivial⟩⟩, trivial⟩⟩⟩⟩, trivial⟩⟩⟩⟩⟩, ⟨trivial, trivial⟩⟩⟩⟩⟩
theorem runs46 (N : Nat) (x : S46.ta.den) : run C46 S46 (L46 N) Go.Proofs.Tryd.f46 x = F46 N x.1 := by kernel_rfl

/-! ### 22: slices.Contains[[]int,int] -/
def L22 (_ : Nat) : Loops (Bool × Unit) := fun _ _ _ => none
def F22 (N : Nat) (p0 : List Int) (p1 : Int) : Option (Bool × Unit) :=
  bif (Go.Inc.okIdxI p0 p1) then
    some (decide ((Go.Inc.idxI p0 p1) ≥ (0 : Int)), ())
  else
    none
theorem loops22 (N : Nat) : loopsOk C22 (L22 N) Go.Proofs.Tryd.f22 := ⟨trivial, ⟨trivial, trivial⟩⟩
theorem runs22 (N : Nat) (x : S22.ta.den) : run C22 S22 (L22 N) Go.Proofs.Tryd.f22 x = F22 N x.1 x.2.1 := by kernel_rfl

/-! ### 19: incognito/incognitoref10.Great -/
def W19_3 {β : Type} (N : Nat) (x1 : Int → Int → Int → ByteArray → Int → Int → Int → Int → ByteArray → Int → (List (Int × Int × ByteArray × Unit)) → (List (Int × Int × ByteArray × Unit)) → Bool → ByteArray → Int → Option β) : Nat → Int → Int → Int → ByteArray → Int → Int → Int → Int → ByteArray → Int → (List (Int × Int × ByteArray × Unit)) → (List (Int × Int × ByteArray × Unit)) → Bool → ByteArray → Int → Int → Option β
  | 0, _, _, _, _, _, _, _, _, _, _, _, _, _, _, _, _ => none
  | n + 1, b1a, b1ba, b1bba, b1bbba, b1bbbba, b1bbbbba, b1bbbbbba, b1bbbbbbba, b1bbbbbbbba, b1bbbbbbbbba, b1bbbbbbbbbba, b1bbbbbbbbbbba, b1bbbbbbbbbbbba, b1bbbbbbbbbbbbba, t3, t4 =>
  bif decide (t4 < (((List.length b1bbbbbbbbbba) : Nat) : Int)) then
    bif decide (t3 ≤ (2000 : Int)) then
      bif ((decide ((0 : Int) ≤ t4)) && (decide (t4 < (((List.length b1bbbbbbbbbba) : Nat) : Int)))) then
        W19_3 N x1 n b1a b1ba b1bba b1bbba b1bbbba b1bbbbba b1bbbbbba b1bbbbbbba b1bbbbbbbba b1bbbbbbbbba b1bbbbbbbbbba b1bbbbbbbbbbba b1bbbbbbbbbbbba b1bbbbbbbbbbbbba (Go.IntKind.wrap .i64 ((Go.IntKind.wrap .i64 (t3 + (1 : Int))) + (((ByteArray.size ((((List.getD b1bbbbbbbbbba (Int.toNat t4) ((0 : Int), ((0 : Int), (ByteArray.empty, ())))).2).2).1)) : Nat) : Int))) (Go.IntKind.wrap .i64 (t4 + (1 : Int)))
      else
        none
    else
      x1 b1a b1ba b1bba b1bbba b1bbbba b1bbbbba b1bbbbbba b1bbbbbbba b1bbbbbbbba b1bbbbbbbbba b1bbbbbbbbbba b1bbbbbbbbbbba b1bbbbbbbbbbbba b1bbbbbbbbbbbbba t3
  else
    x1 b1a b1ba b1bba b1bbba b1bbbba b1bbbbba b1bbbbbba b1bbbbbbba b1bbbbbbbba b1bbbbbbbbba b1bbbbbbbbbba b1bbbbbbbbbbba b1bbbbbbbbbbbba b1bbbbbbbbbbbbba t3
def W19_7 {β : Type} (N : Nat) (x3 : Int → Option β) : Nat → Int → Int → Int → ByteArray → Int → Int → Int → Int → ByteArray → Int → (List (Int × Int × ByteArray × Unit)) → (List (Int × Int × ByteArray × Unit)) → Bool → ByteArray → Int → Int → Option β
  | 0, _, _, _, _, _, _, _, _, _, _, _, _, _, _, _, _ => none
  | n + 1, b1a, b1ba, b1bba, b1bbba, b1bbbba, b1bbbbba, b1bbbbbba, b1bbbbbbba, b1bbbbbbbba, b1bbbbbbbbba, b1bbbbbbbbbba, b1bbbbbbbbbbba, b1bbbbbbbbbbbba, b1bbbbbbbbbbbbba, t3, t5 =>
  bif decide (t5 < (((List.length b1bbbbbbbbbbba) : Nat) : Int)) then
    bif decide (t3 ≤ (2000 : Int)) then
      bif ((decide ((0 : Int) ≤ t5)) && (decide (t5 < (((List.length b1bbbbbbbbbbba) : Nat) : Int)))) then
        W19_7 N x3 n b1a b1ba b1bba b1bbba b1bbbba b1bbbbba b1bbbbbba b1bbbbbbba b1bbbbbbbba b1bbbbbbbbba b1bbbbbbbbbba b1bbbbbbbbbbba b1bbbbbbbbbbbba b1bbbbbbbbbbbbba (Go.IntKind.wrap .i64 ((Go.IntKind.wrap .i64 (t3 + (1 : Int))) + (((ByteArray.size ((((List.getD b1bbbbbbbbbbba (Int.toNat t5) ((0 : Int), ((0 : Int), (ByteArray.empty, ())))).2).2).1)) : Nat) : Int))) (Go.IntKind.wrap .i64 (t5 + (1 : Int)))
      else
        none
    else
      x3 t3
  else
    x3 t3
def L19 (N : Nat) : Loops (Bool × Unit) := fun k ρ K => match Nat.beq k 3 with
  | true => (match adH ρ H19_3.hd with
    | some v => W19_3 N (fun b1a b1ba b1bba b1bbba b1bbbba b1bbbbba b1bbbbbba b1bbbbbbba b1bbbbbbbba b1bbbbbbbbba b1bbbbbbbbbba b1bbbbbbbbbbba b1bbbbbbbbbbbba b1bbbbbbbbbbbbba t3 => K (.exit 0) (encH [(2, (.bx 1 0)), (3, (.pr (.i .i64) (.pr (.i .i64) (.pr (.i .i64) (.pr .st (.pr (.i .i64) (.pr (.i .i64) (.pr (.i .i64) (.pr (.i .i64) (.pr .st (.pr (.i .i64) (.pr (.sl (.pr (.int .i64) (.pr (.int .i64) (.pr .str .un))) .no) (.pr (.sl (.pr (.int .i64) (.pr (.int .i64) (.pr .str .un))) .no) (.pr .bo (.pr .st .un))))))))))))))), (6, (.i .i64))] ((), ((b1a, (b1ba, (b1bba, (b1bbba, (b1bbbba, (b1bbbbba, (b1bbbbbba, (b1bbbbbbba, (b1bbbbbbbba, (b1bbbbbbbbba, (b1bbbbbbbbbba, (b1bbbbbbbbbbba, (b1bbbbbbbbbbbba, (b1bbbbbbbbbbbbba, ())))))))))))))), (t3, ()))))) N v.2.1.1 v.2.1.2.1 v.2.1.2.2.1 v.2.1.2.2.2.1 v.2.1.2.2.2.2.1 v.2.1.2.2.2.2.2.1 v.2.1.2.2.2.2.2.2.1 v.2.1.2.2.2.2.2.2.2.1 v.2.1.2.2.2.2.2.2.2.2.1 v.2.1.2.2.2.2.2.2.2.2.2.1 v.2.1.2.2.2.2.2.2.2.2.2.2.1 v.2.1.2.2.2.2.2.2.2.2.2.2.2.1 v.2.1.2.2.2.2.2.2.2.2.2.2.2.2.1 v.2.1.2.2.2.2.2.2.2.2.2.2.2.2.2.1 v.2.2.1 v.2.2.2.1
    | none => none)
  | false => match Nat.beq k 7 with
  | true => (match adH ρ H19_7.hd with
    | some v => W19_7 N (fun t3 => K (.exit 2) (encH [(6, (.i .i64))] (t3, ()))) N v.2.1.1 v.2.1.2.1 v.2.1.2.2.1 v.2.1.2.2.2.1 v.2.1.2.2.2.2.1 v.2.1.2.2.2.2.2.1 v.2.1.2.2.2.2.2.2.1 v.2.1.2.2.2.2.2.2.2.1 v.2.1.2.2.2.2.2.2.2.2.1 v.2.1.2.2.2.2.2.2.2.2.2.1 v.2.1.2.2.2.2.2.2.2.2.2.2.1 v.2.1.2.2.2.2.2.2.2.2.2.2.2.1 v.2.1.2.2.2.2.2.2.2.2.2.2.2.2.1 v.2.1.2.2.2.2.2.2.2.2.2.2.2.2.2.1 v.2.2.1 v.2.2.2.1
    | none => none)
  | false => none
def F19 (N : Nat) (p0 : Int × (Int × Int × ByteArray × Unit) × Int × Int × (Int × Int × ByteArray × Unit) × Int × (List (Int × Int × ByteArray × Unit)) × (List (Int × Int × ByteArray × Unit)) × Bool × ByteArray × Unit) : Option (Bool × Unit) :=
  W19_3 N
    (fun b1a b1ba b1bba b1bbba b1bbbba b1bbbbba b1bbbbbba b1bbbbbbba b1bbbbbbbba b1bbbbbbbbba b1bbbbbbbbbba b1bbbbbbbbbbba b1bbbbbbbbbbbba b1bbbbbbbbbbbbba t3 =>
      W19_7 N
        (fun t3 =>
          some (decide (t3 > (2000 : Int)), ()))
        N b1a b1ba b1bba b1bbba b1bbbba b1bbbbba b1bbbbbba b1bbbbbbba b1bbbbbbbba b1bbbbbbbbba b1bbbbbbbbbba b1bbbbbbbbbbba b1bbbbbbbbbbbba b1bbbbbbbbbbbbba t3 (0 : Int))
    N p0.1 p0.2.1.1 p0.2.1.2.1 p0.2.1.2.2.1 p0.2.2.1 p0.2.2.2.1 p0.2.2.2.2.1.1 p0.2.2.2.2.1.2.1 p0.2.2.2.2.1.2.2.1 p0.2.2.2.2.2.1 p0.2.2.2.2.2.2.1 p0.2.2.2.2.2.2.2.1 p0.2.2.2.2.2.2.2.2.1 p0.2.2.2.2.2.2.2.2.2.1 (Go.IntKind.wrap .i64 ((Go.IntKind.wrap .i64 ((((ByteArray.size p0.2.1.2.2.1) : Nat) : Int) + (((ByteArray.size p0.2.2.2.2.1.2.2.1) : Nat) : Int))) + (((ByteArray.size p0.2.2.2.2.2.2.2.2.2.1) : Nat) : Int))) (0 : Int)
theorem loops19 (N : Nat) : loopsOk C19 (L19 N) Go.Proofs.Tryd.f19 := ⟨trivial, ⟨trivial, ⟨⟨trivial, ⟨loopOk_of H19_3 N (fun K n v => W19_3 N (fun b1a b1ba b1bba b1bbba b1bbbba b1bbbbba b1bbbbbba b1bbbbbbba b1bbbbbbbba b1bbbbbbbbba b1bbbbbbbbbba b1bbbbbbbbbbba b1bbbbbbbbbbbba b1bbbbbbbbbbbbba t3 => K (.exit 0) (encH [(2, (.bx 1 0)), (3, (.pr (.i .i64) (.pr (.i .i64) (.pr (.i .i64) (.pr .st (.pr (.i .i64) (.pr (.i .i64) (.pr (.i .i64) (.pr (.i .i64) (.pr .st (.pr (.i .i64) (.pr (.sl (.pr (.int .i64) (.pr (.int .i64) (.pr .str .un))) .no) (.pr (.sl (.pr (.int .i64) (.pr (.int .i64) (.pr .str .un))) .no) (.pr .bo (.pr .st .un))))))))))))))), (6, (.i .i64))] ((), ((b1a, (b1ba, (b1bba, (b1bbba, (b1bbbba, (b1bbbbba, (b1bbbbbba, (b1bbbbbbba, (b1bbbbbbbba, (b1bbbbbbbbba, (b1bbbbbbbbbba, (b1bbbbbbbbbbba, (b1bbbbbbbbbbbba, (b1bbbbbbbbbbbbba, ())))))))))))))), (t3, ()))))) n v.2.1.1 v.2.1.2.1 v.2.1.2.2.1 v.2.1.2.2.2.1 v.2.1.2.2.2.2.1 v.2.1.2.2.2.2.2.1 v.2.1.2.2.2.2.2.2.1 v.2.1.2.2.2.2.2.2.2.1 v.2.1.2.2.2.2.2.2.2.2.1 v.2.1.2.2.2.2.2.2.2.2.2.1 v.2.1.2.2.2.2.2.2.2.2.2.2.1 v.2.1.2.2.2.2.2.2.2.2.2.2.2.1 v.2.1.2.2.2.2.2.2.2.2.2.2.2.2.1 v.2.1.2.2.2.2.2.2.2.2.2.2.2.2.2.1 v.2.2.1 v.2.2.2.1) (by kernel_rfl) (fun K v => by kernel_rfl) (fun K v => by kernel_rfl) (fun K n v => by kernel_rfl), ⟨⟨trivial, ⟨trivial, trivial⟩⟩, ⟨trivial, trivial⟩⟩⟩⟩, ⟨⟨trivial, ⟨loopOk_of H19_7 N (fun K n v => W19_7 N (fun t3 => K (.exit 2) (encH [(6, (.i .i64))] (t3, ()))) n v.2.1.1 v.2.1.2.1 v.2.1.2.2.1 v.2.1.2.2.2.1 v.2.1.2.2.2.2.1 v.2.1.2.2.2.2.2.1 v.2.1.2.2.2.2.2.2.1 v.2.1.2.2.2.2.2.2.2.1 v.2.1.2.2.2.2.2.2.2.2.1 v.2.1.2.2.2.2.2.2.2.2.2.1 v.2.1.2.2.2.2.2.2.2.2.2.2.1 v.2.1.2.2.2.2.2.2.2.2.2.2.2.1 v.2.1.2.2.2.2.2.2.2.2.2.2.2.2.1 v.2.1.2.2.2.2.2.2.2.2.2.2.2.2.2.1 v.2.2.1 v.2.2.2.1) (by kernel_rfl) (fun K v => by kernel_rfl) (fun K v => by kernel_rfl) (fun K n v => by kernel_rfl), ⟨⟨trivial, ⟨trivial, trivial⟩⟩, ⟨trivial, trivial⟩⟩⟩⟩, ⟨trivial, trivial⟩⟩⟩⟩⟩
theorem runs19 (N : Nat) (x : S19.ta.den) : run C19 S19 (L19 N) Go.Proofs.Tryd.f19 x = F19 N x.1 := by kernel_rfl

/-! ### 9: incognito/incognitoref11.Great -/
def W9_4 {β : Type} (N : Nat) (x0 : Bool → Option β) (x1 : Unit → Option β) : Nat → (List (Int × (Int × Int × ByteArray × Unit) × Int × Int × (Int × Int × ByteArray × Unit) × Int × (List (Int × Int × ByteArray × Unit)) × (List (Int × Int × ByteArray × Unit)) × Bool × ByteArray × Unit)) → Int → Option β
  | 0, _, _ => none
  | n + 1, t0, t5 =>
  bif decide (t5 < (((List.length t0) : Nat) : Int)) then
    bif ((decide ((0 : Int) ≤ t5)) && (decide (t5 < (((List.length t0) : Nat) : Int)))) then
      bif (Go.Inc.okE (List.getD t0 (Int.toNat t5) ((0 : Int), (((0 : Int), ((0 : Int), (ByteArray.empty, ()))), ((0 : Int), ((0 : Int), (((0 : Int), ((0 : Int), (ByteArray.empty, ()))), ((0 : Int), ([], ([], (false, (ByteArray.empty, ())))))))))))) then
        bif (Go.Inc.greatE (List.getD t0 (Int.toNat t5) ((0 : Int), (((0 : Int), ((0 : Int), (ByteArray.empty, ()))), ((0 : Int), ((0 : Int), (((0 : Int), ((0 : Int), (ByteArray.empty, ()))), ((0 : Int), ([], ([], (false, (ByteArray.empty, ())))))))))))) then
          x0 true
        else
          W9_4 N x0 x1 n t0 (Go.IntKind.wrap .i64 (t5 + (1 : Int)))
      else
        none
    else
      none
  else
    x1 ()
def L9 (N : Nat) : Loops (Bool × Unit) := fun k ρ K => match Nat.beq k 4 with
  | true => (match adH ρ H9_4.hd with
    | some v => W9_4 N (fun t4 => K .ret (encH [(8, .bo)] (t4, ()))) (fun _ => K (.exit 0) (encH [] ())) N v.1 v.2.1
    | none => none)
  | false => none
def F9 (N : Nat) (p0 : List (Int × (Int × Int × ByteArray × Unit) × Int × Int × (Int × Int × ByteArray × Unit) × Int × (List (Int × Int × ByteArray × Unit)) × (List (Int × Int × ByteArray × Unit)) × Bool × ByteArray × Unit)) (p1 : Int) : Option (Bool × Unit) :=
  bif decide ((((List.length p0) : Nat) : Int) > p1) then
    some (true, ())
  else
    W9_4 N
      (fun t4 =>
        some (t4, ()))
      (fun (_ : Unit) =>
        some (false, ()))
      N p0 (0 : Int)
theorem loops9 (N : Nat) : loopsOk C9 (L9 N) Go.Proofs.Tryd.f9 := ⟨trivial, ⟨⟨trivial, ⟨⟨trivial, trivial⟩, trivial⟩⟩, ⟨⟨trivial, ⟨loopOk_of H9_4 N (fun K n v => W9_4 N (fun t4 => K .ret (encH [(8, .bo)] (t4, ()))) (fun _ => K (.exit 0) (encH [] ())) n v.1 v.2.1) (by kernel_rfl) (fun K v => by kernel_rfl) (fun K v => by kernel_rfl) (fun K n v => by kernel_rfl), ⟨⟨trivial, ⟨trivial, trivial⟩⟩, ⟨⟨trivial, ⟨⟨trivial, trivial⟩, trivial⟩⟩, trivial⟩⟩⟩⟩, ⟨trivial, trivial⟩⟩⟩⟩
theorem runs9 (N : Nat) (x : S9.ta.den) : run C9 S9 (L9 N) Go.Proofs.Tryd.f9 x = F9 N x.1 x.2.1 := by kernel_rfl

/-! ### 26: incognito/incognitoref10.Copy -/
def L26 (_ : Nat) : Loops ((Int × (Int × Int × ByteArray × Unit) × Int × Int × (Int × Int × ByteArray × Unit) × Int × (List (Int × Int × ByteArray × Unit)) × (List (Int × Int × ByteArray × Unit)) × Bool × ByteArray × Unit) × Unit) := fun _ _ _ => none
def F26 (N : Nat) (p0 : Int × (Int × Int × ByteArray × Unit) × Int × Int × (Int × Int × ByteArray × Unit) × Int × (List (Int × Int × ByteArray × Unit)) × (List (Int × Int × ByteArray × Unit)) × Bool × ByteArray × Unit) : Option ((Int × (Int × Int × ByteArray × Unit) × Int × Int × (Int × Int × ByteArray × Unit) × Int × (List (Int × Int × ByteArray × Unit)) × (List (Int × Int × ByteArray × Unit)) × Bool × ByteArray × Unit) × Unit) :=
  bif decide ((((List.length ([] : List (Int × (Int × (ByteArray × Unit))))) + (List.length p0.2.2.2.2.2.2.1)) * 32) ≤ 140737488351232) then
    bif decide ((((List.length ([] : List (Int × (Int × (ByteArray × Unit))))) + (List.length p0.2.2.2.2.2.2.2.1)) * 32) ≤ 140737488351232) then
      some ((p0.1, (p0.2.1, (p0.2.2.1, (p0.2.2.2.1, (p0.2.2.2.2.1, (p0.2.2.2.2.2.1, ((([] : List (Int × (Int × (ByteArray × Unit)))) ++ p0.2.2.2.2.2.2.1), ((([] : List (Int × (Int × (ByteArray × Unit)))) ++ p0.2.2.2.2.2.2.2.1), p0.2.2.2.2.2.2.2.2)))))))), ())
    else
      none
  else
    none
theorem loops26 (N : Nat) : loopsOk C26 (L26 N) Go.Proofs.Tryd.f26 := ⟨trivial, ⟨trivial, ⟨trivial, ⟨trivial, trivial⟩⟩⟩⟩
theorem runs26 (N : Nat) (x : S26.ta.den) : run C26 S26 (L26 N) Go.Proofs.Tryd.f26 x = F26 N x.1 := by kernel_rfl

/-! ### 16: incognito/incognitoref11.Copy -/
def W16_3 {β : Type} (N : Nat) (x1 : (List (Int × (Int × Int × ByteArray × Unit) × Int × Int × (Int × Int × ByteArray × Unit) × Int × (List (Int × Int × ByteArray × Unit)) × (List (Int × Int × ByteArray × Unit)) × Bool × ByteArray × Unit)) → Option β) : Nat → (List (Int × (Int × Int × ByteArray × Unit) × Int × Int × (Int × Int × ByteArray × Unit) × Int × (List (Int × Int × ByteArray × Unit)) × (List (Int × Int × ByteArray × Unit)) × Bool × ByteArray × Unit)) → (List (Int × (Int × Int × ByteArray × Unit) × Int × Int × (Int × Int × ByteArray × Unit) × Int × (List (Int × Int × ByteArray × Unit)) × (List (Int × Int × ByteArray × Unit)) × Bool × ByteArray × Unit)) → Int → Option β
  | 0, _, _, _ => none
  | n + 1, t0, t3, t4 =>
  bif decide (t4 < (((List.length t0) : Nat) : Int)) then
    bif ((decide ((0 : Int) ≤ t4)) && (decide (t4 < (((List.length t0) : Nat) : Int)))) then
      bif (Go.Inc.okCopyE (List.getD t0 (Int.toNat t4) ((0 : Int), (((0 : Int), ((0 : Int), (ByteArray.empty, ()))), ((0 : Int), ((0 : Int), (((0 : Int), ((0 : Int), (ByteArray.empty, ()))), ((0 : Int), ([], ([], (false, (ByteArray.empty, ())))))))))))) then
        bif decide ((((List.length t3) + (List.length ((Go.Inc.copyE (List.getD t0 (Int.toNat t4) ((0 : Int), (((0 : Int), ((0 : Int), (ByteArray.empty, ()))), ((0 : Int), ((0 : Int), (((0 : Int), ((0 : Int), (ByteArray.empty, ()))), ((0 : Int), ([], ([], (false, (ByteArray.empty, ())))))))))))) :: ([] : List (Int × ((Int × (Int × (ByteArray × Unit))) × (Int × (Int × ((Int × (Int × (ByteArray × Unit))) × (Int × ((List (Int × (Int × (ByteArray × Unit)))) × ((List (Int × (Int × (ByteArray × Unit)))) × (Bool × (ByteArray × Unit)))))))))))))) * 168) ≤ 140737488351232) then
          W16_3 N x1 n t0 (t3 ++ ((Go.Inc.copyE (List.getD t0 (Int.toNat t4) ((0 : Int), (((0 : Int), ((0 : Int), (ByteArray.empty, ()))), ((0 : Int), ((0 : Int), (((0 : Int), ((0 : Int), (ByteArray.empty, ()))), ((0 : Int), ([], ([], (false, (ByteArray.empty, ())))))))))))) :: ([] : List (Int × ((Int × (Int × (ByteArray × Unit))) × (Int × (Int × ((Int × (Int × (ByteArray × Unit))) × (Int × ((List (Int × (Int × (ByteArray × Unit)))) × ((List (Int × (Int × (ByteArray × Unit)))) × (Bool × (ByteArray × Unit))))))))))))) (Go.IntKind.wrap .i64 (t4 + (1 : Int)))
        else
          none
      else
        none
    else
      none
  else
    x1 t3
def L16 (N : Nat) : Loops ((List (Int × (Int × Int × ByteArray × Unit) × Int × Int × (Int × Int × ByteArray × Unit) × Int × (List (Int × Int × ByteArray × Unit)) × (List (Int × Int × ByteArray × Unit)) × Bool × ByteArray × Unit)) × Unit) := fun k ρ K => match Nat.beq k 3 with
  | true => (match adH ρ H16_3.hd with
    | some v => W16_3 N (fun t3 => K (.exit 0) (encH [(6, (.sl (.pr (.int .i64) (.pr (.pr (.int .i64) (.pr (.int .i64) (.pr .str .un))) (.pr (.int .i64) (.pr (.int .i64) (.pr (.pr (.int .i64) (.pr (.int .i64) (.pr .str .un))) (.pr (.int .i64) (.pr (.sl (.pr (.int .i64) (.pr (.int .i64) (.pr .str .un)))) (.pr (.sl (.pr (.int .i64) (.pr (.int .i64) (.pr .str .un)))) (.pr .bool (.pr .str .un)))))))))) (.own 18)))] (t3, ()))) N v.1 v.2.1 v.2.2.1
    | none => none)
  | false => none
def F16 (N : Nat) (p0 : List (Int × (Int × Int × ByteArray × Unit) × Int × Int × (Int × Int × ByteArray × Unit) × Int × (List (Int × Int × ByteArray × Unit)) × (List (Int × Int × ByteArray × Unit)) × Bool × ByteArray × Unit)) : Option ((List (Int × (Int × Int × ByteArray × Unit) × Int × Int × (Int × Int × ByteArray × Unit) × Int × (List (Int × Int × ByteArray × Unit)) × (List (Int × Int × ByteArray × Unit)) × Bool × ByteArray × Unit)) × Unit) :=
  W16_3 N
    (fun t3 =>
      some (t3, ()))
    N p0 ([] : List (Int × ((Int × (Int × (ByteArray × Unit))) × (Int × (Int × ((Int × (Int × (ByteArray × Unit))) × (Int × ((List (Int × (Int × (ByteArray × Unit)))) × ((List (Int × (Int × (ByteArray × Unit)))) × (Bool × (ByteArray × Unit))))))))))) (0 : Int)
theorem loops16 (N : Nat) : loopsOk C16 (L16 N) Go.Proofs.Tryd.f16 := ⟨trivial, ⟨trivial, ⟨⟨trivial, ⟨loopOk_of H16_3 N (fun K n v => W16_3 N (fun t3 => K (.exit 0) (encH [(6, (.sl (.pr (.int .i64) (.pr (.pr (.int .i64) (.pr (.int .i64) (.pr .str .un))) (.pr (.int .i64) (.pr (.int .i64) (.pr (.pr (.int .i64) (.pr (.int .i64) (.pr .str .un))) (.pr (.int .i64) (.pr (.sl (.pr (.int .i64) (.pr (.int .i64) (.pr .str .un)))) (.pr (.sl (.pr (.int .i64) (.pr (.int .i64) (.pr .str .un)))) (.pr .bool (.pr .str .un)))))))))) (.own 18)))] (t3, ()))) n v.1 v.2.1 v.2.2.1) (by kernel_rfl) (fun K v => by kernel_rfl) (fun K v => by kernel_rfl) (fun K n v => by kernel_rfl), ⟨⟨trivial, ⟨trivial, trivial⟩⟩, ⟨trivial, trivial⟩⟩⟩⟩, ⟨trivial, trivial⟩⟩⟩⟩
theorem runs16 (N : Nat) (x : S16.ta.den) : run C16 S16 (L16 N) Go.Proofs.Tryd.f16 x = F16 N x.1 := by kernel_rfl

/-! ### 17: incognito/incognitoref10.Same -/
def L17 (_ : Nat) : Loops (Bool × Unit) := fun _ _ _ => none
def F17 (N : Nat) (p0 : Int × (Int × Int × ByteArray × Unit) × Int × Int × (Int × Int × ByteArray × Unit) × Int × (List (Int × Int × ByteArray × Unit)) × (List (Int × Int × ByteArray × Unit)) × Bool × ByteArray × Unit) (p1 : Int × (Int × Int × ByteArray × Unit) × Int × Int × (Int × Int × ByteArray × Unit) × Int × (List (Int × Int × ByteArray × Unit)) × (List (Int × Int × ByteArray × Unit)) × Bool × ByteArray × Unit) : Option (Bool × Unit) :=
  bif (p0.1 == p1.1) then
    bif ((p0.2.1.1 == p1.2.1.1) && ((p0.2.1.2.1 == p1.2.1.2.1) && ((p0.2.1.2.2.1 == p1.2.1.2.2.1) && true))) then
      bif (p0.2.2.1 == p1.2.2.1) then
        bif (p0.2.2.2.1 == p1.2.2.2.1) then
          bif ((p0.2.2.2.2.1.1 == p1.2.2.2.2.1.1) && ((p0.2.2.2.2.1.2.1 == p1.2.2.2.2.1.2.1) && ((p0.2.2.2.2.1.2.2.1 == p1.2.2.2.2.1.2.2.1) && true))) then
            bif (p0.2.2.2.2.2.1 == p1.2.2.2.2.2.1) then
              bif (Go.Inc.okSame2 p0.2.2.2.2.2.2.1 p1.2.2.2.2.2.2.1) then
              bif (Go.Inc.sameV p0.2.2.2.2.2.2.1 p1.2.2.2.2.2.2.1) then
              bif (Go.Inc.okSame2 p0.2.2.2.2.2.2.2.1 p1.2.2.2.2.2.2.2.1) then
              bif (Go.Inc.sameV p0.2.2.2.2.2.2.2.1 p1.2.2.2.2.2.2.2.1) then
              bif (p0.2.2.2.2.2.2.2.2.1 == p1.2.2.2.2.2.2.2.2.1) then
              some (((ByteArray.toList p0.2.2.2.2.2.2.2.2.2.1) == (ByteArray.toList p1.2.2.2.2.2.2.2.2.2.1)), ())
            else
              some (false, ())
            else
              some (false, ())
            else
              none
            else
              some (false, ())
            else
              none
            else
              some (false, ())
          else
            some (false, ())
        else
          some (false, ())
      else
        some (false, ())
    else
      some (false, ())
  else
    some (false, ())
theorem loops17 (N : Nat) : loopsOk C17 (L17 N) Go.Proofs.Tryd.f17 := ⟨trivial, ⟨trivial, trivial⟩⟩
theorem runs17 (N : Nat) (x : S17.ta.den) : run C17 S17 (L17 N) Go.Proofs.Tryd.f17 x = F17 N x.1 x.2.1 := by kernel_rfl

end Go.K12
