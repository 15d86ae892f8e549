/- The walks of package reg and its statements. Printed by a program of this session. -/
import Derived.Test.YtmodjpjeepobpaaDoorW0
set_option linter.unusedVariables false
set_option maxRecDepth 100000
namespace Go.L13
open Go Go.Abs Go.Inc

/-! ### 7: incognito/reg.New -/
def L7 (_ : Nat) : Loops ((Int × (Int × Int × ByteArray × Unit) × Int × (List (Int × Int × ByteArray × Unit)) × Unit) × Bool × Unit) := fun _ _ _ => none
def F7 (N : Nat) (p0 : Int) : Option ((Int × (Int × Int × ByteArray × Unit) × Int × (List (Int × Int × ByteArray × Unit)) × Unit) × Bool × Unit) :=
  bif (p0 == (1 : Int)) then
    bif (p0 == (1 : Int)) then
      some ((p0, (((0 : Int), ((0 : Int), (ByteArray.empty, ()))), ((0 : Int), (([] : List (Int × (Int × (ByteArray × Unit)))), ())))), (true, ()))
    else
      some (((0 : Int), (((0 : Int), ((0 : Int), (ByteArray.empty, ()))), ((0 : Int), (([] : List (Int × (Int × (ByteArray × Unit)))), ())))), (false, ()))
  else
    bif (p0 == (2 : Int)) then
      bif (p0 == (2 : Int)) then
        some ((p0, (((0 : Int), ((0 : Int), (ByteArray.empty, ()))), ((0 : Int), (([] : List (Int × (Int × (ByteArray × Unit)))), ())))), (true, ()))
      else
        some (((0 : Int), (((0 : Int), ((0 : Int), (ByteArray.empty, ()))), ((0 : Int), (([] : List (Int × (Int × (ByteArray × Unit)))), ())))), (false, ()))
    else
      bif (p0 == (9 : Int)) then
        some ((p0, (((0 : Int), ((0 : Int), (ByteArray.empty, ()))), ((0 : Int), (([] : List (Int × (Int × (ByteArray × Unit)))), ())))), (true, ()))
      else
        some (((0 : Int), (((0 : Int), ((0 : Int), (ByteArray.empty, ()))), ((0 : Int), (([] : List (Int × (Int × (ByteArray × Unit)))), ())))), (false, ()))
theorem loops7 (N : Nat) : loopsOk C7 (L7 N) Go.Proofs.Tryd.f7 := ⟨trivial, ⟨⟨trivial, ⟨⟨trivial, ⟨trivial, ⟨trivial, ⟨trivial, trivial⟩⟩⟩⟩, ⟨⟨trivial, trivial⟩, trivial⟩⟩⟩, ⟨trivial, trivial⟩⟩⟩
theorem runs7 (N : Nat) (x : S7.ta.den) : run C7 S7 (L7 N) Go.Proofs.Tryd.f7 x = F7 N x.1 := by kernel_rfl

/-! ### 33: incognito/value.Right -/
def L33 (_ : Nat) : Loops (Bool × Unit) := fun _ _ _ => none
def F33 (N : Nat) (p0 : Int × Int × ByteArray × Unit) : Option (Bool × Unit) :=
  bif (p0.1 == (0 : Int)) then
    some (((p0.1 == (0 : Int)) && ((p0.2.1 == (0 : Int)) && ((p0.2.2.1 == ByteArray.empty) && true))), ())
  else
    bif (p0.1 == (1 : Int)) then
      some (((ByteArray.toList p0.2.2.1) == (ByteArray.toList (strL []))), ())
    else
      bif (p0.1 == (2 : Int)) then
        bif (p0.2.1 == (0 : Int)) then
          bif (Go.Inc.okS p0.2.2.1) then
            some ((Go.Inc.isWord p0.2.2.1), ())
          else
            none
        else
          some (false, ())
      else
        bif ((p0.1 == (3 : Int)) && ((p0.2.1 == (1 : Int)) && ((p0.2.2.1 == ByteArray.empty) && true))) then
          some (true, ())
        else
          some (((p0.1 == (3 : Int)) && ((p0.2.1 == (0 : Int)) && ((p0.2.2.1 == ByteArray.empty) && true))), ())
theorem loops33 (N : Nat) : loopsOk C33 (L33 N) Go.Proofs.Tryd.f33 := ⟨trivial, ⟨⟨trivial, ⟨trivial, ⟨⟨trivial, trivial⟩, ⟨trivial, ⟨⟨trivial, trivial⟩, ⟨trivial, ⟨⟨trivial, trivial⟩, trivial⟩⟩⟩⟩⟩⟩⟩, ⟨trivial, trivial⟩⟩⟩
theorem runs33 (N : Nat) (x : S33.ta.den) : run C33 S33 (L33 N) Go.Proofs.Tryd.f33 x = F33 N x.1 := by kernel_rfl

/-! ### 22: incognito/sign.Takes -/
def L22 (_ : Nat) : Loops (Bool × Unit) := fun _ _ _ => none
def F22 (N : Nat) (p0 : Int) (p1 : Int × Int × ByteArray × Unit) : Option (Bool × Unit) :=
  bif (Go.Inc.okV p1) then
    bif (!(Go.Inc.right p1)) then
      some (false, ())
    else
      bif (p0 == (0 : Int)) then
        bif (p0 == (0 : Int)) then
          bif (p1.1 == (1 : Int)) then
            some (true, ())
          else
            some ((p1.1 == (2 : Int)), ())
        else
          bif (p0 == (5 : Int)) then
            some ((p1.1 == (1 : Int)), ())
          else
            bif (p0 == (6 : Int)) then
              some ((p1.1 == (3 : Int)), ())
            else
              some (false, ())
      else
        bif (p0 == (1 : Int)) then
          bif (p0 == (1 : Int)) then
            bif (p1.1 == (1 : Int)) then
              some (true, ())
            else
              some ((p1.1 == (2 : Int)), ())
          else
            bif (p0 == (5 : Int)) then
              some ((p1.1 == (1 : Int)), ())
            else
              bif (p0 == (6 : Int)) then
              some ((p1.1 == (3 : Int)), ())
            else
              some (false, ())
        else
          bif (p0 == (2 : Int)) then
            bif (p0 == (2 : Int)) then
              bif (p1.1 == (1 : Int)) then
              some (true, ())
            else
              some ((p1.1 == (2 : Int)), ())
            else
              bif (p0 == (5 : Int)) then
              some ((p1.1 == (1 : Int)), ())
            else
              bif (p0 == (6 : Int)) then
              some ((p1.1 == (3 : Int)), ())
            else
              some (false, ())
          else
            bif (p0 == (3 : Int)) then
              bif (p0 == (3 : Int)) then
              bif (p1.1 == (1 : Int)) then
              some (true, ())
            else
              some ((p1.1 == (2 : Int)), ())
            else
              bif (p0 == (5 : Int)) then
              some ((p1.1 == (1 : Int)), ())
            else
              bif (p0 == (6 : Int)) then
              some ((p1.1 == (3 : Int)), ())
            else
              some (false, ())
            else
              bif (p0 == (4 : Int)) then
              bif (p1.1 == (1 : Int)) then
              some (true, ())
            else
              some ((p1.1 == (2 : Int)), ())
            else
              bif (p0 == (5 : Int)) then
              some ((p1.1 == (1 : Int)), ())
            else
              bif (p0 == (6 : Int)) then
              some ((p1.1 == (3 : Int)), ())
            else
              some (false, ())
  else
    none
theorem loops22 (N : Nat) : loopsOk C22 (L22 N) Go.Proofs.Tryd.f22 := ⟨trivial, ⟨⟨trivial, ⟨⟨trivial, trivial⟩, trivial⟩⟩, ⟨⟨trivial, ⟨⟨trivial, ⟨trivial, ⟨trivial, ⟨trivial, ⟨trivial, ⟨trivial, ⟨trivial, ⟨trivial, trivial⟩⟩⟩⟩⟩⟩⟩⟩, ⟨⟨trivial, trivial⟩, ⟨trivial, ⟨⟨trivial, trivial⟩, trivial⟩⟩⟩⟩⟩, ⟨trivial, trivial⟩⟩⟩⟩
theorem runs22 (N : Nat) (x : S22.ta.den) : run C22 S22 (L22 N) Go.Proofs.Tryd.f22 x = F22 N x.1 x.2.1 := by kernel_rfl

/-! ### 40: incognito/sign.find$1 -/
def L40 (_ : Nat) : Loops (HS.den X40.hout) := fun _ _ _ => none
def F40 (N : Nat) (t0a : Int) (t0ba : Int) (t0bba : ByteArray) (t0bbba : Int) (t0bbbba : Bool) (b1000a : Int) (b1001a : Int) : Option (HS.den X40.hout) :=
  bif (t0a == b1000a) then
    some ((t0ba == b1001a), ((b1000a, ()), ((b1001a, ()), ())))
  else
    some (false, ((b1000a, ()), ((b1001a, ()), ())))
theorem loops40 (N : Nat) : loopsOk C40 (L40 N) Go.Proofs.Tryd.f40 := ⟨trivial, ⟨trivial, trivial⟩⟩
theorem runs40 (N : Nat) (x : HS.den X40.hin) : runX C40 X40 (L40 N) Go.Proofs.Tryd.f40 x = F40 N x.1.1 x.1.2.1 x.1.2.2.1 x.1.2.2.2.1 x.1.2.2.2.2.1 x.2.2.2.1.1 x.2.2.2.2.1.1 := by kernel_rfl

/-! ### 23: incognito/sign.Fits -/
def W23_5 {β : Type} (N : Nat) (x0 : Bool → Option β) (x1 : Unit → Option β) : Nat → (List (Int × Int × ByteArray × Unit)) → (List Int) → Int → Int → Option β
  | 0, _, _, _, _ => none
  | n + 1, t2, t26, t27, t28 =>
  bif decide (t28 < t27) then
    bif ((decide ((0 : Int) ≤ t28)) && (decide (t28 < (((List.length t26) : Nat) : Int)))) then
      bif ((decide ((0 : Int) ≤ t28)) && (decide (t28 < (((List.length t2) : Nat) : Int)))) then
        bif (Go.Inc.okT (List.getD t26 (Int.toNat t28) (0 : Int)) (List.getD t2 (Int.toNat t28) ((0 : Int), ((0 : Int), (ByteArray.empty, ()))))) then
          bif (!(Go.Inc.takes (List.getD t26 (Int.toNat t28) (0 : Int)) (List.getD t2 (Int.toNat t28) ((0 : Int), ((0 : Int), (ByteArray.empty, ())))))) then
            x0 false
          else
            W23_5 N x0 x1 n t2 t26 t27 (Go.IntKind.wrap .i64 (t28 + (1 : Int)))
        else
          none
      else
        none
    else
      none
  else
    x1 ()
def L23 (N : Nat) : Loops (Bool × Unit) := fun k ρ K => match Nat.beq k 5 with
  | true => (match adH ρ H23_5.hd with
    | some v => W23_5 N (fun t6 => K .ret (encH [(12, .bo)] (t6, ()))) (fun _ => K (.exit 0) (encH [] ())) N v.1 v.2.1 v.2.2.1 v.2.2.2.1
    | none => none)
  | false => none
def F23 (N : Nat) (p0 : Int) (p1 : Int) (p2 : List (Int × Int × ByteArray × Unit)) : Option (Bool × Unit) :=
  bif (!(((Go.Inc.argsGo p0 p1).2).1)) then
    some (false, ())
  else
    bif ((((List.length ((Go.Inc.argsGo p0 p1).1)) : Nat) : Int) != (((List.length p2) : Nat) : Int)) then
      some (false, ())
    else
      W23_5 N
        (fun t6 =>
          some (t6, ()))
        (fun (_ : Unit) =>
          some (true, ()))
        N p2 ((Go.Inc.argsGo p0 p1).1) (((List.length ((Go.Inc.argsGo p0 p1).1)) : Nat) : Int) (0 : Int)
theorem loops23 (N : Nat) : loopsOk C23 (L23 N) Go.Proofs.Tryd.f23 := ⟨trivial, ⟨trivial, ⟨⟨trivial, ⟨⟨trivial, trivial⟩, trivial⟩⟩, ⟨⟨trivial, ⟨loopOk_of H23_5 N (fun K n v => W23_5 N (fun t6 => K .ret (encH [(12, .bo)] (t6, ()))) (fun _ => K (.exit 0) (encH [] ())) n v.1 v.2.1 v.2.2.1 v.2.2.2.1) (by kernel_rfl) (fun K v => by kernel_rfl) (fun K v => by kernel_rfl) (fun K n v => by kernel_rfl), ⟨trivial, ⟨⟨trivial, trivial⟩, ⟨⟨trivial, ⟨trivial, ⟨⟨trivial, trivial⟩, trivial⟩⟩⟩, trivial⟩⟩⟩⟩⟩, ⟨trivial, trivial⟩⟩⟩⟩⟩
theorem runs23 (N : Nat) (x : S23.ta.den) : run C23 S23 (L23 N) Go.Proofs.Tryd.f23 x = F23 N x.1 x.2.1 x.2.2.1 := by kernel_rfl

/-! ### 25: (*incognito/reg.cell).read -/
def L25 (_ : Nat) : Loops (HS.den X25.hout) := fun _ _ _ => none
def F25 (N : Nat) (t1 : List (Int × Int × ByteArray × Unit)) (b1000a : Int) (b1000ba : Int) (b1000bba : Int) (b1000bbba : ByteArray) (b1000bbbba : Int) (b1000bbbbba : List (Int × Int × ByteArray × Unit)) : Option (HS.den X25.hout) :=
  some (((b1000ba, (b1000bba, (b1000bbba, ()))) :: ([] : List (Int × (Int × (ByteArray × Unit))))), ((b1000a, (b1000ba, (b1000bba, (b1000bbba, (b1000bbbba, (b1000bbbbba, ())))))), ()))
theorem loops25 (N : Nat) : loopsOk C25 (L25 N) Go.Proofs.Tryd.f25 := ⟨trivial, ⟨trivial, trivial⟩⟩
theorem runs25 (N : Nat) (x : HS.den X25.hin) : runX C25 X25 (L25 N) Go.Proofs.Tryd.f25 x = F25 N x.2.1 x.2.2.1.1 x.2.2.1.2.1 x.2.2.1.2.2.1 x.2.2.1.2.2.2.1 x.2.2.1.2.2.2.2.1 x.2.2.1.2.2.2.2.2.1 := by kernel_rfl

/-! ### 43: cmp.Or[int] -/
def W43_3 {β : Type} (N : Nat) (x0 : Int → Option β) (x1 : Int → Option β) : Nat → Int → (List Int) → Int → Int → Option β
  | 0, _, _, _, _ => none
  | n + 1, t3, t6, t7, t8 =>
  bif decide (t8 < t7) then
    bif ((decide ((0 : Int) ≤ t8)) && (decide (t8 < (((List.length t6) : Nat) : Int)))) then
      bif ((List.getD t6 (Int.toNat t8) (0 : Int)) != t3) then
        x0 (List.getD t6 (Int.toNat t8) (0 : Int))
      else
        W43_3 N x0 x1 n t3 t6 t7 (Go.IntKind.wrap .i64 (t8 + (1 : Int)))
    else
      none
  else
    x1 t3
def L43 (N : Nat) : Loops (Int × Unit) := fun k ρ K => match Nat.beq k 3 with
  | true => (match adH ρ H43_3.hd with
    | some v => W43_3 N (fun t2 => K .ret (encH [(4, (.i .i64))] (t2, ()))) (fun t3 => K (.exit 0) (encH [(6, (.i .i64))] (t3, ()))) N v.1 v.2.1 v.2.2.1 v.2.2.2.1
    | none => none)
  | false => none
def F43 (N : Nat) (p0 : List Int) : Option (Int × Unit) :=
  W43_3 N
    (fun t2 =>
      some (t2, ()))
    (fun t3 =>
      some (t3, ()))
    N (0 : Int) p0 (((List.length p0) : Nat) : Int) (0 : Int)
theorem loops43 (N : Nat) : loopsOk C43 (L43 N) Go.Proofs.Tryd.f43 := ⟨trivial, ⟨trivial, ⟨⟨trivial, ⟨loopOk_of H43_3 N (fun K n v => W43_3 N (fun t2 => K .ret (encH [(4, (.i .i64))] (t2, ()))) (fun t3 => K (.exit 0) (encH [(6, (.i .i64))] (t3, ()))) n v.1 v.2.1 v.2.2.1 v.2.2.2.1) (by kernel_rfl) (fun K v => by kernel_rfl) (fun K v => by kernel_rfl) (fun K n v => by kernel_rfl), ⟨trivial, ⟨⟨trivial, trivial⟩, ⟨⟨trivial, ⟨trivial, ⟨⟨trivial, trivial⟩, trivial⟩⟩⟩, trivial⟩⟩⟩⟩⟩, ⟨trivial, trivial⟩⟩⟩⟩
theorem runs43 (N : Nat) (x : S43.ta.den) : run C43 S43 (L43 N) Go.Proofs.Tryd.f43 x = F43 N x.1 := by kernel_rfl

/-! ### 51: cmp.isNaN[int64] -/
def L51 (_ : Nat) : Loops (Bool × Unit) := fun _ _ _ => none
def F51 (N : Nat) (p0 : Int) : Option (Bool × Unit) :=
  some ((p0 != p0), ())
theorem loops51 (N : Nat) : loopsOk C51 (L51 N) Go.Proofs.Tryd.f51 := ⟨trivial, ⟨trivial, trivial⟩⟩
theorem runs51 (N : Nat) (x : S51.ta.den) : run C51 S51 (L51 N) Go.Proofs.Tryd.f51 x = F51 N x.1 := by kernel_rfl

/-! ### 45: cmp.Compare[int64] -/
def L45 (_ : Nat) : Loops (Int × Unit) := fun _ _ _ => none
def F45 (N : Nat) (p0 : Int) (p1 : Int) : Option (Int × Unit) :=
  bif decide (p0 < p1) then
    some ((-(1 : Int)), ())
  else
    bif decide (p0 > p1) then
      some ((1 : Int), ())
    else
      some ((0 : Int), ())
theorem loops45 (N : Nat) : loopsOk C45 (L45 N) Go.Proofs.Tryd.f45 := ⟨trivial, ⟨trivial, ⟨trivial, ⟨⟨trivial, ⟨⟨⟨trivial, ⟨⟨trivial, trivial⟩, trivial⟩⟩, ⟨trivial, trivial⟩⟩, trivial⟩⟩, ⟨⟨trivial, ⟨⟨trivial, trivial⟩, trivial⟩⟩, ⟨⟨trivial, ⟨⟨trivial, trivial⟩, trivial⟩⟩, ⟨⟨trivial, ⟨⟨trivial, trivial⟩, trivial⟩⟩, ⟨trivial, trivial⟩⟩⟩⟩⟩⟩⟩⟩
theorem runs45 (N : Nat) (x : S45.ta.den) : run C45 S45 (L45 N) Go.Proofs.Tryd.f45 x = F45 N x.1 x.2.1 := by kernel_rfl

/-! ### 12: incognito/reg.Step -/
def L12 (_ : Nat) : Loops ((Int × (Int × Int × ByteArray × Unit) × Int × (List (Int × Int × ByteArray × Unit)) × Unit) × (List (Int × Int × ByteArray × Unit)) × Bool × Unit) := fun _ _ _ => none
def F12 (N : Nat) (p0 : Int × (Int × Int × ByteArray × Unit) × Int × (List (Int × Int × ByteArray × Unit)) × Unit) (p1 : Int × Int × ByteArray × Unit) (p2 : Int) (p3 : List (Int × Int × ByteArray × Unit)) : Option ((Int × (Int × Int × ByteArray × Unit) × Int × (List (Int × Int × ByteArray × Unit)) × Unit) × (List (Int × Int × ByteArray × Unit)) × Bool × Unit) :=
  bif (!(((Go.Inc.regNew p0.1).2).1)) then
    some (((0 : Int), (((0 : Int), ((0 : Int), (ByteArray.empty, ()))), ((0 : Int), (([] : List (Int × (Int × (ByteArray × Unit)))), ())))), (([] : List (Int × (Int × (ByteArray × Unit)))), (false, ())))
  else
    bif (Go.Inc.okT (0 : Int) p1) then
      bif (!(Go.Inc.takes (0 : Int) p1)) then
        some (((0 : Int), (((0 : Int), ((0 : Int), (ByteArray.empty, ()))), ((0 : Int), (([] : List (Int × (Int × (ByteArray × Unit)))), ())))), (([] : List (Int × (Int × (ByteArray × Unit)))), (false, ())))
      else
        bif (Go.Inc.okF p0.1 p2 p3) then
          bif (!(Go.Inc.fits p0.1 p2 p3)) then
            some (((0 : Int), (((0 : Int), ((0 : Int), (ByteArray.empty, ()))), ((0 : Int), (([] : List (Int × (Int × (ByteArray × Unit)))), ())))), (([] : List (Int × (Int × (ByteArray × Unit)))), (false, ())))
          else
            bif (p2 == (2 : Int)) then
              some (((((Go.Inc.cellRead p3 (p0.1, (p0.2.1.1, (p0.2.1.2.1, (p0.2.1.2.2.1, p0.2.2))))).2).1).1, ((((((Go.Inc.cellRead p3 (p0.1, (p0.2.1.1, (p0.2.1.2.1, (p0.2.1.2.2.1, p0.2.2))))).2).1).2).1, ((((((Go.Inc.cellRead p3 (p0.1, (p0.2.1.1, (p0.2.1.2.1, (p0.2.1.2.2.1, p0.2.2))))).2).1).2).2).1, (((((((Go.Inc.cellRead p3 (p0.1, (p0.2.1.1, (p0.2.1.2.1, (p0.2.1.2.2.1, p0.2.2))))).2).1).2).2).2).1, ()))), ((((((Go.Inc.cellRead p3 (p0.1, (p0.2.1.1, (p0.2.1.2.1, (p0.2.1.2.2.1, p0.2.2))))).2).1).2).2).2).2)), ((Go.Inc.cellRead p3 (p0.1, (p0.2.1.1, (p0.2.1.2.1, (p0.2.1.2.2.1, p0.2.2))))).1, (true, ())))
            else
              bif (p2 == (3 : Int)) then
              bif (Go.Inc.okCell 2 p3) then
              some (((((Go.Inc.cellSwap p3 (p0.1, (p0.2.1.1, (p0.2.1.2.1, (p0.2.1.2.2.1, p0.2.2))))).2).1).1, ((((((Go.Inc.cellSwap p3 (p0.1, (p0.2.1.1, (p0.2.1.2.1, (p0.2.1.2.2.1, p0.2.2))))).2).1).2).1, ((((((Go.Inc.cellSwap p3 (p0.1, (p0.2.1.1, (p0.2.1.2.1, (p0.2.1.2.2.1, p0.2.2))))).2).1).2).2).1, (((((((Go.Inc.cellSwap p3 (p0.1, (p0.2.1.1, (p0.2.1.2.1, (p0.2.1.2.2.1, p0.2.2))))).2).1).2).2).2).1, ()))), ((((((Go.Inc.cellSwap p3 (p0.1, (p0.2.1.1, (p0.2.1.2.1, (p0.2.1.2.2.1, p0.2.2))))).2).1).2).2).2).2)), ((Go.Inc.cellSwap p3 (p0.1, (p0.2.1.1, (p0.2.1.2.1, (p0.2.1.2.2.1, p0.2.2))))).1, (true, ())))
            else
              none
            else
              bif (p0.1 == (9 : Int)) then
              bif (Go.Inc.okCell 1 p3) then
              some (((((Go.Inc.cellRaise p3 (p0.1, (p0.2.1.1, (p0.2.1.2.1, (p0.2.1.2.2.1, p0.2.2))))).2).1).1, ((((((Go.Inc.cellRaise p3 (p0.1, (p0.2.1.1, (p0.2.1.2.1, (p0.2.1.2.2.1, p0.2.2))))).2).1).2).1, ((((((Go.Inc.cellRaise p3 (p0.1, (p0.2.1.1, (p0.2.1.2.1, (p0.2.1.2.2.1, p0.2.2))))).2).1).2).2).1, (((((((Go.Inc.cellRaise p3 (p0.1, (p0.2.1.1, (p0.2.1.2.1, (p0.2.1.2.2.1, p0.2.2))))).2).1).2).2).2).1, ()))), ((((((Go.Inc.cellRaise p3 (p0.1, (p0.2.1.1, (p0.2.1.2.1, (p0.2.1.2.2.1, p0.2.2))))).2).1).2).2).2).2)), ((Go.Inc.cellRaise p3 (p0.1, (p0.2.1.1, (p0.2.1.2.1, (p0.2.1.2.2.1, p0.2.2))))).1, (true, ())))
            else
              none
            else
              bif (Go.Inc.okCell 1 p3) then
              some (((((Go.Inc.cellWrite p3 (p0.1, (p0.2.1.1, (p0.2.1.2.1, (p0.2.1.2.2.1, p0.2.2))))).2).1).1, ((((((Go.Inc.cellWrite p3 (p0.1, (p0.2.1.1, (p0.2.1.2.1, (p0.2.1.2.2.1, p0.2.2))))).2).1).2).1, ((((((Go.Inc.cellWrite p3 (p0.1, (p0.2.1.1, (p0.2.1.2.1, (p0.2.1.2.2.1, p0.2.2))))).2).1).2).2).1, (((((((Go.Inc.cellWrite p3 (p0.1, (p0.2.1.1, (p0.2.1.2.1, (p0.2.1.2.2.1, p0.2.2))))).2).1).2).2).2).1, ()))), ((((((Go.Inc.cellWrite p3 (p0.1, (p0.2.1.1, (p0.2.1.2.1, (p0.2.1.2.2.1, p0.2.2))))).2).1).2).2).2).2)), ((Go.Inc.cellWrite p3 (p0.1, (p0.2.1.1, (p0.2.1.2.1, (p0.2.1.2.2.1, p0.2.2))))).1, (true, ())))
            else
              none
        else
          none
    else
      none
theorem loops12 (N : Nat) : loopsOk C12 (L12 N) Go.Proofs.Tryd.f12 := ⟨trivial, ⟨trivial, ⟨⟨trivial, ⟨⟨trivial, trivial⟩, trivial⟩⟩, ⟨trivial, ⟨trivial, ⟨⟨trivial, ⟨trivial, ⟨trivial, ⟨trivial, ⟨trivial, ⟨trivial, trivial⟩⟩⟩⟩⟩⟩, ⟨trivial, ⟨trivial, trivial⟩⟩⟩⟩⟩⟩⟩⟩
theorem runs12 (N : Nat) (x : S12.ta.den) : run C12 S12 (L12 N) Go.Proofs.Tryd.f12 x = F12 N x.1 x.2.1 x.2.2.1 x.2.2.2.1 := by kernel_rfl

/-! ### 6: incognito/incognitolaw13.wakes -/
def L6 (_ : Nat) : Loops (Bool × Unit) := fun _ _ _ => none
def F6 (N : Nat) : Option (Bool × Unit) :=
  some ((Go.Inc.sameV (((Go.Inc.regStep ((Go.Inc.regNew (2 : Int)).1) (Go.Inc.num' (1 : Int)) (3 : Int) ((Go.Inc.num' (1 : Int)) :: ((Go.Inc.num' (2 : Int)) :: ([] : List (Int × (Int × (ByteArray × Unit))))))).2).1) (((3 : Int), ((0 : Int), (ByteArray.empty, ()))) :: ([] : List (Int × (Int × (ByteArray × Unit)))))), ())
theorem loops6 (N : Nat) : loopsOk C6 (L6 N) Go.Proofs.Tryd.f6 := ⟨trivial, ⟨trivial, ⟨trivial, ⟨trivial, ⟨trivial, ⟨trivial, ⟨trivial, ⟨trivial, ⟨trivial, trivial⟩⟩⟩⟩⟩⟩⟩⟩⟩
theorem runs6 (N : Nat) (x : S6.ta.den) : run C6 S6 (L6 N) Go.Proofs.Tryd.f6 x = F6 N := by kernel_rfl

/-! ### 8: incognito/incognitolaw13.own -/
def L8 (_ : Nat) : Loops (Bool × Unit) := fun _ _ _ => none
def F8 (N : Nat) (p0 : Int) : Option (Bool × Unit) :=
  bif (p0 == (1 : Int)) then
    some (true, ())
  else
    bif (p0 == (2 : Int)) then
      some (true, ())
    else
      some ((p0 == (9 : Int)), ())
theorem loops8 (N : Nat) : loopsOk C8 (L8 N) Go.Proofs.Tryd.f8 := ⟨trivial, ⟨trivial, trivial⟩⟩
theorem runs8 (N : Nat) (x : S8.ta.den) : run C8 S8 (L8 N) Go.Proofs.Tryd.f8 x = F8 N x.1 := by kernel_rfl

/-! ### 48: incognito/incognitoref09.OpName -/
def L48 (_ : Nat) : Loops (ByteArray × Unit) := fun _ _ _ => none
def F48 (N : Nat) (p0 : Int) : Option (ByteArray × Unit) :=
  bif (p0 == (1 : Int)) then
    some ((strL [119, 114, 105, 116, 101]), ())
  else
    bif (p0 == (2 : Int)) then
      some ((strL [114, 101, 97, 100]), ())
    else
      bif (p0 == (3 : Int)) then
        some ((strL [115, 119, 97, 112]), ())
      else
        bif (p0 == (4 : Int)) then
          some ((strL [97, 100, 100]), ())
        else
          bif (p0 == (5 : Int)) then
            some ((strL [100, 101, 108]), ())
          else
            bif (p0 == (6 : Int)) then
              some ((strL [104, 97, 115]), ())
            else
              bif (p0 == (7 : Int)) then
              some ((strL [112, 117, 116]), ())
            else
              bif (p0 == (8 : Int)) then
              some ((strL [103, 101, 116]), ())
            else
              bif (p0 == (9 : Int)) then
              some ((strL [112, 117, 115, 104]), ())
            else
              bif (p0 == (10 : Int)) then
              some ((strL [112, 111, 112]), ())
            else
              bif (p0 == (11 : Int)) then
              some ((strL [116, 97, 107, 101]), ())
            else
              bif (p0 == (12 : Int)) then
              some ((strL [102, 114, 101, 101]), ())
            else
              bif (p0 == (13 : Int)) then
              some ((strL [115, 99, 97, 110]), ())
            else
              some ((strL []), ())
theorem loops48 (N : Nat) : loopsOk C48 (L48 N) Go.Proofs.Tryd.f48 := ⟨trivial, ⟨⟨trivial, ⟨trivial, ⟨⟨trivial, trivial⟩, ⟨trivial, ⟨⟨trivial, trivial⟩, ⟨trivial, ⟨⟨trivial, trivial⟩, ⟨trivial, ⟨⟨trivial, trivial⟩, ⟨trivial, ⟨⟨trivial, trivial⟩, ⟨trivial, ⟨⟨trivial, trivial⟩, ⟨trivial, ⟨⟨trivial, trivial⟩, ⟨trivial, ⟨⟨trivial, trivial⟩, ⟨trivial, ⟨⟨trivial, trivial⟩, ⟨trivial, ⟨⟨trivial, trivial⟩, ⟨trivial, ⟨⟨trivial, trivial⟩, ⟨trivial, ⟨⟨trivial, trivial⟩, ⟨trivial, ⟨⟨trivial, trivial⟩, trivial⟩⟩⟩⟩⟩⟩⟩⟩⟩⟩⟩⟩⟩⟩⟩⟩⟩⟩⟩⟩⟩⟩⟩⟩⟩⟩⟩, ⟨trivial, trivial⟩⟩⟩
theorem runs48 (N : Nat) (x : S48.ta.den) : run C48 S48 (L48 N) Go.Proofs.Tryd.f48 x = F48 N x.1 := by kernel_rfl

/-! ### 28: incognito/incognitoref09.Fits -/
def W28_5 {β : Type} (N : Nat) (x0 : Bool → Option β) (x1 : Unit → Option β) : Nat → (List (Int × Int × ByteArray × Unit)) → (List Int) → Int → Bool → Bool → Int → Option β
  | 0, _, _, _, _, _, _ => none
  | n + 1, t2, b7a, b7ba, b7bba, b7bbba, t8 =>
  bif decide (t8 < (((List.length t2) : Nat) : Int)) then
    bif ((decide ((0 : Int) ≤ t8)) && (decide (t8 < (((List.length b7a) : Nat) : Int)))) then
      bif ((decide ((0 : Int) ≤ t8)) && (decide (t8 < (((List.length t2) : Nat) : Int)))) then
        bif (Go.Inc.okT (List.getD b7a (Int.toNat t8) (0 : Int)) (List.getD t2 (Int.toNat t8) ((0 : Int), ((0 : Int), (ByteArray.empty, ()))))) then
          bif (!(Go.Inc.takes (List.getD b7a (Int.toNat t8) (0 : Int)) (List.getD t2 (Int.toNat t8) ((0 : Int), ((0 : Int), (ByteArray.empty, ())))))) then
            x0 false
          else
            W28_5 N x0 x1 n t2 b7a b7ba b7bba b7bbba (Go.IntKind.wrap .i64 (t8 + (1 : Int)))
        else
          none
      else
        none
    else
      none
  else
    x1 ()
def L28 (N : Nat) : Loops (Bool × Unit) := fun k ρ K => match Nat.beq k 5 with
  | true => (match adH ρ H28_5.hd with
    | some v => W28_5 N (fun t6 => K .ret (encH [(12, .bo)] (t6, ()))) (fun _ => K (.exit 0) (encH [] ())) N v.1 v.2.2.1.1 v.2.2.1.2.1 v.2.2.1.2.2.1 v.2.2.1.2.2.2.1 v.2.2.2.1
    | none => none)
  | false => none
def F28 (N : Nat) (p0 : Int) (p1 : Int) (p2 : List (Int × Int × ByteArray × Unit)) : Option (Bool × Unit) :=
  bif (!(((((Go.Inc.signRef p0 p1).2).2).2).1)) then
    some (false, ())
  else
    bif ((((List.length p2) : Nat) : Int) != (((List.length ((Go.Inc.signRef p0 p1).1)) : Nat) : Int)) then
      some (false, ())
    else
      W28_5 N
        (fun t6 =>
          some (t6, ()))
        (fun (_ : Unit) =>
          some (true, ()))
        N p2 ((Go.Inc.signRef p0 p1).1) (((Go.Inc.signRef p0 p1).2).1) ((((Go.Inc.signRef p0 p1).2).2).1) (((((Go.Inc.signRef p0 p1).2).2).2).1) (0 : Int)
theorem loops28 (N : Nat) : loopsOk C28 (L28 N) Go.Proofs.Tryd.f28 := ⟨trivial, ⟨trivial, ⟨⟨trivial, ⟨⟨trivial, trivial⟩, trivial⟩⟩, ⟨⟨trivial, ⟨loopOk_of H28_5 N (fun K n v => W28_5 N (fun t6 => K .ret (encH [(12, .bo)] (t6, ()))) (fun _ => K (.exit 0) (encH [] ())) n v.1 v.2.2.1.1 v.2.2.1.2.1 v.2.2.1.2.2.1 v.2.2.1.2.2.2.1 v.2.2.2.1) (by kernel_rfl) (fun K v => by kernel_rfl) (fun K v => by kernel_rfl) (fun K n v => by kernel_rfl), ⟨⟨trivial, ⟨trivial, trivial⟩⟩, ⟨⟨trivial, ⟨⟨trivial, trivial⟩, trivial⟩⟩, trivial⟩⟩⟩⟩, ⟨trivial, trivial⟩⟩⟩⟩⟩
theorem runs28 (N : Nat) (x : S28.ta.den) : run C28 S28 (L28 N) Go.Proofs.Tryd.f28 x = F28 N x.1 x.2.1 x.2.2.1 := by kernel_rfl

/-! ### 4: incognito/incognitolaw13.RegRises -/
def W4_19 {β : Type} (N : Nat) (x3 : (List (Int × Int × ByteArray × Unit)) → Int → Int → ByteArray → Int → Int → Int → ByteArray → Int → (List (Int × Int × ByteArray × Unit)) → Int → Int → ByteArray → Int → Int → Int → ByteArray → Int → (List (Int × Int × ByteArray × Unit)) → (List (Int × Int × ByteArray × Unit)) → Bool → (List (Int × Int × ByteArray × Unit)) → Int → Int → Option β) : Nat → (List (Int × Int × ByteArray × Unit)) → Int → Int → ByteArray → Int → Int → Int → ByteArray → Int → (List (Int × Int × ByteArray × Unit)) → Int → Int → ByteArray → Int → Int → Int → ByteArray → Int → (List (Int × Int × ByteArray × Unit)) → (List (Int × Int × ByteArray × Unit)) → Bool → (List (Int × Int × ByteArray × Unit)) → Int → Int → (List (Int × Int × ByteArray × Unit)) → Int → Int → Option β
  | 0, _, _, _, _, _, _, _, _, _, _, _, _, _, _, _, _, _, _, _, _, _, _, _, _, _, _, _ => none
  | n + 1, t0, b3a, b3ba, b3bba, b4a, b4ba, b4bba, b4bbba, b4bbbba, b4bbbbba, b6a, b6ba, b6bba, b9a, b9ba, b9bba, b9bbba, b9bbbba, b9bbbbba, t13, t15, t29, t30, t31, t89, t90, t91 =>
  bif decide (t91 < t90) then
    bif ((decide ((0 : Int) ≤ t91)) && (decide (t91 < (((List.length t89) : Nat) : Int)))) then
      bif t15 then
        W4_19 N x3 n t0 b3a b3ba b3bba b4a b4ba b4bba b4bbba b4bbbba b4bbbbba b6a b6ba b6bba b9a b9ba b9bba b9bbba b9bbbba b9bbbbba t13 true t29 t30 t31 t89 t90 (Go.IntKind.wrap .i64 (t91 + (1 : Int)))
      else
        bif ((decide ((0 : Int) ≤ (0 : Int))) && (decide ((0 : Int) < (((List.length t13) : Nat) : Int)))) then
          W4_19 N x3 n t0 b3a b3ba b3bba b4a b4ba b4bba b4bbba b4bbbba b4bbbbba b6a b6ba b6bba b9a b9ba b9bba b9bbba b9bbbba b9bbbbba t13 ((((List.getD t89 (Int.toNat t91) ((0 : Int), ((0 : Int), (ByteArray.empty, ())))).1) == ((List.getD t13 (Int.toNat (0 : Int)) ((0 : Int), ((0 : Int), (ByteArray.empty, ())))).1)) && (((((List.getD t89 (Int.toNat t91) ((0 : Int), ((0 : Int), (ByteArray.empty, ())))).2).1) == (((List.getD t13 (Int.toNat (0 : Int)) ((0 : Int), ((0 : Int), (ByteArray.empty, ())))).2).1)) && ((((((List.getD t89 (Int.toNat t91) ((0 : Int), ((0 : Int), (ByteArray.empty, ())))).2).2).1) == ((((List.getD t13 (Int.toNat (0 : Int)) ((0 : Int), ((0 : Int), (ByteArray.empty, ())))).2).2).1)) && true))) t29 t30 t31 t89 t90 (Go.IntKind.wrap .i64 (t91 + (1 : Int)))
        else
          none
    else
      none
  else
    x3 t0 b3a b3ba b3bba b4a b4ba b4bba b4bbba b4bbbba b4bbbbba b6a b6ba b6bba b9a b9ba b9bba b9bbba b9bbbba b9bbbbba t13 t15 t29 t30 t31
def W4_9 {β : Type} (N : Nat) (x0 : Bool → Option β) (x1 : Unit → Option β) : Nat → (List (Int × Int × ByteArray × Unit)) → Int → Int → ByteArray → Int → Int → Int → ByteArray → Int → (List (Int × Int × ByteArray × Unit)) → Int → Int → ByteArray → (List (Int × Int × ByteArray × Unit)) → Int → Int → Option β
  | 0, _, _, _, _, _, _, _, _, _, _, _, _, _, _, _, _ => none
  | n + 1, t0, b3a, b3ba, b3bba, b4a, b4ba, b4bba, b4bbba, b4bbbba, b4bbbbba, b6a, b6ba, b6bba, t29, t30, t31 =>
  bif decide (t31 < t30) then
    bif ((decide ((0 : Int) ≤ t31)) && (decide (t31 < (((List.length t29) : Nat) : Int)))) then
      bif decide ((((ByteArray.size ((((List.getD t29 (Int.toNat t31) ((0 : Int), ((0 : Int), (ByteArray.empty, ())))).2).2).1)) : Nat) : Int) > (100 : Int)) then
        x0 true
      else
        bif (Go.Inc.okV (List.getD t29 (Int.toNat t31) ((0 : Int), ((0 : Int), (ByteArray.empty, ()))))) then
          bif (!(Go.Inc.name (List.getD t29 (Int.toNat t31) ((0 : Int), ((0 : Int), (ByteArray.empty, ())))))) then
            x0 true
          else
            bif (Go.Inc.okQStep (b4a, ((b4ba, (b4bba, (b4bbba, ()))), (b4bbbba, (b4bbbbba, ())))) (b3a, (b3ba, (b3bba, ()))) (1 : Int) ((List.getD t29 (Int.toNat t31) ((0 : Int), ((0 : Int), (ByteArray.empty, ())))) :: ([] : List (Int × (Int × (ByteArray × Unit)))))) then
              bif (Go.Inc.okQStep ((Go.Inc.regStep (b4a, ((b4ba, (b4bba, (b4bbba, ()))), (b4bbbba, (b4bbbbba, ())))) (b3a, (b3ba, (b3bba, ()))) (1 : Int) ((List.getD t29 (Int.toNat t31) ((0 : Int), ((0 : Int), (ByteArray.empty, ())))) :: ([] : List (Int × (Int × (ByteArray × Unit)))))).1) (b3a, (b3ba, (b3bba, ()))) (2 : Int) ([] : List (Int × (Int × (ByteArray × Unit))))) then
              bif (!((((Go.Inc.regStep (b4a, ((b4ba, (b4bba, (b4bbba, ()))), (b4bbbba, (b4bbbbba, ())))) (b3a, (b3ba, (b3bba, ()))) (1 : Int) ((List.getD t29 (Int.toNat t31) ((0 : Int), ((0 : Int), (ByteArray.empty, ())))) :: ([] : List (Int × (Int × (ByteArray × Unit)))))).2).2).1)) then
              x0 false
            else
              bif (!((((Go.Inc.regStep ((Go.Inc.regStep (b4a, ((b4ba, (b4bba, (b4bbba, ()))), (b4bbbba, (b4bbbbba, ())))) (b3a, (b3ba, (b3bba, ()))) (1 : Int) ((List.getD t29 (Int.toNat t31) ((0 : Int), ((0 : Int), (ByteArray.empty, ())))) :: ([] : List (Int × (Int × (ByteArray × Unit)))))).1) (b3a, (b3ba, (b3bba, ()))) (2 : Int) ([] : List (Int × (Int × (ByteArray × Unit))))).2).2).1)) then
              x0 false
            else
              bif ((((List.length (((Go.Inc.regStep ((Go.Inc.regStep (b4a, ((b4ba, (b4bba, (b4bbba, ()))), (b4bbbba, (b4bbbbba, ())))) (b3a, (b3ba, (b3bba, ()))) (1 : Int) ((List.getD t29 (Int.toNat t31) ((0 : Int), ((0 : Int), (ByteArray.empty, ())))) :: ([] : List (Int × (Int × (ByteArray × Unit)))))).1) (b3a, (b3ba, (b3bba, ()))) (2 : Int) ([] : List (Int × (Int × (ByteArray × Unit))))).2).1)) : Nat) : Int) != (1 : Int)) then
              x0 false
            else
              bif ((decide ((0 : Int) ≤ (0 : Int))) && (decide ((0 : Int) < (((List.length (((Go.Inc.regStep ((Go.Inc.regStep (b4a, ((b4ba, (b4bba, (b4bbba, ()))), (b4bbbba, (b4bbbbba, ())))) (b3a, (b3ba, (b3bba, ()))) (1 : Int) ((List.getD t29 (Int.toNat t31) ((0 : Int), ((0 : Int), (ByteArray.empty, ())))) :: ([] : List (Int × (Int × (ByteArray × Unit)))))).1) (b3a, (b3ba, (b3bba, ()))) (2 : Int) ([] : List (Int × (Int × (ByteArray × Unit))))).2).1)) : Nat) : Int)))) then
              bif (Go.Inc.lessV (List.getD (((Go.Inc.regStep ((Go.Inc.regStep (b4a, ((b4ba, (b4bba, (b4bbba, ()))), (b4bbbba, (b4bbbbba, ())))) (b3a, (b3ba, (b3bba, ()))) (1 : Int) ((List.getD t29 (Int.toNat t31) ((0 : Int), ((0 : Int), (ByteArray.empty, ())))) :: ([] : List (Int × (Int × (ByteArray × Unit)))))).1) (b3a, (b3ba, (b3bba, ()))) (2 : Int) ([] : List (Int × (Int × (ByteArray × Unit))))).2).1) (Int.toNat (0 : Int)) ((0 : Int), ((0 : Int), (ByteArray.empty, ())))) (b6a, (b6ba, (b6bba, ())))) then
              x0 false
            else
              bif ((decide ((0 : Int) ≤ (0 : Int))) && (decide ((0 : Int) < (((List.length (((Go.Inc.regStep ((Go.Inc.regStep (b4a, ((b4ba, (b4bba, (b4bbba, ()))), (b4bbbba, (b4bbbbba, ())))) (b3a, (b3ba, (b3bba, ()))) (1 : Int) ((List.getD t29 (Int.toNat t31) ((0 : Int), ((0 : Int), (ByteArray.empty, ())))) :: ([] : List (Int × (Int × (ByteArray × Unit)))))).1) (b3a, (b3ba, (b3bba, ()))) (2 : Int) ([] : List (Int × (Int × (ByteArray × Unit))))).2).1)) : Nat) : Int)))) then
              bif (Go.Inc.lessV (List.getD (((Go.Inc.regStep ((Go.Inc.regStep (b4a, ((b4ba, (b4bba, (b4bbba, ()))), (b4bbbba, (b4bbbbba, ())))) (b3a, (b3ba, (b3bba, ()))) (1 : Int) ((List.getD t29 (Int.toNat t31) ((0 : Int), ((0 : Int), (ByteArray.empty, ())))) :: ([] : List (Int × (Int × (ByteArray × Unit)))))).1) (b3a, (b3ba, (b3bba, ()))) (2 : Int) ([] : List (Int × (Int × (ByteArray × Unit))))).2).1) (Int.toNat (0 : Int)) ((0 : Int), ((0 : Int), (ByteArray.empty, ())))) (List.getD t29 (Int.toNat t31) ((0 : Int), ((0 : Int), (ByteArray.empty, ()))))) then
              x0 false
            else
              bif ((decide ((0 : Int) ≤ (0 : Int))) && ((decide ((0 : Int) ≤ (Go.IntKind.wrap .i64 (t31 + (1 : Int))))) && (decide ((Go.IntKind.wrap .i64 (t31 + (1 : Int))) ≤ (((List.length t0) : Nat) : Int))))) then
              W4_19 N
              (fun t0 b3a b3ba b3bba b4a b4ba b4bba b4bbba b4bbbba b4bbbbba b6a b6ba b6bba b9a b9ba b9bba b9bbba b9bbbba b9bbbbba t13 t15 t29 t30 t31 =>
                bif (!t15) then
              x0 false
            else
              bif ((decide ((0 : Int) ≤ (0 : Int))) && (decide ((0 : Int) < (((List.length t13) : Nat) : Int)))) then
              W4_9 N x0 x1 n t0 b3a b3ba b3bba b9a b9ba b9bba b9bbba b9bbbba b9bbbbba ((List.getD t13 (Int.toNat (0 : Int)) ((0 : Int), ((0 : Int), (ByteArray.empty, ())))).1) (((List.getD t13 (Int.toNat (0 : Int)) ((0 : Int), ((0 : Int), (ByteArray.empty, ())))).2).1) ((((List.getD t13 (Int.toNat (0 : Int)) ((0 : Int), ((0 : Int), (ByteArray.empty, ())))).2).2).1) t29 t30 (Go.IntKind.wrap .i64 (t31 + (1 : Int)))
            else
              none)
              N t0 b3a b3ba b3bba b4a b4ba b4bba b4bbba b4bbbba b4bbbbba b6a b6ba b6bba (((Go.Inc.regStep (b4a, ((b4ba, (b4bba, (b4bbba, ()))), (b4bbbba, (b4bbbbba, ())))) (b3a, (b3ba, (b3bba, ()))) (1 : Int) ((List.getD t29 (Int.toNat t31) ((0 : Int), ((0 : Int), (ByteArray.empty, ())))) :: ([] : List (Int × (Int × (ByteArray × Unit)))))).1).1) (((((Go.Inc.regStep (b4a, ((b4ba, (b4bba, (b4bbba, ()))), (b4bbbba, (b4bbbbba, ())))) (b3a, (b3ba, (b3bba, ()))) (1 : Int) ((List.getD t29 (Int.toNat t31) ((0 : Int), ((0 : Int), (ByteArray.empty, ())))) :: ([] : List (Int × (Int × (ByteArray × Unit)))))).1).2).1).1) ((((((Go.Inc.regStep (b4a, ((b4ba, (b4bba, (b4bbba, ()))), (b4bbbba, (b4bbbbba, ())))) (b3a, (b3ba, (b3bba, ()))) (1 : Int) ((List.getD t29 (Int.toNat t31) ((0 : Int), ((0 : Int), (ByteArray.empty, ())))) :: ([] : List (Int × (Int × (ByteArray × Unit)))))).1).2).1).2).1) (((((((Go.Inc.regStep (b4a, ((b4ba, (b4bba, (b4bbba, ()))), (b4bbbba, (b4bbbbba, ())))) (b3a, (b3ba, (b3bba, ()))) (1 : Int) ((List.getD t29 (Int.toNat t31) ((0 : Int), ((0 : Int), (ByteArray.empty, ())))) :: ([] : List (Int × (Int × (ByteArray × Unit)))))).1).2).1).2).2).1) (((((Go.Inc.regStep (b4a, ((b4ba, (b4bba, (b4bbba, ()))), (b4bbbba, (b4bbbbba, ())))) (b3a, (b3ba, (b3bba, ()))) (1 : Int) ((List.getD t29 (Int.toNat t31) ((0 : Int), ((0 : Int), (ByteArray.empty, ())))) :: ([] : List (Int × (Int × (ByteArray × Unit)))))).1).2).2).1) ((((((Go.Inc.regStep (b4a, ((b4ba, (b4bba, (b4bbba, ()))), (b4bbbba, (b4bbbbba, ())))) (b3a, (b3ba, (b3bba, ()))) (1 : Int) ((List.getD t29 (Int.toNat t31) ((0 : Int), ((0 : Int), (ByteArray.empty, ())))) :: ([] : List (Int × (Int × (ByteArray × Unit)))))).1).2).2).2).1) (((Go.Inc.regStep ((Go.Inc.regStep (b4a, ((b4ba, (b4bba, (b4bbba, ()))), (b4bbbba, (b4bbbbba, ())))) (b3a, (b3ba, (b3bba, ()))) (1 : Int) ((List.getD t29 (Int.toNat t31) ((0 : Int), ((0 : Int), (ByteArray.empty, ())))) :: ([] : List (Int × (Int × (ByteArray × Unit)))))).1) (b3a, (b3ba, (b3bba, ()))) (2 : Int) ([] : List (Int × (Int × (ByteArray × Unit))))).2).1) false t29 t30 t31 (Go.Abs.sub t0 (0 : Int) (Go.IntKind.wrap .i64 (t31 + (1 : Int)))) (((List.length (Go.Abs.sub t0 (0 : Int) (Go.IntKind.wrap .i64 (t31 + (1 : Int))))) : Nat) : Int) (0 : Int)
            else
              none
            else
              none
            else
              none
            else
              none
            else
              none
        else
          none
    else
      none
  else
    x1 ()
def L4 (N : Nat) : Loops (Bool × Unit) := fun k ρ K => match Nat.beq k 19 with
  | true => (match adH ρ H4_19.hd with
    | some v => W4_19 N (fun t0 b3a b3ba b3bba b4a b4ba b4bba b4bbba b4bbbba b4bbbbba b6a b6ba b6bba b9a b9ba b9bba b9bbba b9bbbba b9bbbbba t13 t15 t29 t30 t31 => K (.exit 2) (encH [(0, (.sl (.pr (.int .i64) (.pr (.int .i64) (.pr .str .un))) .no)), (6, (.bx 3 0)), (7, (.pr (.i .i64) (.pr (.i .i64) (.pr .st .un)))), (8, (.bx 4 0)), (9, (.pr (.i .i64) (.pr (.i .i64) (.pr (.i .i64) (.pr .st (.pr (.i .i64) (.pr (.sl (.pr (.int .i64) (.pr (.int .i64) (.pr .str .un))) .no) .un))))))), (12, (.bx 6 0)), (13, (.pr (.i .i64) (.pr (.i .i64) (.pr .st .un)))), (18, (.bx 9 0)), (19, (.pr (.i .i64) (.pr (.i .i64) (.pr (.i .i64) (.pr .st (.pr (.i .i64) (.pr (.sl (.pr (.int .i64) (.pr (.int .i64) (.pr .str .un))) .no) .un))))))), (26, (.sl (.pr (.int .i64) (.pr (.int .i64) (.pr .str .un))) .no)), (30, .bo), (58, (.sl (.pr (.int .i64) (.pr (.int .i64) (.pr .str .un))) .no)), (60, (.i .i64)), (62, (.i .i64))] (t0, ((), ((b3a, (b3ba, (b3bba, ()))), ((), ((b4a, (b4ba, (b4bba, (b4bbba, (b4bbbba, (b4bbbbba, ())))))), ((), ((b6a, (b6ba, (b6bba, ()))), ((), ((b9a, (b9ba, (b9bba, (b9bbba, (b9bbbba, (b9bbbbba, ())))))), (t13, (t15, (t29, (t30, (t31, ())))))))))))))))) N v.1 v.2.2.1.1 v.2.2.1.2.1 v.2.2.1.2.2.1 v.2.2.2.2.1.1 v.2.2.2.2.1.2.1 v.2.2.2.2.1.2.2.1 v.2.2.2.2.1.2.2.2.1 v.2.2.2.2.1.2.2.2.2.1 v.2.2.2.2.1.2.2.2.2.2.1 v.2.2.2.2.2.2.1.1 v.2.2.2.2.2.2.1.2.1 v.2.2.2.2.2.2.1.2.2.1 v.2.2.2.2.2.2.2.2.1.1 v.2.2.2.2.2.2.2.2.1.2.1 v.2.2.2.2.2.2.2.2.1.2.2.1 v.2.2.2.2.2.2.2.2.1.2.2.2.1 v.2.2.2.2.2.2.2.2.1.2.2.2.2.1 v.2.2.2.2.2.2.2.2.1.2.2.2.2.2.1 v.2.2.2.2.2.2.2.2.2.1 v.2.2.2.2.2.2.2.2.2.2.1 v.2.2.2.2.2.2.2.2.2.2.2.1 v.2.2.2.2.2.2.2.2.2.2.2.2.1 v.2.2.2.2.2.2.2.2.2.2.2.2.2.1 v.2.2.2.2.2.2.2.2.2.2.2.2.2.2.1 v.2.2.2.2.2.2.2.2.2.2.2.2.2.2.2.1 v.2.2.2.2.2.2.2.2.2.2.2.2.2.2.2.2.1
    | none => none)
  | false => match Nat.beq k 9 with
  | true => (match adH ρ H4_9.hd with
    | some v => W4_9 N (fun t2 => K .ret (encH [(4, .bo)] (t2, ()))) (fun _ => K (.exit 0) (encH [] ())) N v.1 v.2.2.1.1 v.2.2.1.2.1 v.2.2.1.2.2.1 v.2.2.2.2.1.1 v.2.2.2.2.1.2.1 v.2.2.2.2.1.2.2.1 v.2.2.2.2.1.2.2.2.1 v.2.2.2.2.1.2.2.2.2.1 v.2.2.2.2.1.2.2.2.2.2.1 v.2.2.2.2.2.2.1.1 v.2.2.2.2.2.2.1.2.1 v.2.2.2.2.2.2.1.2.2.1 v.2.2.2.2.2.2.2.1 v.2.2.2.2.2.2.2.2.1 v.2.2.2.2.2.2.2.2.2.1
    | none => none)
  | false => none
def F4 (N : Nat) (p0 : List (Int × Int × ByteArray × Unit)) : Option (Bool × Unit) :=
  bif decide ((((List.length p0) : Nat) : Int) > (40 : Int)) then
    some (true, ())
  else
    W4_9 N
      (fun t2 =>
        some (t2, ()))
      (fun (_ : Unit) =>
        some (true, ()))
      N p0 ((Go.Inc.num' (1 : Int)).1) (((Go.Inc.num' (1 : Int)).2).1) ((((Go.Inc.num' (1 : Int)).2).2).1) (((Go.Inc.regNew (9 : Int)).1).1) (((((Go.Inc.regNew (9 : Int)).1).2).1).1) ((((((Go.Inc.regNew (9 : Int)).1).2).1).2).1) (((((((Go.Inc.regNew (9 : Int)).1).2).1).2).2).1) (((((Go.Inc.regNew (9 : Int)).1).2).2).1) ((((((Go.Inc.regNew (9 : Int)).1).2).2).2).1) (0 : Int) (0 : Int) ByteArray.empty p0 (((List.length p0) : Nat) : Int) (0 : Int)
theorem loops4 (N : Nat) : loopsOk C4 (L4 N) Go.Proofs.Tryd.f4 := ⟨trivial, ⟨⟨trivial, ⟨⟨trivial, trivial⟩, trivial⟩⟩, ⟨⟨trivial, ⟨⟨trivial, trivial⟩, trivial⟩⟩, ⟨trivial, ⟨trivial, ⟨trivial, ⟨⟨trivial, ⟨loopOk_of H4_9 N (fun K n v => W4_9 N (fun t2 => K .ret (encH [(4, .bo)] (t2, ()))) (fun _ => K (.exit 0) (encH [] ())) n v.1 v.2.2.1.1 v.2.2.1.2.1 v.2.2.1.2.2.1 v.2.2.2.2.1.1 v.2.2.2.2.1.2.1 v.2.2.2.2.1.2.2.1 v.2.2.2.2.1.2.2.2.1 v.2.2.2.2.1.2.2.2.2.1 v.2.2.2.2.1.2.2.2.2.2.1 v.2.2.2.2.2.2.1.1 v.2.2.2.2.2.2.1.2.1 v.2.2.2.2.2.2.1.2.2.1 v.2.2.2.2.2.2.2.1 v.2.2.2.2.2.2.2.2.1 v.2.2.2.2.2.2.2.2.2.1) (by kernel_rfl) (fun K v => by kernel_rfl) (fun K v => by kernel_rfl) (fun K n v => by kernel_rfl), ⟨trivial, ⟨⟨trivial, trivial⟩, ⟨⟨trivial, ⟨⟨trivial, ⟨⟨trivial, trivial⟩, trivial⟩⟩, ⟨trivial, ⟨trivial, ⟨⟨trivial, ⟨⟨trivial, trivial⟩, trivial⟩⟩, ⟨trivial, ⟨⟨trivial, ⟨loopOk_of H4_19 N (fun K n v => W4_19 N (fun t0 b3a b3ba b3bba b4a b4ba b4bba b4bbba b4bbbba b4bbbbba b6a b6ba b6bba b9a b9ba b9bba b9bbba b9bbbba b9bbbbba t13 t15 t29 t30 t31 => K (.exit 2) (encH [(0, (.sl (.pr (.int .i64) (.pr (.int .i64) (.pr .str .un))) .no)), (6, (.bx 3 0)), (7, (.pr (.i .i64) (.pr (.i .i64) (.pr .st .un)))), (8, (.bx 4 0)), (9, (.pr (.i .i64) (.pr (.i .i64) (.pr (.i .i64) (.pr .st (.pr (.i .i64) (.pr (.sl (.pr (.int .i64) (.pr (.int .i64) (.pr .str .un))) .no) .un))))))), (12, (.bx 6 0)), (13, (.pr (.i .i64) (.pr (.i .i64) (.pr .st .un)))), (18, (.bx 9 0)), (19, (.pr (.i .i64) (.pr (.i .i64) (.pr (.i .i64) (.pr .st (.pr (.i .i64) (.pr (.sl (.pr (.int .i64) (.pr (.int .i64) (.pr .str .un))) .no) .un))))))), (26, (.sl (.pr (.int .i64) (.pr (.int .i64) (.pr .str .un))) .no)), (30, .bo), (58, (.sl (.pr (.int .i64) (.pr (.int .i64) (.pr .str .un))) .no)), (60, (.i .i64)), (62, (.i .i64))] (t0, ((), ((b3a, (b3ba, (b3bba, ()))), ((), ((b4a, (b4ba, (b4bba, (b4bbba, (b4bbbba, (b4bbbbba, ())))))), ((), ((b6a, (b6ba, (b6bba, ()))), ((), ((b9a, (b9ba, (b9bba, (b9bbba, (b9bbbba, (b9bbbbba, ())))))), (t13, (t15, (t29, (t30, (t31, ())))))))))))))))) n v.1 v.2.2.1.1 v.2.2.1.2.1 v.2.2.1.2.2.1 v.2.2.2.2.1.1 v.2.2.2.2.1.2.1 v.2.2.2.2.1.2.2.1 v.2.2.2.2.1.2.2.2.1 v.2.2.2.2.1.2.2.2.2.1 v.2.2.2.2.1.2.2.2.2.2.1 v.2.2.2.2.2.2.1.1 v.2.2.2.2.2.2.1.2.1 v.2.2.2.2.2.2.1.2.2.1 v.2.2.2.2.2.2.2.2.1.1 v.2.2.2.2.2.2.2.2.1.2.1 v.2.2.2.2.2.2.2.2.1.2.2.1 v.2.2.2.2.2.2.2.2.1.2.2.2.1 v.2.2.2.2.2.2.2.2.1.2.2.2.2.1 v.2.2.2.2.2.2.2.2.1.2.2.2.2.2.1 v.2.2.2.2.2.2.2.2.2.1 v.2.2.2.2.2.2.2.2.2.2.1 v.2.2.2.2.2.2.2.2.2.2.2.1 v.2.2.2.2.2.2.2.2.2.2.2.2.1 v.2.2.2.2.2.2.2.2.2.2.2.2.2.1 v.2.2.2.2.2.2.2.2.2.2.2.2.2.2.1 v.2.2.2.2.2.2.2.2.2.2.2.2.2.2.2.1 v.2.2.2.2.2.2.2.2.2.2.2.2.2.2.2.2.1) (by kernel_rfl) (fun K v => by kernel_rfl) (fun K v => by kernel_rfl) (fun K n v => by kernel_rfl), ⟨trivial, ⟨⟨trivial, trivial⟩, ⟨⟨trivial, trivial⟩, trivial⟩⟩⟩⟩⟩, ⟨⟨trivial, ⟨⟨trivial, trivial⟩, trivial⟩⟩, ⟨trivial, trivial⟩⟩⟩⟩⟩⟩⟩⟩⟩, trivial⟩⟩⟩⟩⟩, ⟨trivial, trivial⟩⟩⟩⟩⟩⟩⟩⟩
theorem runs4 (N : Nat) (x : S4.ta.den) : run C4 S4 (L4 N) Go.Proofs.Tryd.f4 x = F4 N x.1 := by kernel_rfl

end Go.L13
