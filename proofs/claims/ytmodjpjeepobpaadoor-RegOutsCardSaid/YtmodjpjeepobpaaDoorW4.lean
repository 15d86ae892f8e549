/- The walks of package reg and its statements. Printed by a program of this session. -/
import Derived.Test.YtmodjpjeepobpaaDoorW0
set_option linter.unusedVariables false
set_option maxRecDepth 100000
namespace Go.L13
open Go Go.Abs Go.Inc

/-! ### 7: incognito/reg.New -/
def L7 (_ : Nat) : Loops ((Int × (Int × Int × ByteArray × Unit) × Int × (List (Int × Int × ByteArray × Unit)) × Unit) × Bool × Unit) := fun _ _ _ => none
def F7 (N : Nat) (p0 : Int) : Option ((Int × (Int × Int × ByteArray × Unit) × Int × (List (Int × Int × ByteArray × Unit)) × Unit) × Bool × Unit) :=
  bif (p0 == (1 : Int)) then
    bif (p0 == (1 : Int)) then
      some ((p0, (((0 : Int), ((0 : Int), (ByteArray.empty, ()))), ((0 : Int), (([] : List (Int × (Int × (ByteArray × Unit)))), ())))), (true, ()))
    else
      some (((0 : Int), (((0 : Int), ((0 : Int), (ByteArray.empty, ()))), ((0 : Int), (([] : List (Int × (Int × (ByteArray × Unit)))), ())))), (false, ()))
  else
    bif (p0 == (2 : Int)) then
      bif (p0 == (2 : Int)) then
        some ((p0, (((0 : Int), ((0 : Int), (ByteArray.empty, ()))), ((0 : Int), (([] : List (Int × (Int × (ByteArray × Unit)))), ())))), (true, ()))
      else
        some (((0 : Int), (((0 : Int), ((0 : Int), (ByteArray.empty, ()))), ((0 : Int), (([] : List (Int × (Int × (ByteArray × Unit)))), ())))), (false, ()))
    else
      bif (p0 == (9 : Int)) then
        some ((p0, (((0 : Int), ((0 : Int), (ByteArray.empty, ()))), ((0 : Int), (([] : List (Int × (Int × (ByteArray × Unit)))), ())))), (true, ()))
      else
        some (((0 : Int), (((0 : Int), ((0 : Int), (ByteArray.empty, ()))), ((0 : Int), (([] : List (Int × (Int × (ByteArray × Unit)))), ())))), (false, ()))
theorem loops7 (N : Nat) : loopsOk C7 (L7 N) Go.Proofs.Tryd.f7 := ⟨trivial, ⟨⟨trivial, ⟨⟨trivial, ⟨trivial, ⟨trivial, ⟨trivial, trivial⟩⟩⟩⟩, ⟨⟨trivial, trivial⟩, trivial⟩⟩⟩, ⟨trivial, trivial⟩⟩⟩
theorem runs7 (N : Nat) (x : S7.ta.den) : run C7 S7 (L7 N) Go.Proofs.Tryd.f7 x = F7 N x.1 := by kernel_rfl

/-! ### 22: incognito/sign.Takes -/
def L22 (_ : Nat) : Loops (Bool × Unit) := fun _ _ _ => none
def F22 (N : Nat) (p0 : Int) (p1 : Int × Int × ByteArray × Unit) : Option (Bool × Unit) :=
  bif (Go.Inc.okV p1) then
    bif (!(Go.Inc.right p1)) then
      some (false, ())
    else
      bif (p0 == (0 : Int)) then
        bif (p0 == (0 : Int)) then
          bif (p1.1 == (1 : Int)) then
            some (true, ())
          else
            some ((p1.1 == (2 : Int)), ())
        else
          bif (p0 == (5 : Int)) then
            some ((p1.1 == (1 : Int)), ())
          else
            bif (p0 == (6 : Int)) then
              some ((p1.1 == (3 : Int)), ())
            else
              some (false, ())
      else
        bif (p0 == (1 : Int)) then
          bif (p0 == (1 : Int)) then
            bif (p1.1 == (1 : Int)) then
              some (true, ())
            else
              some ((p1.1 == (2 : Int)), ())
          else
            bif (p0 == (5 : Int)) then
              some ((p1.1 == (1 : Int)), ())
            else
              bif (p0 == (6 : Int)) then
              some ((p1.1 == (3 : Int)), ())
            else
              some (false, ())
        else
          bif (p0 == (2 : Int)) then
            bif (p0 == (2 : Int)) then
              bif (p1.1 == (1 : Int)) then
              some (true, ())
            else
              some ((p1.1 == (2 : Int)), ())
            else
              bif (p0 == (5 : Int)) then
              some ((p1.1 == (1 : Int)), ())
            else
              bif (p0 == (6 : Int)) then
              some ((p1.1 == (3 : Int)), ())
            else
              some (false, ())
          else
            bif (p0 == (3 : Int)) then
              bif (p0 == (3 : Int)) then
              bif (p1.1 == (1 : Int)) then
              some (true, ())
            else
              some ((p1.1 == (2 : Int)), ())
            else
              bif (p0 == (5 : Int)) then
              some ((p1.1 == (1 : Int)), ())
            else
              bif (p0 == (6 : Int)) then
              some ((p1.1 == (3 : Int)), ())
            else
              some (false, ())
            else
              bif (p0 == (4 : Int)) then
              bif (p1.1 == (1 : Int)) then
              some (true, ())
            else
              some ((p1.1 == (2 : Int)), ())
            else
              bif (p0 == (5 : Int)) then
              some ((p1.1 == (1 : Int)), ())
            else
              bif (p0 == (6 : Int)) then
              some ((p1.1 == (3 : Int)), ())
            else
              some (false, ())
  else
    none
theorem loops22 (N : Nat) : loopsOk C22 (L22 N) Go.Proofs.Tryd.f22 := ⟨trivial, ⟨⟨trivial, ⟨⟨trivial, trivial⟩, trivial⟩⟩, ⟨⟨trivial, ⟨⟨trivial, ⟨trivial, ⟨trivial, ⟨trivial, ⟨trivial, ⟨trivial, ⟨trivial, ⟨trivial, trivial⟩⟩⟩⟩⟩⟩⟩⟩, ⟨⟨trivial, trivial⟩, ⟨trivial, ⟨⟨trivial, trivial⟩, trivial⟩⟩⟩⟩⟩, ⟨trivial, trivial⟩⟩⟩⟩
theorem runs22 (N : Nat) (x : S22.ta.den) : run C22 S22 (L22 N) Go.Proofs.Tryd.f22 x = F22 N x.1 x.2.1 := by kernel_rfl

/-! ### 34: incognito/sign.Args -/
def W34_6 {β : Type} (N : Nat) (x1 : (List Int) → Option β) : Nat → Int → Int → ByteArray → Int → Bool → (List Int) → Int → Int → Option β
  | 0, _, _, _, _, _, _, _, _ => none
  | n + 1, b6a, b6ba, b6bba, b6bbba, b6bbbba, t8, t20, t21 =>
  bif decide (t21 < t20) then
    bif ((decide ((0 : Int) ≤ t21)) && (decide (t21 < (((ByteArray.size b6bba) : Nat) : Int)))) then
      bif decide ((((List.length t8) + (List.length ((Go.Inc.domain (((UInt8.toNat (List.getD (Array.toList (ByteArray.data b6bba)) (Int.toNat t21) (0 : UInt8))) : Nat) : Int)) :: ([] : List Int)))) * 8) ≤ 140737488351232) then
        W34_6 N x1 n b6a b6ba b6bba b6bbba b6bbbba (t8 ++ ((Go.Inc.domain (((UInt8.toNat (List.getD (Array.toList (ByteArray.data b6bba)) (Int.toNat t21) (0 : UInt8))) : Nat) : Int)) :: ([] : List Int))) t20 (Go.IntKind.wrap .i64 (t21 + (1 : Int)))
      else
        none
    else
      none
  else
    x1 t8
def L34 (N : Nat) : Loops ((List Int) × Bool × Unit) := fun k ρ K => match Nat.beq k 6 with
  | true => (match adH ρ H34_6.hd with
    | some v => W34_6 N (fun t8 => K (.exit 0) (encH [(16, (.sl (.int .i64) (.own 31)))] (t8, ()))) N v.2.1.1 v.2.1.2.1 v.2.1.2.2.1 v.2.1.2.2.2.1 v.2.1.2.2.2.2.1 v.2.2.1 v.2.2.2.1 v.2.2.2.2.1
    | none => none)
  | false => none
def F34 (N : Nat) (p0 : Int) (p1 : Int) : Option ((List Int) × Bool × Unit) :=
  bif (!(((Go.Inc.findGo p0 p1).2).1)) then
    some (([] : List Int), (false, ()))
  else
    W34_6 N
      (fun t8 =>
        some (t8, (true, ())))
      N (((Go.Inc.findGo p0 p1).1).1) ((((Go.Inc.findGo p0 p1).1).2).1) (((((Go.Inc.findGo p0 p1).1).2).2).1) ((((((Go.Inc.findGo p0 p1).1).2).2).2).1) (((((((Go.Inc.findGo p0 p1).1).2).2).2).2).1) ([] : List Int) (((ByteArray.size (((((Go.Inc.findGo p0 p1).1).2).2).1)) : Nat) : Int) (0 : Int)
theorem loops34 (N : Nat) : loopsOk C34 (L34 N) Go.Proofs.Tryd.f34 := ⟨trivial, ⟨trivial, ⟨⟨trivial, ⟨⟨trivial, trivial⟩, trivial⟩⟩, ⟨trivial, ⟨⟨trivial, ⟨loopOk_of H34_6 N (fun K n v => W34_6 N (fun t8 => K (.exit 0) (encH [(16, (.sl (.int .i64) (.own 31)))] (t8, ()))) n v.2.1.1 v.2.1.2.1 v.2.1.2.2.1 v.2.1.2.2.2.1 v.2.1.2.2.2.2.1 v.2.2.1 v.2.2.2.1 v.2.2.2.2.1) (by kernel_rfl) (fun K v => by kernel_rfl) (fun K v => by kernel_rfl) (fun K n v => by kernel_rfl), ⟨trivial, ⟨⟨trivial, trivial⟩, ⟨⟨trivial, trivial⟩, trivial⟩⟩⟩⟩⟩, ⟨trivial, trivial⟩⟩⟩⟩⟩⟩
theorem runs34 (N : Nat) (x : S34.ta.den) : run C34 S34 (L34 N) Go.Proofs.Tryd.f34 x = F34 N x.1 x.2.1 := by kernel_rfl

/-! ### 25x: (*incognito/reg.cell).read -/
def L25x (_ : Nat) : Loops (HS.den X25x.hout) := fun _ _ _ => none
def F25x (N : Nat) (t1 : List (Int × Int × ByteArray × Unit)) (b1000a : Int) (b1000ba : Int) (b1000bba : Int) (b1000bbba : ByteArray) (b1000bbbba : Int) (b1000bbbbba : List (Int × Int × ByteArray × Unit)) : Option (HS.den X25x.hout) :=
  some ((List.length ((b1000ba, (b1000bba, (b1000bbba, ()))) :: ([] : List (Int × (Int × (ByteArray × Unit)))))), ((b1000a, (b1000ba, (b1000bba, (b1000bbba, (b1000bbbba, (b1000bbbbba, ())))))), (((b1000ba, (b1000bba, (b1000bbba, ()))) :: ([] : List (Int × (Int × (ByteArray × Unit))))), ())))
theorem loops25x (N : Nat) : loopsOk C25x (L25x N) Go.Proofs.Tryd.f25 := ⟨trivial, ⟨trivial, trivial⟩⟩
theorem runs25x (N : Nat) (x : HS.den X25x.hin) : runX C25x X25x (L25x N) Go.Proofs.Tryd.f25 x = F25x N x.2.1 x.2.2.1.1 x.2.2.1.2.1 x.2.2.1.2.2.1 x.2.2.1.2.2.2.1 x.2.2.1.2.2.2.2.1 x.2.2.1.2.2.2.2.2.1 := by kernel_rfl

/-! ### 27: (*incognito/reg.cell).raise -/
def L27 (_ : Nat) : Loops (HS.den X27.hout) := fun _ _ _ => none
def F27 (N : Nat) (t1 : List (Int × Int × ByteArray × Unit)) (b1000a : Int) (b1000ba : Int) (b1000bba : Int) (b1000bbba : ByteArray) (b1000bbbba : Int) (b1000bbbbba : List (Int × Int × ByteArray × Unit)) : Option (HS.den X27.hout) :=
  bif ((b1000ba == (0 : Int)) && ((b1000bba == (0 : Int)) && ((b1000bbba == ByteArray.empty) && true))) then
    bif ((decide ((0 : Int) ≤ (0 : Int))) && (decide ((0 : Int) < (((List.length t1) : Nat) : Int)))) then
      some (([] : List (Int × (Int × (ByteArray × Unit)))), ((b1000a, ((List.getD t1 (Int.toNat (0 : Int)) ((0 : Int), ((0 : Int), (ByteArray.empty, ())))).1, (((List.getD t1 (Int.toNat (0 : Int)) ((0 : Int), ((0 : Int), (ByteArray.empty, ())))).2).1, ((((List.getD t1 (Int.toNat (0 : Int)) ((0 : Int), ((0 : Int), (ByteArray.empty, ())))).2).2).1, (b1000bbbba, (b1000bbbbba, ())))))), ()))
    else
      none
  else
    bif ((decide ((0 : Int) ≤ (0 : Int))) && (decide ((0 : Int) < (((List.length t1) : Nat) : Int)))) then
      bif decide ((Go.Inc.cmpV (List.getD t1 (Int.toNat (0 : Int)) ((0 : Int), ((0 : Int), (ByteArray.empty, ())))) (b1000ba, (b1000bba, (b1000bbba, ())))) > (0 : Int)) then
        bif ((decide ((0 : Int) ≤ (0 : Int))) && (decide ((0 : Int) < (((List.length t1) : Nat) : Int)))) then
          some (([] : List (Int × (Int × (ByteArray × Unit)))), ((b1000a, ((List.getD t1 (Int.toNat (0 : Int)) ((0 : Int), ((0 : Int), (ByteArray.empty, ())))).1, (((List.getD t1 (Int.toNat (0 : Int)) ((0 : Int), ((0 : Int), (ByteArray.empty, ())))).2).1, ((((List.getD t1 (Int.toNat (0 : Int)) ((0 : Int), ((0 : Int), (ByteArray.empty, ())))).2).2).1, (b1000bbbba, (b1000bbbbba, ())))))), ()))
        else
          none
      else
        some (([] : List (Int × (Int × (ByteArray × Unit)))), ((b1000a, (b1000ba, (b1000bba, (b1000bbba, (b1000bbbba, (b1000bbbbba, ())))))), ()))
    else
      none
theorem loops27 (N : Nat) : loopsOk C27 (L27 N) Go.Proofs.Tryd.f27 := ⟨trivial, ⟨⟨trivial, ⟨trivial, trivial⟩⟩, ⟨trivial, trivial⟩⟩⟩
theorem runs27 (N : Nat) (x : HS.den X27.hin) : runX C27 X27 (L27 N) Go.Proofs.Tryd.f27 x = F27 N x.2.1 x.2.2.1.1 x.2.2.1.2.1 x.2.2.1.2.2.1 x.2.2.1.2.2.2.1 x.2.2.1.2.2.2.2.1 x.2.2.1.2.2.2.2.2.1 := by kernel_rfl

/-! ### 12: incognito/reg.Step -/
def L12 (_ : Nat) : Loops ((Int × (Int × Int × ByteArray × Unit) × Int × (List (Int × Int × ByteArray × Unit)) × Unit) × (List (Int × Int × ByteArray × Unit)) × Bool × Unit) := fun _ _ _ => none
def F12 (N : Nat) (p0 : Int × (Int × Int × ByteArray × Unit) × Int × (List (Int × Int × ByteArray × Unit)) × Unit) (p1 : Int × Int × ByteArray × Unit) (p2 : Int) (p3 : List (Int × Int × ByteArray × Unit)) : Option ((Int × (Int × Int × ByteArray × Unit) × Int × (List (Int × Int × ByteArray × Unit)) × Unit) × (List (Int × Int × ByteArray × Unit)) × Bool × Unit) :=
  bif (!(((Go.Inc.regNew p0.1).2).1)) then
    some (((0 : Int), (((0 : Int), ((0 : Int), (ByteArray.empty, ()))), ((0 : Int), (([] : List (Int × (Int × (ByteArray × Unit)))), ())))), (([] : List (Int × (Int × (ByteArray × Unit)))), (false, ())))
  else
    bif (Go.Inc.okT (0 : Int) p1) then
      bif (!(Go.Inc.takes (0 : Int) p1)) then
        some (((0 : Int), (((0 : Int), ((0 : Int), (ByteArray.empty, ()))), ((0 : Int), (([] : List (Int × (Int × (ByteArray × Unit)))), ())))), (([] : List (Int × (Int × (ByteArray × Unit)))), (false, ())))
      else
        bif (Go.Inc.okF p0.1 p2 p3) then
          bif (!(Go.Inc.fits p0.1 p2 p3)) then
            some (((0 : Int), (((0 : Int), ((0 : Int), (ByteArray.empty, ()))), ((0 : Int), (([] : List (Int × (Int × (ByteArray × Unit)))), ())))), (([] : List (Int × (Int × (ByteArray × Unit)))), (false, ())))
          else
            bif (p2 == (2 : Int)) then
              some (((((Go.Inc.cellRead p3 (p0.1, (p0.2.1.1, (p0.2.1.2.1, (p0.2.1.2.2.1, p0.2.2))))).2).1).1, ((((((Go.Inc.cellRead p3 (p0.1, (p0.2.1.1, (p0.2.1.2.1, (p0.2.1.2.2.1, p0.2.2))))).2).1).2).1, ((((((Go.Inc.cellRead p3 (p0.1, (p0.2.1.1, (p0.2.1.2.1, (p0.2.1.2.2.1, p0.2.2))))).2).1).2).2).1, (((((((Go.Inc.cellRead p3 (p0.1, (p0.2.1.1, (p0.2.1.2.1, (p0.2.1.2.2.1, p0.2.2))))).2).1).2).2).2).1, ()))), ((((((Go.Inc.cellRead p3 (p0.1, (p0.2.1.1, (p0.2.1.2.1, (p0.2.1.2.2.1, p0.2.2))))).2).1).2).2).2).2)), ((Go.Inc.cellRead p3 (p0.1, (p0.2.1.1, (p0.2.1.2.1, (p0.2.1.2.2.1, p0.2.2))))).1, (true, ())))
            else
              bif (p2 == (3 : Int)) then
              bif (Go.Inc.okCell 2 p3) then
              some (((((Go.Inc.cellSwap p3 (p0.1, (p0.2.1.1, (p0.2.1.2.1, (p0.2.1.2.2.1, p0.2.2))))).2).1).1, ((((((Go.Inc.cellSwap p3 (p0.1, (p0.2.1.1, (p0.2.1.2.1, (p0.2.1.2.2.1, p0.2.2))))).2).1).2).1, ((((((Go.Inc.cellSwap p3 (p0.1, (p0.2.1.1, (p0.2.1.2.1, (p0.2.1.2.2.1, p0.2.2))))).2).1).2).2).1, (((((((Go.Inc.cellSwap p3 (p0.1, (p0.2.1.1, (p0.2.1.2.1, (p0.2.1.2.2.1, p0.2.2))))).2).1).2).2).2).1, ()))), ((((((Go.Inc.cellSwap p3 (p0.1, (p0.2.1.1, (p0.2.1.2.1, (p0.2.1.2.2.1, p0.2.2))))).2).1).2).2).2).2)), ((Go.Inc.cellSwap p3 (p0.1, (p0.2.1.1, (p0.2.1.2.1, (p0.2.1.2.2.1, p0.2.2))))).1, (true, ())))
            else
              none
            else
              bif (p0.1 == (9 : Int)) then
              bif (Go.Inc.okCell 1 p3) then
              some (((((Go.Inc.cellRaise p3 (p0.1, (p0.2.1.1, (p0.2.1.2.1, (p0.2.1.2.2.1, p0.2.2))))).2).1).1, ((((((Go.Inc.cellRaise p3 (p0.1, (p0.2.1.1, (p0.2.1.2.1, (p0.2.1.2.2.1, p0.2.2))))).2).1).2).1, ((((((Go.Inc.cellRaise p3 (p0.1, (p0.2.1.1, (p0.2.1.2.1, (p0.2.1.2.2.1, p0.2.2))))).2).1).2).2).1, (((((((Go.Inc.cellRaise p3 (p0.1, (p0.2.1.1, (p0.2.1.2.1, (p0.2.1.2.2.1, p0.2.2))))).2).1).2).2).2).1, ()))), ((((((Go.Inc.cellRaise p3 (p0.1, (p0.2.1.1, (p0.2.1.2.1, (p0.2.1.2.2.1, p0.2.2))))).2).1).2).2).2).2)), ((Go.Inc.cellRaise p3 (p0.1, (p0.2.1.1, (p0.2.1.2.1, (p0.2.1.2.2.1, p0.2.2))))).1, (true, ())))
            else
              none
            else
              bif (Go.Inc.okCell 1 p3) then
              some (((((Go.Inc.cellWrite p3 (p0.1, (p0.2.1.1, (p0.2.1.2.1, (p0.2.1.2.2.1, p0.2.2))))).2).1).1, ((((((Go.Inc.cellWrite p3 (p0.1, (p0.2.1.1, (p0.2.1.2.1, (p0.2.1.2.2.1, p0.2.2))))).2).1).2).1, ((((((Go.Inc.cellWrite p3 (p0.1, (p0.2.1.1, (p0.2.1.2.1, (p0.2.1.2.2.1, p0.2.2))))).2).1).2).2).1, (((((((Go.Inc.cellWrite p3 (p0.1, (p0.2.1.1, (p0.2.1.2.1, (p0.2.1.2.2.1, p0.2.2))))).2).1).2).2).2).1, ()))), ((((((Go.Inc.cellWrite p3 (p0.1, (p0.2.1.1, (p0.2.1.2.1, (p0.2.1.2.2.1, p0.2.2))))).2).1).2).2).2).2)), ((Go.Inc.cellWrite p3 (p0.1, (p0.2.1.1, (p0.2.1.2.1, (p0.2.1.2.2.1, p0.2.2))))).1, (true, ())))
            else
              none
        else
          none
    else
      none
theorem loops12 (N : Nat) : loopsOk C12 (L12 N) Go.Proofs.Tryd.f12 := ⟨trivial, ⟨trivial, ⟨⟨trivial, ⟨⟨trivial, trivial⟩, trivial⟩⟩, ⟨trivial, ⟨trivial, ⟨⟨trivial, ⟨trivial, ⟨trivial, ⟨trivial, ⟨trivial, ⟨trivial, trivial⟩⟩⟩⟩⟩⟩, ⟨trivial, ⟨trivial, trivial⟩⟩⟩⟩⟩⟩⟩⟩
theorem runs12 (N : Nat) (x : S12.ta.den) : run C12 S12 (L12 N) Go.Proofs.Tryd.f12 x = F12 N x.1 x.2.1 x.2.2.1 x.2.2.2.1 := by kernel_rfl

/-! ### 16: incognito/incognitolaw13.num -/
def L16 (_ : Nat) : Loops ((Int × Int × ByteArray × Unit) × Unit) := fun _ _ _ => none
def F16 (N : Nat) (p0 : Int) : Option ((Int × Int × ByteArray × Unit) × Unit) :=
  some (((1 : Int), (p0, (ByteArray.empty, ()))), ())
theorem loops16 (N : Nat) : loopsOk C16 (L16 N) Go.Proofs.Tryd.f16 := ⟨trivial, ⟨trivial, trivial⟩⟩
theorem runs16 (N : Nat) (x : S16.ta.den) : run C16 S16 (L16 N) Go.Proofs.Tryd.f16 x = F16 N x.1 := by kernel_rfl

/-! ### 6: incognito/incognitolaw13.wakes -/
def L6 (_ : Nat) : Loops (Bool × Unit) := fun _ _ _ => none
def F6 (N : Nat) : Option (Bool × Unit) :=
  some ((Go.Inc.sameV (((Go.Inc.regStep ((Go.Inc.regNew (2 : Int)).1) (Go.Inc.num' (1 : Int)) (3 : Int) ((Go.Inc.num' (1 : Int)) :: ((Go.Inc.num' (2 : Int)) :: ([] : List (Int × (Int × (ByteArray × Unit))))))).2).1) (((3 : Int), ((0 : Int), (ByteArray.empty, ()))) :: ([] : List (Int × (Int × (ByteArray × Unit)))))), ())
theorem loops6 (N : Nat) : loopsOk C6 (L6 N) Go.Proofs.Tryd.f6 := ⟨trivial, ⟨trivial, ⟨trivial, ⟨trivial, ⟨trivial, ⟨trivial, ⟨trivial, ⟨trivial, ⟨trivial, trivial⟩⟩⟩⟩⟩⟩⟩⟩⟩
theorem runs6 (N : Nat) (x : S6.ta.den) : run C6 S6 (L6 N) Go.Proofs.Tryd.f6 x = F6 N := by kernel_rfl

/-! ### 8: incognito/incognitolaw13.own -/
def L8 (_ : Nat) : Loops (Bool × Unit) := fun _ _ _ => none
def F8 (N : Nat) (p0 : Int) : Option (Bool × Unit) :=
  bif (p0 == (1 : Int)) then
    some (true, ())
  else
    bif (p0 == (2 : Int)) then
      some (true, ())
    else
      some ((p0 == (9 : Int)), ())
theorem loops8 (N : Nat) : loopsOk C8 (L8 N) Go.Proofs.Tryd.f8 := ⟨trivial, ⟨trivial, trivial⟩⟩
theorem runs8 (N : Nat) (x : S8.ta.den) : run C8 S8 (L8 N) Go.Proofs.Tryd.f8 x = F8 N x.1 := by kernel_rfl

/-! ### 10: incognito/incognitoref13.Same -/
def L10 (_ : Nat) : Loops (Bool × Unit) := fun _ _ _ => none
def F10 (N : Nat) (p0 : Int × (Int × Int × ByteArray × Unit) × Int × (List (Int × Int × ByteArray × Unit)) × Unit) (p1 : Int × (Int × Int × ByteArray × Unit) × Int × (List (Int × Int × ByteArray × Unit)) × Unit) : Option (Bool × Unit) :=
  bif (p0.1 == p1.1) then
    bif ((p0.2.1.1 == p1.2.1.1) && ((p0.2.1.2.1 == p1.2.1.2.1) && ((p0.2.1.2.2.1 == p1.2.1.2.2.1) && true))) then
      bif (p0.2.2.1 == p1.2.2.1) then
        bif (Go.Inc.okSame2 p0.2.2.2.1 p1.2.2.2.1) then
          some ((Go.Inc.sameV p0.2.2.2.1 p1.2.2.2.1), ())
        else
          none
      else
        some (false, ())
    else
      some (false, ())
  else
    some (false, ())
theorem loops10 (N : Nat) : loopsOk C10 (L10 N) Go.Proofs.Tryd.f10 := ⟨trivial, ⟨trivial, trivial⟩⟩
theorem runs10 (N : Nat) (x : S10.ta.den) : run C10 S10 (L10 N) Go.Proofs.Tryd.f10 x = F10 N x.1 x.2.1 := by kernel_rfl

/-! ### 21: incognito/incognitoref13.kept -/
def W21_4 {β : Type} (N : Nat) (x1 : Int → Int → ByteArray → Int → Int → ByteArray → Option β) : Nat → Int → (List ((Int × Int × ByteArray × Unit) × Int × (List (Int × Int × ByteArray × Unit)) × Unit)) → Int → Int → ByteArray → Int → Int → ByteArray → Int → Int → ByteArray → Int → Option β
  | 0, _, _, _, _, _, _, _, _, _, _, _, _ => none
  | n + 1, t0, t1, b4a, b4ba, b4bba, b5a, b5ba, b5bba, b6a, b6ba, b6bba, t7 =>
  bif decide (t7 < (((List.length t1) : Nat) : Int)) then
    bif ((decide ((0 : Int) ≤ t7)) && (decide (t7 < (((List.length t1) : Nat) : Int)))) then
      bif ((((List.getD t1 (Int.toNat t7) (((0 : Int), ((0 : Int), (ByteArray.empty, ()))), ((0 : Int), ([], ())))).2).1) == (1 : Int)) then
        bif (t0 == (9 : Int)) then
          bif ((b6a == b5a) && ((b6ba == b5ba) && ((b6bba == b5bba) && true))) then
            bif ((decide ((0 : Int) ≤ (0 : Int))) && (decide ((0 : Int) < (((List.length ((((List.getD t1 (Int.toNat t7) (((0 : Int), ((0 : Int), (ByteArray.empty, ()))), ((0 : Int), ([], ())))).2).2).1)) : Nat) : Int)))) then
              W21_4 N x1 n t0 t1 b4a b4ba b4bba b5a b5ba b5bba ((List.getD ((((List.getD t1 (Int.toNat t7) (((0 : Int), ((0 : Int), (ByteArray.empty, ()))), ((0 : Int), ([], ())))).2).2).1) (Int.toNat (0 : Int)) ((0 : Int), ((0 : Int), (ByteArray.empty, ())))).1) (((List.getD ((((List.getD t1 (Int.toNat t7) (((0 : Int), ((0 : Int), (ByteArray.empty, ()))), ((0 : Int), ([], ())))).2).2).1) (Int.toNat (0 : Int)) ((0 : Int), ((0 : Int), (ByteArray.empty, ())))).2).1) ((((List.getD ((((List.getD t1 (Int.toNat t7) (((0 : Int), ((0 : Int), (ByteArray.empty, ()))), ((0 : Int), ([], ())))).2).2).1) (Int.toNat (0 : Int)) ((0 : Int), ((0 : Int), (ByteArray.empty, ())))).2).2).1) (Go.IntKind.wrap .i64 (t7 + (1 : Int)))
            else
              none
          else
            bif ((decide ((0 : Int) ≤ (0 : Int))) && (decide ((0 : Int) < (((List.length ((((List.getD t1 (Int.toNat t7) (((0 : Int), ((0 : Int), (ByteArray.empty, ()))), ((0 : Int), ([], ())))).2).2).1)) : Nat) : Int)))) then
              bif (Go.Inc.lessV (b6a, (b6ba, (b6bba, ()))) (List.getD ((((List.getD t1 (Int.toNat t7) (((0 : Int), ((0 : Int), (ByteArray.empty, ()))), ((0 : Int), ([], ())))).2).2).1) (Int.toNat (0 : Int)) ((0 : Int), ((0 : Int), (ByteArray.empty, ()))))) then
              bif ((decide ((0 : Int) ≤ (0 : Int))) && (decide ((0 : Int) < (((List.length ((((List.getD t1 (Int.toNat t7) (((0 : Int), ((0 : Int), (ByteArray.empty, ()))), ((0 : Int), ([], ())))).2).2).1)) : Nat) : Int)))) then
              W21_4 N x1 n t0 t1 b4a b4ba b4bba b5a b5ba b5bba ((List.getD ((((List.getD t1 (Int.toNat t7) (((0 : Int), ((0 : Int), (ByteArray.empty, ()))), ((0 : Int), ([], ())))).2).2).1) (Int.toNat (0 : Int)) ((0 : Int), ((0 : Int), (ByteArray.empty, ())))).1) (((List.getD ((((List.getD t1 (Int.toNat t7) (((0 : Int), ((0 : Int), (ByteArray.empty, ()))), ((0 : Int), ([], ())))).2).2).1) (Int.toNat (0 : Int)) ((0 : Int), ((0 : Int), (ByteArray.empty, ())))).2).1) ((((List.getD ((((List.getD t1 (Int.toNat t7) (((0 : Int), ((0 : Int), (ByteArray.empty, ()))), ((0 : Int), ([], ())))).2).2).1) (Int.toNat (0 : Int)) ((0 : Int), ((0 : Int), (ByteArray.empty, ())))).2).2).1) (Go.IntKind.wrap .i64 (t7 + (1 : Int)))
            else
              none
            else
              W21_4 N x1 n t0 t1 b4a b4ba b4bba b5a b5ba b5bba b6a b6ba b6bba (Go.IntKind.wrap .i64 (t7 + (1 : Int)))
            else
              none
        else
          bif ((((List.getD t1 (Int.toNat t7) (((0 : Int), ((0 : Int), (ByteArray.empty, ()))), ((0 : Int), ([], ())))).2).1) == (1 : Int)) then
            bif ((decide ((0 : Int) ≤ (0 : Int))) && (decide ((0 : Int) < (((List.length ((((List.getD t1 (Int.toNat t7) (((0 : Int), ((0 : Int), (ByteArray.empty, ()))), ((0 : Int), ([], ())))).2).2).1)) : Nat) : Int)))) then
              W21_4 N x1 n t0 t1 b4a b4ba b4bba b5a b5ba b5bba ((List.getD ((((List.getD t1 (Int.toNat t7) (((0 : Int), ((0 : Int), (ByteArray.empty, ()))), ((0 : Int), ([], ())))).2).2).1) (Int.toNat (0 : Int)) ((0 : Int), ((0 : Int), (ByteArray.empty, ())))).1) (((List.getD ((((List.getD t1 (Int.toNat t7) (((0 : Int), ((0 : Int), (ByteArray.empty, ()))), ((0 : Int), ([], ())))).2).2).1) (Int.toNat (0 : Int)) ((0 : Int), ((0 : Int), (ByteArray.empty, ())))).2).1) ((((List.getD ((((List.getD t1 (Int.toNat t7) (((0 : Int), ((0 : Int), (ByteArray.empty, ()))), ((0 : Int), ([], ())))).2).2).1) (Int.toNat (0 : Int)) ((0 : Int), ((0 : Int), (ByteArray.empty, ())))).2).2).1) (Go.IntKind.wrap .i64 (t7 + (1 : Int)))
            else
              none
          else
            bif ((((List.getD t1 (Int.toNat t7) (((0 : Int), ((0 : Int), (ByteArray.empty, ()))), ((0 : Int), ([], ())))).2).1) == (3 : Int)) then
              bif ((decide ((0 : Int) ≤ (0 : Int))) && (decide ((0 : Int) < (((List.length ((((List.getD t1 (Int.toNat t7) (((0 : Int), ((0 : Int), (ByteArray.empty, ()))), ((0 : Int), ([], ())))).2).2).1)) : Nat) : Int)))) then
              bif ((b6a == ((List.getD ((((List.getD t1 (Int.toNat t7) (((0 : Int), ((0 : Int), (ByteArray.empty, ()))), ((0 : Int), ([], ())))).2).2).1) (Int.toNat (0 : Int)) ((0 : Int), ((0 : Int), (ByteArray.empty, ())))).1)) && ((b6ba == (((List.getD ((((List.getD t1 (Int.toNat t7) (((0 : Int), ((0 : Int), (ByteArray.empty, ()))), ((0 : Int), ([], ())))).2).2).1) (Int.toNat (0 : Int)) ((0 : Int), ((0 : Int), (ByteArray.empty, ())))).2).1)) && ((b6bba == ((((List.getD ((((List.getD t1 (Int.toNat t7) (((0 : Int), ((0 : Int), (ByteArray.empty, ()))), ((0 : Int), ([], ())))).2).2).1) (Int.toNat (0 : Int)) ((0 : Int), ((0 : Int), (ByteArray.empty, ())))).2).2).1)) && true))) then
              bif ((decide ((0 : Int) ≤ (1 : Int))) && (decide ((1 : Int) < (((List.length ((((List.getD t1 (Int.toNat t7) (((0 : Int), ((0 : Int), (ByteArray.empty, ()))), ((0 : Int), ([], ())))).2).2).1)) : Nat) : Int)))) then
              W21_4 N x1 n t0 t1 b4a b4ba b4bba b5a b5ba b5bba ((List.getD ((((List.getD t1 (Int.toNat t7) (((0 : Int), ((0 : Int), (ByteArray.empty, ()))), ((0 : Int), ([], ())))).2).2).1) (Int.toNat (1 : Int)) ((0 : Int), ((0 : Int), (ByteArray.empty, ())))).1) (((List.getD ((((List.getD t1 (Int.toNat t7) (((0 : Int), ((0 : Int), (ByteArray.empty, ()))), ((0 : Int), ([], ())))).2).2).1) (Int.toNat (1 : Int)) ((0 : Int), ((0 : Int), (ByteArray.empty, ())))).2).1) ((((List.getD ((((List.getD t1 (Int.toNat t7) (((0 : Int), ((0 : Int), (ByteArray.empty, ()))), ((0 : Int), ([], ())))).2).2).1) (Int.toNat (1 : Int)) ((0 : Int), ((0 : Int), (ByteArray.empty, ())))).2).2).1) (Go.IntKind.wrap .i64 (t7 + (1 : Int)))
            else
              none
            else
              W21_4 N x1 n t0 t1 b4a b4ba b4bba b5a b5ba b5bba b6a b6ba b6bba (Go.IntKind.wrap .i64 (t7 + (1 : Int)))
            else
              none
            else
              W21_4 N x1 n t0 t1 b4a b4ba b4bba b5a b5ba b5bba b6a b6ba b6bba (Go.IntKind.wrap .i64 (t7 + (1 : Int)))
      else
        bif ((((List.getD t1 (Int.toNat t7) (((0 : Int), ((0 : Int), (ByteArray.empty, ()))), ((0 : Int), ([], ())))).2).1) == (1 : Int)) then
          bif ((decide ((0 : Int) ≤ (0 : Int))) && (decide ((0 : Int) < (((List.length ((((List.getD t1 (Int.toNat t7) (((0 : Int), ((0 : Int), (ByteArray.empty, ()))), ((0 : Int), ([], ())))).2).2).1)) : Nat) : Int)))) then
            W21_4 N x1 n t0 t1 b4a b4ba b4bba b5a b5ba b5bba ((List.getD ((((List.getD t1 (Int.toNat t7) (((0 : Int), ((0 : Int), (ByteArray.empty, ()))), ((0 : Int), ([], ())))).2).2).1) (Int.toNat (0 : Int)) ((0 : Int), ((0 : Int), (ByteArray.empty, ())))).1) (((List.getD ((((List.getD t1 (Int.toNat t7) (((0 : Int), ((0 : Int), (ByteArray.empty, ()))), ((0 : Int), ([], ())))).2).2).1) (Int.toNat (0 : Int)) ((0 : Int), ((0 : Int), (ByteArray.empty, ())))).2).1) ((((List.getD ((((List.getD t1 (Int.toNat t7) (((0 : Int), ((0 : Int), (ByteArray.empty, ()))), ((0 : Int), ([], ())))).2).2).1) (Int.toNat (0 : Int)) ((0 : Int), ((0 : Int), (ByteArray.empty, ())))).2).2).1) (Go.IntKind.wrap .i64 (t7 + (1 : Int)))
          else
            none
        else
          bif ((((List.getD t1 (Int.toNat t7) (((0 : Int), ((0 : Int), (ByteArray.empty, ()))), ((0 : Int), ([], ())))).2).1) == (3 : Int)) then
            bif ((decide ((0 : Int) ≤ (0 : Int))) && (decide ((0 : Int) < (((List.length ((((List.getD t1 (Int.toNat t7) (((0 : Int), ((0 : Int), (ByteArray.empty, ()))), ((0 : Int), ([], ())))).2).2).1)) : Nat) : Int)))) then
              bif ((b6a == ((List.getD ((((List.getD t1 (Int.toNat t7) (((0 : Int), ((0 : Int), (ByteArray.empty, ()))), ((0 : Int), ([], ())))).2).2).1) (Int.toNat (0 : Int)) ((0 : Int), ((0 : Int), (ByteArray.empty, ())))).1)) && ((b6ba == (((List.getD ((((List.getD t1 (Int.toNat t7) (((0 : Int), ((0 : Int), (ByteArray.empty, ()))), ((0 : Int), ([], ())))).2).2).1) (Int.toNat (0 : Int)) ((0 : Int), ((0 : Int), (ByteArray.empty, ())))).2).1)) && ((b6bba == ((((List.getD ((((List.getD t1 (Int.toNat t7) (((0 : Int), ((0 : Int), (ByteArray.empty, ()))), ((0 : Int), ([], ())))).2).2).1) (Int.toNat (0 : Int)) ((0 : Int), ((0 : Int), (ByteArray.empty, ())))).2).2).1)) && true))) then
              bif ((decide ((0 : Int) ≤ (1 : Int))) && (decide ((1 : Int) < (((List.length ((((List.getD t1 (Int.toNat t7) (((0 : Int), ((0 : Int), (ByteArray.empty, ()))), ((0 : Int), ([], ())))).2).2).1)) : Nat) : Int)))) then
              W21_4 N x1 n t0 t1 b4a b4ba b4bba b5a b5ba b5bba ((List.getD ((((List.getD t1 (Int.toNat t7) (((0 : Int), ((0 : Int), (ByteArray.empty, ()))), ((0 : Int), ([], ())))).2).2).1) (Int.toNat (1 : Int)) ((0 : Int), ((0 : Int), (ByteArray.empty, ())))).1) (((List.getD ((((List.getD t1 (Int.toNat t7) (((0 : Int), ((0 : Int), (ByteArray.empty, ()))), ((0 : Int), ([], ())))).2).2).1) (Int.toNat (1 : Int)) ((0 : Int), ((0 : Int), (ByteArray.empty, ())))).2).1) ((((List.getD ((((List.getD t1 (Int.toNat t7) (((0 : Int), ((0 : Int), (ByteArray.empty, ()))), ((0 : Int), ([], ())))).2).2).1) (Int.toNat (1 : Int)) ((0 : Int), ((0 : Int), (ByteArray.empty, ())))).2).2).1) (Go.IntKind.wrap .i64 (t7 + (1 : Int)))
            else
              none
            else
              W21_4 N x1 n t0 t1 b4a b4ba b4bba b5a b5ba b5bba b6a b6ba b6bba (Go.IntKind.wrap .i64 (t7 + (1 : Int)))
            else
              none
          else
            W21_4 N x1 n t0 t1 b4a b4ba b4bba b5a b5ba b5bba b6a b6ba b6bba (Go.IntKind.wrap .i64 (t7 + (1 : Int)))
    else
      none
  else
    x1 b4a b4ba b4bba b6a b6ba b6bba
def L21 (N : Nat) : Loops ((Int × Int × ByteArray × Unit) × Unit) := fun k ρ K => match Nat.beq k 4 with
  | true => (match adH ρ H21_4.hd with
    | some v => W21_4 N (fun b4a b4ba b4bba b6a b6ba b6bba => K (.exit 0) (encH [(8, (.bx 4 0)), (9, (.pr (.i .i64) (.pr (.i .i64) (.pr .st .un)))), (12, (.bx 6 0)), (13, (.pr (.i .i64) (.pr (.i .i64) (.pr .st .un))))] ((), ((b4a, (b4ba, (b4bba, ()))), ((), ((b6a, (b6ba, (b6bba, ()))), ())))))) N v.1 v.2.1 v.2.2.2.1.1 v.2.2.2.1.2.1 v.2.2.2.1.2.2.1 v.2.2.2.2.2.1.1 v.2.2.2.2.2.1.2.1 v.2.2.2.2.2.1.2.2.1 v.2.2.2.2.2.2.2.1.1 v.2.2.2.2.2.2.2.1.2.1 v.2.2.2.2.2.2.2.1.2.2.1 v.2.2.2.2.2.2.2.2.1
    | none => none)
  | false => none
def F21 (N : Nat) (p0 : Int) (p1 : List ((Int × Int × ByteArray × Unit) × Int × (List (Int × Int × ByteArray × Unit)) × Unit)) : Option ((Int × Int × ByteArray × Unit) × Unit) :=
  W21_4 N
    (fun b4a b4ba b4bba b6a b6ba b6bba =>
      some ((b6a, (b6ba, (b6bba, ()))), ()))
    N p0 p1 (0 : Int) (0 : Int) ByteArray.empty (0 : Int) (0 : Int) ByteArray.empty (0 : Int) (0 : Int) ByteArray.empty (0 : Int)
theorem loops21 (N : Nat) : loopsOk C21 (L21 N) Go.Proofs.Tryd.f21 := ⟨trivial, ⟨trivial, ⟨trivial, ⟨⟨trivial, ⟨loopOk_of H21_4 N (fun K n v => W21_4 N (fun b4a b4ba b4bba b6a b6ba b6bba => K (.exit 0) (encH [(8, (.bx 4 0)), (9, (.pr (.i .i64) (.pr (.i .i64) (.pr .st .un)))), (12, (.bx 6 0)), (13, (.pr (.i .i64) (.pr (.i .i64) (.pr .st .un))))] ((), ((b4a, (b4ba, (b4bba, ()))), ((), ((b6a, (b6ba, (b6bba, ()))), ())))))) n v.1 v.2.1 v.2.2.2.1.1 v.2.2.2.1.2.1 v.2.2.2.1.2.2.1 v.2.2.2.2.2.1.1 v.2.2.2.2.2.1.2.1 v.2.2.2.2.2.1.2.2.1 v.2.2.2.2.2.2.2.1.1 v.2.2.2.2.2.2.2.1.2.1 v.2.2.2.2.2.2.2.1.2.2.1 v.2.2.2.2.2.2.2.2.1) (by kernel_rfl) (fun K v => by kernel_rfl) (fun K v => by kernel_rfl) (fun K n v => by kernel_rfl), ⟨⟨trivial, ⟨trivial, trivial⟩⟩, ⟨⟨trivial, ⟨trivial, ⟨⟨trivial, ⟨trivial, trivial⟩⟩, ⟨trivial, ⟨trivial, ⟨trivial, ⟨trivial, trivial⟩⟩⟩⟩⟩⟩⟩, trivial⟩⟩⟩⟩, ⟨trivial, trivial⟩⟩⟩⟩⟩
theorem runs21 (N : Nat) (x : S21.ta.den) : run C21 S21 (L21 N) Go.Proofs.Tryd.f21 x = F21 N x.1 x.2.1 := by kernel_rfl

/-! ### 11: incognito/incognitoref13.State -/
def L11 (_ : Nat) : Loops ((Int × (Int × Int × ByteArray × Unit) × Int × (List (Int × Int × ByteArray × Unit)) × Unit) × Unit) := fun _ _ _ => none
def F11 (N : Nat) (p0 : Int) (p1 : List ((Int × Int × ByteArray × Unit) × Int × (List (Int × Int × ByteArray × Unit)) × Unit)) : Option ((Int × (Int × Int × ByteArray × Unit) × Int × (List (Int × Int × ByteArray × Unit)) × Unit) × Unit) :=
  bif (Go.Inc.okRPast p0 p1) then
    some ((p0, ((Go.Inc.regKept p0 p1), ((0 : Int), (([] : List (Int × (Int × (ByteArray × Unit)))), ())))), ())
  else
    none
theorem loops11 (N : Nat) : loopsOk C11 (L11 N) Go.Proofs.Tryd.f11 := ⟨trivial, ⟨trivial, trivial⟩⟩
theorem runs11 (N : Nat) (x : S11.ta.den) : run C11 S11 (L11 N) Go.Proofs.Tryd.f11 x = F11 N x.1 x.2.1 := by kernel_rfl

/-! ### 38: incognito/incognitoref07.IsWord -/
def W38_2 {β : Type} (N : Nat) (x0 : Bool → Option β) (x1 : ByteArray → Option β) : Nat → ByteArray → Int → Option β
  | 0, _, _ => none
  | n + 1, t0, t3 =>
  bif decide (t3 < (((ByteArray.size t0) : Nat) : Int)) then
    bif ((decide ((0 : Int) ≤ t3)) && (decide (t3 < (((ByteArray.size t0) : Nat) : Int)))) then
      bif (Go.Inc.ok8 (((UInt8.toNat (List.getD (Array.toList (ByteArray.data t0)) (Int.toNat t3) (0 : UInt8))) : Nat) : Int) (t3 == (0 : Int))) then
        bif (!(Go.Inc.letterGo (((UInt8.toNat (List.getD (Array.toList (ByteArray.data t0)) (Int.toNat t3) (0 : UInt8))) : Nat) : Int) (t3 == (0 : Int)))) then
          x0 false
        else
          W38_2 N x0 x1 n t0 (Go.IntKind.wrap .i64 (t3 + (1 : Int)))
      else
        none
    else
      none
  else
    x1 t0
def L38 (N : Nat) : Loops (Bool × Unit) := fun k ρ K => match Nat.beq k 2 with
  | true => (match adH ρ H38_2.hd with
    | some v => W38_2 N (fun t2 => K .ret (encH [(4, .bo)] (t2, ()))) (fun t0 => K (.exit 0) (encH [(0, .st)] (t0, ()))) N v.1 v.2.1
    | none => none)
  | false => none
def F38 (N : Nat) (p0 : ByteArray) : Option (Bool × Unit) :=
  W38_2 N
    (fun t2 =>
      some (t2, ()))
    (fun t0 =>
      bif decide ((((ByteArray.size t0) : Nat) : Int) ≥ (1 : Int)) then
        some (decide ((((ByteArray.size t0) : Nat) : Int) ≤ (40 : Int)), ())
      else
        some (false, ()))
    N p0 (0 : Int)
theorem loops38 (N : Nat) : loopsOk C38 (L38 N) Go.Proofs.Tryd.f38 := ⟨trivial, ⟨⟨trivial, ⟨loopOk_of H38_2 N (fun K n v => W38_2 N (fun t2 => K .ret (encH [(4, .bo)] (t2, ()))) (fun t0 => K (.exit 0) (encH [(0, .st)] (t0, ()))) n v.1 v.2.1) (by kernel_rfl) (fun K v => by kernel_rfl) (fun K v => by kernel_rfl) (fun K n v => by kernel_rfl), ⟨⟨trivial, ⟨trivial, trivial⟩⟩, ⟨⟨trivial, ⟨⟨trivial, trivial⟩, trivial⟩⟩, trivial⟩⟩⟩⟩, ⟨trivial, trivial⟩⟩⟩
theorem runs38 (N : Nat) (x : S38.ta.den) : run C38 S38 (L38 N) Go.Proofs.Tryd.f38 x = F38 N x.1 := by kernel_rfl

/-! ### 37: incognito/incognitoref09.Takes -/
def L37 (_ : Nat) : Loops (Bool × Unit) := fun _ _ _ => none
def F37 (N : Nat) (p0 : Int) (p1 : Int × Int × ByteArray × Unit) : Option (Bool × Unit) :=
  bif decide (p0 ≥ (0 : Int)) then
    bif decide (p0 ≤ (4 : Int)) then
      bif (Go.Inc.okV p1) then
        some ((Go.Inc.name p1), ())
      else
        none
    else
      bif (p0 == (5 : Int)) then
        bif (Go.Inc.okV p1) then
          bif (Go.Inc.right p1) then
            bif (p1.1 == (1 : Int)) then
              some (true, ())
            else
              bif (p0 == (6 : Int)) then
              bif (Go.Inc.okV p1) then
              bif (Go.Inc.right p1) then
              some ((p1.1 == (3 : Int)), ())
            else
              some (false, ())
            else
              none
            else
              some (false, ())
          else
            bif (p0 == (6 : Int)) then
              bif (Go.Inc.okV p1) then
              bif (Go.Inc.right p1) then
              some ((p1.1 == (3 : Int)), ())
            else
              some (false, ())
            else
              none
            else
              some (false, ())
        else
          none
      else
        bif (p0 == (6 : Int)) then
          bif (Go.Inc.okV p1) then
            bif (Go.Inc.right p1) then
              some ((p1.1 == (3 : Int)), ())
            else
              some (false, ())
          else
            none
        else
          some (false, ())
  else
    bif (p0 == (5 : Int)) then
      bif (Go.Inc.okV p1) then
        bif (Go.Inc.right p1) then
          bif (p1.1 == (1 : Int)) then
            some (true, ())
          else
            bif (p0 == (6 : Int)) then
              bif (Go.Inc.okV p1) then
              bif (Go.Inc.right p1) then
              some ((p1.1 == (3 : Int)), ())
            else
              some (false, ())
            else
              none
            else
              some (false, ())
        else
          bif (p0 == (6 : Int)) then
            bif (Go.Inc.okV p1) then
              bif (Go.Inc.right p1) then
              some ((p1.1 == (3 : Int)), ())
            else
              some (false, ())
            else
              none
          else
            some (false, ())
      else
        none
    else
      bif (p0 == (6 : Int)) then
        bif (Go.Inc.okV p1) then
          bif (Go.Inc.right p1) then
            some ((p1.1 == (3 : Int)), ())
          else
            some (false, ())
        else
          none
      else
        some (false, ())
theorem loops37 (N : Nat) : loopsOk C37 (L37 N) Go.Proofs.Tryd.f37 := ⟨trivial, ⟨⟨trivial, ⟨⟨trivial, trivial⟩, trivial⟩⟩, ⟨trivial, trivial⟩⟩⟩
theorem runs37 (N : Nat) (x : S37.ta.den) : run C37 S37 (L37 N) Go.Proofs.Tryd.f37 x = F37 N x.1 x.2.1 := by kernel_rfl

/-! ### 13: incognito/incognitolaw13.may -/
def L13 (_ : Nat) : Loops (Bool × Unit) := fun _ _ _ => none
def F13 (N : Nat) (p0 : Int) (p1 : (Int × Int × ByteArray × Unit) × Int × (List (Int × Int × ByteArray × Unit)) × Unit) : Option (Bool × Unit) :=
  bif (Go.Inc.okV p1.1) then
    bif (Go.Inc.name p1.1) then
      bif (Go.Inc.okF p0 p1.2.1 p1.2.2.1) then
        some ((Go.Inc.fits p0 p1.2.1 p1.2.2.1), ())
      else
        none
    else
      some (false, ())
  else
    none
theorem loops13 (N : Nat) : loopsOk C13 (L13 N) Go.Proofs.Tryd.f13 := ⟨trivial, ⟨trivial, trivial⟩⟩
theorem runs13 (N : Nat) (x : S13.ta.den) : run C13 S13 (L13 N) Go.Proofs.Tryd.f13 x = F13 N x.1 x.2.1 := by kernel_rfl

/-! ### 15: incognito/incognitoref13.Out -/
def L15 (_ : Nat) : Loops ((List (Int × Int × ByteArray × Unit)) × Unit) := fun _ _ _ => none
def F15 (N : Nat) (p0 : Int) (p1 : List ((Int × Int × ByteArray × Unit) × Int × (List (Int × Int × ByteArray × Unit)) × Unit)) (p2 : (Int × Int × ByteArray × Unit) × Int × (List (Int × Int × ByteArray × Unit)) × Unit) : Option ((List (Int × Int × ByteArray × Unit)) × Unit) :=
  bif (Go.Inc.okRPast p0 p1) then
    bif (p2.2.1 == (2 : Int)) then
      some (((Go.Inc.regKept p0 p1) :: ([] : List (Int × (Int × (ByteArray × Unit))))), ())
    else
      bif (p2.2.1 == (3 : Int)) then
        bif ((decide ((0 : Int) ≤ (0 : Int))) && (decide ((0 : Int) < (((List.length p2.2.2.1) : Nat) : Int)))) then
          some (((Go.Inc.yesV ((((Go.Inc.regKept p0 p1).1) == ((List.getD p2.2.2.1 (Int.toNat (0 : Int)) ((0 : Int), ((0 : Int), (ByteArray.empty, ())))).1)) && (((((Go.Inc.regKept p0 p1).2).1) == (((List.getD p2.2.2.1 (Int.toNat (0 : Int)) ((0 : Int), ((0 : Int), (ByteArray.empty, ())))).2).1)) && ((((((Go.Inc.regKept p0 p1).2).2).1) == ((((List.getD p2.2.2.1 (Int.toNat (0 : Int)) ((0 : Int), ((0 : Int), (ByteArray.empty, ())))).2).2).1)) && true)))) :: ([] : List (Int × (Int × (ByteArray × Unit))))), ())
        else
          none
      else
        some (([] : List (Int × (Int × (ByteArray × Unit)))), ())
  else
    none
theorem loops15 (N : Nat) : loopsOk C15 (L15 N) Go.Proofs.Tryd.f15 := ⟨trivial, ⟨trivial, ⟨⟨trivial, ⟨trivial, ⟨⟨trivial, trivial⟩, ⟨trivial, ⟨⟨trivial, trivial⟩, trivial⟩⟩⟩⟩⟩, ⟨trivial, trivial⟩⟩⟩⟩
theorem runs15 (N : Nat) (x : S15.ta.den) : run C15 S15 (L15 N) Go.Proofs.Tryd.f15 x = F15 N x.1 x.2.1 x.2.2.1 := by kernel_rfl

/-! ### 3: incognito/incognitolaw13.RegPlays -/
def W3_12 {β : Type} (N : Nat) (x0 : Bool → Option β) (x1 : Unit → Option β) : Nat → Int → Int → Int → Int → ByteArray → Int → (List (Int × Int × ByteArray × Unit)) → (List ((Int × Int × ByteArray × Unit) × Int × (List (Int × Int × ByteArray × Unit)) × Unit)) → (List ((Int × Int × ByteArray × Unit) × Int × (List (Int × Int × ByteArray × Unit)) × Unit)) → Int → Int → Option β
  | 0, _, _, _, _, _, _, _, _, _, _, _ => none
  | n + 1, t0, b5a, b5ba, b5bba, b5bbba, b5bbbba, b5bbbbba, t7, t42, t43, t44 =>
  bif decide (t44 < t43) then
    bif ((decide ((0 : Int) ≤ t44)) && (decide (t44 < (((List.length t42) : Nat) : Int)))) then
      bif (Go.Inc.okQStep (b5a, ((b5ba, (b5bba, (b5bbba, ()))), (b5bbbba, (b5bbbbba, ())))) ((List.getD t42 (Int.toNat t44) (((0 : Int), ((0 : Int), (ByteArray.empty, ()))), ((0 : Int), ([], ())))).1) (((List.getD t42 (Int.toNat t44) (((0 : Int), ((0 : Int), (ByteArray.empty, ()))), ((0 : Int), ([], ())))).2).1) ((((List.getD t42 (Int.toNat t44) (((0 : Int), ((0 : Int), (ByteArray.empty, ()))), ((0 : Int), ([], ())))).2).2).1)) then
        bif (Go.Inc.okMay t0 (List.getD t42 (Int.toNat t44) (((0 : Int), ((0 : Int), (ByteArray.empty, ()))), ((0 : Int), ([], ()))))) then
          bif (!(((((Go.Inc.regStep (b5a, ((b5ba, (b5bba, (b5bbba, ()))), (b5bbbba, (b5bbbbba, ())))) ((List.getD t42 (Int.toNat t44) (((0 : Int), ((0 : Int), (ByteArray.empty, ()))), ((0 : Int), ([], ())))).1) (((List.getD t42 (Int.toNat t44) (((0 : Int), ((0 : Int), (ByteArray.empty, ()))), ((0 : Int), ([], ())))).2).1) ((((List.getD t42 (Int.toNat t44) (((0 : Int), ((0 : Int), (ByteArray.empty, ()))), ((0 : Int), ([], ())))).2).2).1)).2).2).1) == (Go.Inc.mayD t0 (List.getD t42 (Int.toNat t44) (((0 : Int), ((0 : Int), (ByteArray.empty, ()))), ((0 : Int), ([], ()))))))) then
            x0 false
          else
            bif (!((((Go.Inc.regStep (b5a, ((b5ba, (b5bba, (b5bbba, ()))), (b5bbbba, (b5bbbbba, ())))) ((List.getD t42 (Int.toNat t44) (((0 : Int), ((0 : Int), (ByteArray.empty, ()))), ((0 : Int), ([], ())))).1) (((List.getD t42 (Int.toNat t44) (((0 : Int), ((0 : Int), (ByteArray.empty, ()))), ((0 : Int), ([], ())))).2).1) ((((List.getD t42 (Int.toNat t44) (((0 : Int), ((0 : Int), (ByteArray.empty, ()))), ((0 : Int), ([], ())))).2).2).1)).2).2).1)) then
              bif decide ((((List.length (((Go.Inc.regStep (b5a, ((b5ba, (b5bba, (b5bbba, ()))), (b5bbbba, (b5bbbbba, ())))) ((List.getD t42 (Int.toNat t44) (((0 : Int), ((0 : Int), (ByteArray.empty, ()))), ((0 : Int), ([], ())))).1) (((List.getD t42 (Int.toNat t44) (((0 : Int), ((0 : Int), (ByteArray.empty, ()))), ((0 : Int), ([], ())))).2).1) ((((List.getD t42 (Int.toNat t44) (((0 : Int), ((0 : Int), (ByteArray.empty, ()))), ((0 : Int), ([], ())))).2).2).1)).2).1)) : Nat) : Int) > (0 : Int)) then
              x0 false
            else
              bif (Go.Inc.okSS ((Go.Inc.regStep (b5a, ((b5ba, (b5bba, (b5bbba, ()))), (b5bbbba, (b5bbbbba, ())))) ((List.getD t42 (Int.toNat t44) (((0 : Int), ((0 : Int), (ByteArray.empty, ()))), ((0 : Int), ([], ())))).1) (((List.getD t42 (Int.toNat t44) (((0 : Int), ((0 : Int), (ByteArray.empty, ()))), ((0 : Int), ([], ())))).2).1) ((((List.getD t42 (Int.toNat t44) (((0 : Int), ((0 : Int), (ByteArray.empty, ()))), ((0 : Int), ([], ())))).2).2).1)).1) ((0 : Int), (((0 : Int), ((0 : Int), (ByteArray.empty, ()))), ((0 : Int), (([] : List (Int × (Int × (ByteArray × Unit)))), ()))))) then
              bif (!(Go.Inc.sameS ((Go.Inc.regStep (b5a, ((b5ba, (b5bba, (b5bbba, ()))), (b5bbbba, (b5bbbbba, ())))) ((List.getD t42 (Int.toNat t44) (((0 : Int), ((0 : Int), (ByteArray.empty, ()))), ((0 : Int), ([], ())))).1) (((List.getD t42 (Int.toNat t44) (((0 : Int), ((0 : Int), (ByteArray.empty, ()))), ((0 : Int), ([], ())))).2).1) ((((List.getD t42 (Int.toNat t44) (((0 : Int), ((0 : Int), (ByteArray.empty, ()))), ((0 : Int), ([], ())))).2).2).1)).1) ((0 : Int), (((0 : Int), ((0 : Int), (ByteArray.empty, ()))), ((0 : Int), (([] : List (Int × (Int × (ByteArray × Unit)))), ())))))) then
              x0 false
            else
              W3_12 N x0 x1 n t0 b5a b5ba b5bba b5bbba b5bbbba b5bbbbba t7 t42 t43 (Go.IntKind.wrap .i64 (t44 + (1 : Int)))
            else
              none
            else
              bif (Go.Inc.okRPast1 t0 t7 (List.getD t42 (Int.toNat t44) (((0 : Int), ((0 : Int), (ByteArray.empty, ()))), ((0 : Int), ([], ()))))) then
              bif (Go.Inc.okSame2 (((Go.Inc.regStep (b5a, ((b5ba, (b5bba, (b5bbba, ()))), (b5bbbba, (b5bbbbba, ())))) ((List.getD t42 (Int.toNat t44) (((0 : Int), ((0 : Int), (ByteArray.empty, ()))), ((0 : Int), ([], ())))).1) (((List.getD t42 (Int.toNat t44) (((0 : Int), ((0 : Int), (ByteArray.empty, ()))), ((0 : Int), ([], ())))).2).1) ((((List.getD t42 (Int.toNat t44) (((0 : Int), ((0 : Int), (ByteArray.empty, ()))), ((0 : Int), ([], ())))).2).2).1)).2).1) (Go.Inc.regOut t0 t7 (List.getD t42 (Int.toNat t44) (((0 : Int), ((0 : Int), (ByteArray.empty, ()))), ((0 : Int), ([], ())))))) then
              bif (!(Go.Inc.sameV (((Go.Inc.regStep (b5a, ((b5ba, (b5bba, (b5bbba, ()))), (b5bbbba, (b5bbbbba, ())))) ((List.getD t42 (Int.toNat t44) (((0 : Int), ((0 : Int), (ByteArray.empty, ()))), ((0 : Int), ([], ())))).1) (((List.getD t42 (Int.toNat t44) (((0 : Int), ((0 : Int), (ByteArray.empty, ()))), ((0 : Int), ([], ())))).2).1) ((((List.getD t42 (Int.toNat t44) (((0 : Int), ((0 : Int), (ByteArray.empty, ()))), ((0 : Int), ([], ())))).2).2).1)).2).1) (Go.Inc.regOut t0 t7 (List.getD t42 (Int.toNat t44) (((0 : Int), ((0 : Int), (ByteArray.empty, ()))), ((0 : Int), ([], ()))))))) then
              x0 false
            else
              bif decide ((((List.length t7) + (List.length ((List.getD t42 (Int.toNat t44) (((0 : Int), ((0 : Int), (ByteArray.empty, ()))), ((0 : Int), ([], ())))) :: ([] : List ((Int × (Int × (ByteArray × Unit))) × (Int × ((List (Int × (Int × (ByteArray × Unit)))) × Unit))))))) * 64) ≤ 140737488351232) then
              bif (Go.Inc.okRPast t0 (t7 ++ ((List.getD t42 (Int.toNat t44) (((0 : Int), ((0 : Int), (ByteArray.empty, ()))), ((0 : Int), ([], ())))) :: ([] : List ((Int × (Int × (ByteArray × Unit))) × (Int × ((List (Int × (Int × (ByteArray × Unit)))) × Unit))))))) then
              bif (Go.Inc.okSS ((Go.Inc.regStep (b5a, ((b5ba, (b5bba, (b5bbba, ()))), (b5bbbba, (b5bbbbba, ())))) ((List.getD t42 (Int.toNat t44) (((0 : Int), ((0 : Int), (ByteArray.empty, ()))), ((0 : Int), ([], ())))).1) (((List.getD t42 (Int.toNat t44) (((0 : Int), ((0 : Int), (ByteArray.empty, ()))), ((0 : Int), ([], ())))).2).1) ((((List.getD t42 (Int.toNat t44) (((0 : Int), ((0 : Int), (ByteArray.empty, ()))), ((0 : Int), ([], ())))).2).2).1)).1) (Go.Inc.regState t0 (t7 ++ ((List.getD t42 (Int.toNat t44) (((0 : Int), ((0 : Int), (ByteArray.empty, ()))), ((0 : Int), ([], ())))) :: ([] : List ((Int × (Int × (ByteArray × Unit))) × (Int × ((List (Int × (Int × (ByteArray × Unit)))) × Unit)))))))) then
              bif (!(Go.Inc.sameS ((Go.Inc.regStep (b5a, ((b5ba, (b5bba, (b5bbba, ()))), (b5bbbba, (b5bbbbba, ())))) ((List.getD t42 (Int.toNat t44) (((0 : Int), ((0 : Int), (ByteArray.empty, ()))), ((0 : Int), ([], ())))).1) (((List.getD t42 (Int.toNat t44) (((0 : Int), ((0 : Int), (ByteArray.empty, ()))), ((0 : Int), ([], ())))).2).1) ((((List.getD t42 (Int.toNat t44) (((0 : Int), ((0 : Int), (ByteArray.empty, ()))), ((0 : Int), ([], ())))).2).2).1)).1) (Go.Inc.regState t0 (t7 ++ ((List.getD t42 (Int.toNat t44) (((0 : Int), ((0 : Int), (ByteArray.empty, ()))), ((0 : Int), ([], ())))) :: ([] : List ((Int × (Int × (ByteArray × Unit))) × (Int × ((List (Int × (Int × (ByteArray × Unit)))) × Unit))))))))) then
              x0 false
            else
              W3_12 N x0 x1 n t0 (((Go.Inc.regStep (b5a, ((b5ba, (b5bba, (b5bbba, ()))), (b5bbbba, (b5bbbbba, ())))) ((List.getD t42 (Int.toNat t44) (((0 : Int), ((0 : Int), (ByteArray.empty, ()))), ((0 : Int), ([], ())))).1) (((List.getD t42 (Int.toNat t44) (((0 : Int), ((0 : Int), (ByteArray.empty, ()))), ((0 : Int), ([], ())))).2).1) ((((List.getD t42 (Int.toNat t44) (((0 : Int), ((0 : Int), (ByteArray.empty, ()))), ((0 : Int), ([], ())))).2).2).1)).1).1) (((((Go.Inc.regStep (b5a, ((b5ba, (b5bba, (b5bbba, ()))), (b5bbbba, (b5bbbbba, ())))) ((List.getD t42 (Int.toNat t44) (((0 : Int), ((0 : Int), (ByteArray.empty, ()))), ((0 : Int), ([], ())))).1) (((List.getD t42 (Int.toNat t44) (((0 : Int), ((0 : Int), (ByteArray.empty, ()))), ((0 : Int), ([], ())))).2).1) ((((List.getD t42 (Int.toNat t44) (((0 : Int), ((0 : Int), (ByteArray.empty, ()))), ((0 : Int), ([], ())))).2).2).1)).1).2).1).1) ((((((Go.Inc.regStep (b5a, ((b5ba, (b5bba, (b5bbba, ()))), (b5bbbba, (b5bbbbba, ())))) ((List.getD t42 (Int.toNat t44) (((0 : Int), ((0 : Int), (ByteArray.empty, ()))), ((0 : Int), ([], ())))).1) (((List.getD t42 (Int.toNat t44) (((0 : Int), ((0 : Int), (ByteArray.empty, ()))), ((0 : Int), ([], ())))).2).1) ((((List.getD t42 (Int.toNat t44) (((0 : Int), ((0 : Int), (ByteArray.empty, ()))), ((0 : Int), ([], ())))).2).2).1)).1).2).1).2).1) (((((((Go.Inc.regStep (b5a, ((b5ba, (b5bba, (b5bbba, ()))), (b5bbbba, (b5bbbbba, ())))) ((List.getD t42 (Int.toNat t44) (((0 : Int), ((0 : Int), (ByteArray.empty, ()))), ((0 : Int), ([], ())))).1) (((List.getD t42 (Int.toNat t44) (((0 : Int), ((0 : Int), (ByteArray.empty, ()))), ((0 : Int), ([], ())))).2).1) ((((List.getD t42 (Int.toNat t44) (((0 : Int), ((0 : Int), (ByteArray.empty, ()))), ((0 : Int), ([], ())))).2).2).1)).1).2).1).2).2).1) (((((Go.Inc.regStep (b5a, ((b5ba, (b5bba, (b5bbba, ()))), (b5bbbba, (b5bbbbba, ())))) ((List.getD t42 (Int.toNat t44) (((0 : Int), ((0 : Int), (ByteArray.empty, ()))), ((0 : Int), ([], ())))).1) (((List.getD t42 (Int.toNat t44) (((0 : Int), ((0 : Int), (ByteArray.empty, ()))), ((0 : Int), ([], ())))).2).1) ((((List.getD t42 (Int.toNat t44) (((0 : Int), ((0 : Int), (ByteArray.empty, ()))), ((0 : Int), ([], ())))).2).2).1)).1).2).2).1) ((((((Go.Inc.regStep (b5a, ((b5ba, (b5bba, (b5bbba, ()))), (b5bbbba, (b5bbbbba, ())))) ((List.getD t42 (Int.toNat t44) (((0 : Int), ((0 : Int), (ByteArray.empty, ()))), ((0 : Int), ([], ())))).1) (((List.getD t42 (Int.toNat t44) (((0 : Int), ((0 : Int), (ByteArray.empty, ()))), ((0 : Int), ([], ())))).2).1) ((((List.getD t42 (Int.toNat t44) (((0 : Int), ((0 : Int), (ByteArray.empty, ()))), ((0 : Int), ([], ())))).2).2).1)).1).2).2).2).1) (t7 ++ ((List.getD t42 (Int.toNat t44) (((0 : Int), ((0 : Int), (ByteArray.empty, ()))), ((0 : Int), ([], ())))) :: ([] : List ((Int × (Int × (ByteArray × Unit))) × (Int × ((List (Int × (Int × (ByteArray × Unit)))) × Unit)))))) t42 t43 (Go.IntKind.wrap .i64 (t44 + (1 : Int)))
            else
              none
            else
              none
            else
              none
            else
              none
            else
              none
        else
          none
      else
        none
    else
      none
  else
    x1 ()
def L3 (N : Nat) : Loops (Bool × Unit) := fun k ρ K => match Nat.beq k 12 with
  | true => (match adH ρ H3_12.hd with
    | some v => W3_12 N (fun t4 => K .ret (encH [(8, .bo)] (t4, ()))) (fun _ => K (.exit 0) (encH [] ())) N v.1 v.2.2.1.1 v.2.2.1.2.1 v.2.2.1.2.2.1 v.2.2.1.2.2.2.1 v.2.2.1.2.2.2.2.1 v.2.2.1.2.2.2.2.2.1 v.2.2.2.1 v.2.2.2.2.1 v.2.2.2.2.2.1 v.2.2.2.2.2.2.1
    | none => none)
  | false => none
def F3 (N : Nat) (p0 : Int) (p1 : List ((Int × Int × ByteArray × Unit) × Int × (List (Int × Int × ByteArray × Unit)) × Unit)) : Option (Bool × Unit) :=
  bif (!((((Go.Inc.regNew p0).2).1) == (Go.Inc.regOwn p0))) then
    some (false, ())
  else
    bif (!(((Go.Inc.regNew p0).2).1)) then
      bif (Go.Inc.okSS ((Go.Inc.regNew p0).1) ((0 : Int), (((0 : Int), ((0 : Int), (ByteArray.empty, ()))), ((0 : Int), (([] : List (Int × (Int × (ByteArray × Unit)))), ()))))) then
        bif (Go.Inc.sameS ((Go.Inc.regNew p0).1) ((0 : Int), (((0 : Int), ((0 : Int), (ByteArray.empty, ()))), ((0 : Int), (([] : List (Int × (Int × (ByteArray × Unit)))), ()))))) then
          some (true, ())
        else
          some ((Go.Inc.regNew p0).2)
      else
        none
    else
      bif (Go.Inc.okDs p1) then
        bif (Go.Inc.greatD p1) then
          bif (Go.Inc.okSS ((Go.Inc.regNew p0).1) ((0 : Int), (((0 : Int), ((0 : Int), (ByteArray.empty, ()))), ((0 : Int), (([] : List (Int × (Int × (ByteArray × Unit)))), ()))))) then
            bif (Go.Inc.sameS ((Go.Inc.regNew p0).1) ((0 : Int), (((0 : Int), ((0 : Int), (ByteArray.empty, ()))), ((0 : Int), (([] : List (Int × (Int × (ByteArray × Unit)))), ()))))) then
              some (true, ())
            else
              some ((Go.Inc.regNew p0).2)
          else
            none
        else
          bif (Go.Inc.okSS ((Go.Inc.regNew p0).1) (Go.Inc.regState p0 ([] : List ((Int × (Int × (ByteArray × Unit))) × (Int × ((List (Int × (Int × (ByteArray × Unit)))) × Unit)))))) then
            bif (!(Go.Inc.sameS ((Go.Inc.regNew p0).1) (Go.Inc.regState p0 ([] : List ((Int × (Int × (ByteArray × Unit))) × (Int × ((List (Int × (Int × (ByteArray × Unit)))) × Unit))))))) then
              some (false, ())
            else
              W3_12 N
              (fun t4 =>
                some (t4, ()))
              (fun (_ : Unit) =>
                some (true, ()))
              N p0 (((Go.Inc.regNew p0).1).1) (((((Go.Inc.regNew p0).1).2).1).1) ((((((Go.Inc.regNew p0).1).2).1).2).1) (((((((Go.Inc.regNew p0).1).2).1).2).2).1) (((((Go.Inc.regNew p0).1).2).2).1) ((((((Go.Inc.regNew p0).1).2).2).2).1) ([] : List ((Int × (Int × (ByteArray × Unit))) × (Int × ((List (Int × (Int × (ByteArray × Unit)))) × Unit)))) p1 (((List.length p1) : Nat) : Int) (0 : Int)
          else
            none
      else
        none
theorem loops3 (N : Nat) : loopsOk C3 (L3 N) Go.Proofs.Tryd.f3 := ⟨trivial, ⟨⟨trivial, ⟨⟨trivial, trivial⟩, trivial⟩⟩, ⟨trivial, ⟨⟨trivial, ⟨⟨trivial, trivial⟩, trivial⟩⟩, ⟨⟨trivial, ⟨⟨trivial, trivial⟩, trivial⟩⟩, ⟨trivial, ⟨⟨trivial, ⟨⟨trivial, trivial⟩, trivial⟩⟩, ⟨⟨trivial, ⟨loopOk_of H3_12 N (fun K n v => W3_12 N (fun t4 => K .ret (encH [(8, .bo)] (t4, ()))) (fun _ => K (.exit 0) (encH [] ())) n v.1 v.2.2.1.1 v.2.2.1.2.1 v.2.2.1.2.2.1 v.2.2.1.2.2.2.1 v.2.2.1.2.2.2.2.1 v.2.2.1.2.2.2.2.2.1 v.2.2.2.1 v.2.2.2.2.1 v.2.2.2.2.2.1 v.2.2.2.2.2.2.1) (by kernel_rfl) (fun K v => by kernel_rfl) (fun K v => by kernel_rfl) (fun K n v => by kernel_rfl), ⟨trivial, ⟨⟨trivial, trivial⟩, ⟨⟨trivial, ⟨trivial, ⟨⟨trivial, ⟨⟨trivial, trivial⟩, trivial⟩⟩, ⟨⟨trivial, ⟨⟨⟨trivial, ⟨⟨trivial, trivial⟩, trivial⟩⟩, trivial⟩, trivial⟩⟩, ⟨⟨trivial, ⟨⟨trivial, trivial⟩, trivial⟩⟩, ⟨trivial, ⟨trivial, ⟨trivial, ⟨⟨trivial, trivial⟩, trivial⟩⟩⟩⟩⟩⟩⟩⟩⟩, trivial⟩⟩⟩⟩⟩, ⟨trivial, trivial⟩⟩⟩⟩⟩⟩⟩⟩⟩
theorem runs3 (N : Nat) (x : S3.ta.den) : run C3 S3 (L3 N) Go.Proofs.Tryd.f3 x = F3 N x.1 x.2.1 := by kernel_rfl


end Go.L13
