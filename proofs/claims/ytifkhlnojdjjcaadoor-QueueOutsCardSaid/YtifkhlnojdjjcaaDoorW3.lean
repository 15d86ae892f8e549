/- The walks of package queue and its statements. Printed by a program of this session. -/
import Derived.Test.YtifkhlnojdjjcaaDoorW0
set_option linter.unusedVariables false
set_option maxRecDepth 100000
namespace Go.L15
open Go Go.Abs Go.Inc

/-! ### 14: incognito/incognitoref07.Same -/
def W14_4 {β : Type} (N : Nat) (x0 : Bool → Option β) (x1 : Unit → Option β) : Nat → (List (Int × Int × ByteArray × Unit)) → (List (Int × Int × ByteArray × Unit)) → Int → Option β
  | 0, _, _, _ => none
  | n + 1, t0, t1, t5 =>
  bif decide (t5 < (((List.length t0) : Nat) : Int)) then
    bif ((decide ((0 : Int) ≤ t5)) && (decide (t5 < (((List.length t0) : Nat) : Int)))) then
      bif ((decide ((0 : Int) ≤ t5)) && (decide (t5 < (((List.length t1) : Nat) : Int)))) then
        bif (!((((List.getD t0 (Int.toNat t5) ((0 : Int), ((0 : Int), (ByteArray.empty, ())))).1) == ((List.getD t1 (Int.toNat t5) ((0 : Int), ((0 : Int), (ByteArray.empty, ())))).1)) && (((((List.getD t0 (Int.toNat t5) ((0 : Int), ((0 : Int), (ByteArray.empty, ())))).2).1) == (((List.getD t1 (Int.toNat t5) ((0 : Int), ((0 : Int), (ByteArray.empty, ())))).2).1)) && ((((((List.getD t0 (Int.toNat t5) ((0 : Int), ((0 : Int), (ByteArray.empty, ())))).2).2).1) == ((((List.getD t1 (Int.toNat t5) ((0 : Int), ((0 : Int), (ByteArray.empty, ())))).2).2).1)) && true)))) then
          x0 false
        else
          W14_4 N x0 x1 n t0 t1 (Go.IntKind.wrap .i64 (t5 + (1 : Int)))
      else
        none
    else
      none
  else
    x1 ()
def L14 (N : Nat) : Loops (Bool × Unit) := fun k ρ K => match Nat.beq k 4 with
  | true => (match adH ρ H14_4.hd with
    | some v => W14_4 N (fun t4 => K .ret (encH [(8, .bo)] (t4, ()))) (fun _ => K (.exit 0) (encH [] ())) N v.1 v.2.1 v.2.2.1
    | none => none)
  | false => none
def F14 (N : Nat) (p0 : List (Int × Int × ByteArray × Unit)) (p1 : List (Int × Int × ByteArray × Unit)) : Option (Bool × Unit) :=
  bif ((((List.length p0) : Nat) : Int) != (((List.length p1) : Nat) : Int)) then
    some (false, ())
  else
    W14_4 N
      (fun t4 =>
        some (t4, ()))
      (fun (_ : Unit) =>
        some (true, ()))
      N p0 p1 (0 : Int)
theorem loops14 (N : Nat) : loopsOk C14 (L14 N) Go.Proofs.Tryd.f14 := ⟨trivial, ⟨⟨trivial, ⟨⟨trivial, trivial⟩, trivial⟩⟩, ⟨⟨trivial, ⟨loopOk_of H14_4 N (fun K n v => W14_4 N (fun t4 => K .ret (encH [(8, .bo)] (t4, ()))) (fun _ => K (.exit 0) (encH [] ())) n v.1 v.2.1 v.2.2.1) (by kernel_rfl) (fun K v => by kernel_rfl) (fun K v => by kernel_rfl) (fun K n v => by kernel_rfl), ⟨⟨trivial, ⟨trivial, trivial⟩⟩, ⟨⟨trivial, ⟨⟨trivial, trivial⟩, trivial⟩⟩, trivial⟩⟩⟩⟩, ⟨trivial, trivial⟩⟩⟩⟩
theorem runs14 (N : Nat) (x : S14.ta.den) : run C14 S14 (L14 N) Go.Proofs.Tryd.f14 x = F14 N x.1 x.2.1 := by kernel_rfl

/-! ### 7: incognito/queue.New -/
def L7 (_ : Nat) : Loops ((Int × (Int × Int × ByteArray × Unit) × Int × (List (Int × Int × ByteArray × Unit)) × Unit) × Bool × Unit) := fun _ _ _ => none
def F7 (N : Nat) (p0 : Int) : Option ((Int × (Int × Int × ByteArray × Unit) × Int × (List (Int × Int × ByteArray × Unit)) × Unit) × Bool × Unit) :=
  bif (p0 != (5 : Int)) then
    bif (p0 != (6 : Int)) then
      some (((0 : Int), (((0 : Int), ((0 : Int), (ByteArray.empty, ()))), ((0 : Int), (([] : List (Int × (Int × (ByteArray × Unit)))), ())))), (false, ()))
    else
      some ((p0, (((0 : Int), ((0 : Int), (ByteArray.empty, ()))), ((0 : Int), (([] : List (Int × (Int × (ByteArray × Unit)))), ())))), (true, ()))
  else
    some ((p0, (((0 : Int), ((0 : Int), (ByteArray.empty, ()))), ((0 : Int), (([] : List (Int × (Int × (ByteArray × Unit)))), ())))), (true, ()))
theorem loops7 (N : Nat) : loopsOk C7 (L7 N) Go.Proofs.Tryd.f7 := ⟨trivial, ⟨⟨trivial, ⟨⟨trivial, trivial⟩, trivial⟩⟩, ⟨trivial, trivial⟩⟩⟩
theorem runs7 (N : Nat) (x : S7.ta.den) : run C7 S7 (L7 N) Go.Proofs.Tryd.f7 x = F7 N x.1 := by kernel_rfl

/-! ### 37: incognito/value.IsWord -/
def W37_4 {β : Type} (N : Nat) (x0 : Bool → Option β) (x1 : Unit → Option β) : Nat → ByteArray → Int → Int → Option β
  | 0, _, _, _ => none
  | n + 1, t0, t23, t24 =>
  bif decide (t24 < t23) then
    bif ((decide ((0 : Int) ≤ t24)) && (decide (t24 < (((ByteArray.size t0) : Nat) : Int)))) then
      bif decide ((((UInt8.toNat (List.getD (Array.toList (ByteArray.data t0)) (Int.toNat t24) (0 : UInt8))) : Nat) : Int) ≥ (97 : Int)) then
        bif decide ((((UInt8.toNat (List.getD (Array.toList (ByteArray.data t0)) (Int.toNat t24) (0 : UInt8))) : Nat) : Int) ≤ (122 : Int)) then
          W37_4 N x0 x1 n t0 t23 (Go.IntKind.wrap .i64 (t24 + (1 : Int)))
        else
          bif decide ((((UInt8.toNat (List.getD (Array.toList (ByteArray.data t0)) (Int.toNat t24) (0 : UInt8))) : Nat) : Int) ≥ (48 : Int)) then
            bif decide ((((UInt8.toNat (List.getD (Array.toList (ByteArray.data t0)) (Int.toNat t24) (0 : UInt8))) : Nat) : Int) ≤ (57 : Int)) then
              W37_4 N x0 x1 n t0 t23 (Go.IntKind.wrap .i64 (t24 + (1 : Int)))
            else
              bif (!((((UInt8.toNat (List.getD (Array.toList (ByteArray.data t0)) (Int.toNat t24) (0 : UInt8))) : Nat) : Int) == (95 : Int))) then
              x0 false
            else
              W37_4 N x0 x1 n t0 t23 (Go.IntKind.wrap .i64 (t24 + (1 : Int)))
          else
            bif (!((((UInt8.toNat (List.getD (Array.toList (ByteArray.data t0)) (Int.toNat t24) (0 : UInt8))) : Nat) : Int) == (95 : Int))) then
              x0 false
            else
              W37_4 N x0 x1 n t0 t23 (Go.IntKind.wrap .i64 (t24 + (1 : Int)))
      else
        bif decide ((((UInt8.toNat (List.getD (Array.toList (ByteArray.data t0)) (Int.toNat t24) (0 : UInt8))) : Nat) : Int) ≥ (48 : Int)) then
          bif decide ((((UInt8.toNat (List.getD (Array.toList (ByteArray.data t0)) (Int.toNat t24) (0 : UInt8))) : Nat) : Int) ≤ (57 : Int)) then
            W37_4 N x0 x1 n t0 t23 (Go.IntKind.wrap .i64 (t24 + (1 : Int)))
          else
            bif (!((((UInt8.toNat (List.getD (Array.toList (ByteArray.data t0)) (Int.toNat t24) (0 : UInt8))) : Nat) : Int) == (95 : Int))) then
              x0 false
            else
              W37_4 N x0 x1 n t0 t23 (Go.IntKind.wrap .i64 (t24 + (1 : Int)))
        else
          bif (!((((UInt8.toNat (List.getD (Array.toList (ByteArray.data t0)) (Int.toNat t24) (0 : UInt8))) : Nat) : Int) == (95 : Int))) then
            x0 false
          else
            W37_4 N x0 x1 n t0 t23 (Go.IntKind.wrap .i64 (t24 + (1 : Int)))
    else
      none
  else
    x1 ()
def L37 (N : Nat) : Loops (Bool × Unit) := fun k ρ K => match Nat.beq k 4 with
  | true => (match adH ρ H37_4.hd with
    | some v => W37_4 N (fun t2 => K .ret (encH [(4, .bo)] (t2, ()))) (fun _ => K (.exit 0) (encH [] ())) N v.1 v.2.1 v.2.2.1
    | none => none)
  | false => none
def F37 (N : Nat) (p0 : ByteArray) : Option (Bool × Unit) :=
  bif ((ByteArray.toList p0) == (ByteArray.toList (strL []))) then
    some (false, ())
  else
    bif decide ((((ByteArray.size p0) : Nat) : Int) > (40 : Int)) then
      some (false, ())
    else
      bif ((decide ((0 : Int) ≤ (0 : Int))) && (decide ((0 : Int) < (((ByteArray.size p0) : Nat) : Int)))) then
        bif decide ((((UInt8.toNat (List.getD (Array.toList (ByteArray.data p0)) (Int.toNat (0 : Int)) (0 : UInt8))) : Nat) : Int) < (97 : Int)) then
          some (false, ())
        else
          bif ((decide ((0 : Int) ≤ (0 : Int))) && (decide ((0 : Int) < (((ByteArray.size p0) : Nat) : Int)))) then
            bif decide ((((UInt8.toNat (List.getD (Array.toList (ByteArray.data p0)) (Int.toNat (0 : Int)) (0 : UInt8))) : Nat) : Int) > (122 : Int)) then
              some (false, ())
            else
              W37_4 N
              (fun t2 =>
                some (t2, ()))
              (fun (_ : Unit) =>
                some (true, ()))
              N p0 (((ByteArray.size p0) : Nat) : Int) (0 : Int)
          else
            none
      else
        none
theorem loops37 (N : Nat) : loopsOk C37 (L37 N) Go.Proofs.Tryd.f37 := ⟨trivial, ⟨⟨trivial, ⟨⟨trivial, trivial⟩, trivial⟩⟩, ⟨⟨trivial, ⟨loopOk_of H37_4 N (fun K n v => W37_4 N (fun t2 => K .ret (encH [(4, .bo)] (t2, ()))) (fun _ => K (.exit 0) (encH [] ())) n v.1 v.2.1 v.2.2.1) (by kernel_rfl) (fun K v => by kernel_rfl) (fun K v => by kernel_rfl) (fun K n v => by kernel_rfl), ⟨trivial, ⟨⟨trivial, trivial⟩, ⟨⟨trivial, ⟨trivial, ⟨trivial, ⟨⟨trivial, trivial⟩, trivial⟩⟩⟩⟩, trivial⟩⟩⟩⟩⟩, ⟨trivial, trivial⟩⟩⟩⟩
theorem runs37 (N : Nat) (x : S37.ta.den) : run C37 S37 (L37 N) Go.Proofs.Tryd.f37 x = F37 N x.1 := by kernel_rfl

/-! ### 29: incognito/value.Right -/
def L29 (_ : Nat) : Loops (Bool × Unit) := fun _ _ _ => none
def F29 (N : Nat) (p0 : Int × Int × ByteArray × Unit) : Option (Bool × Unit) :=
  bif (p0.1 == (0 : Int)) then
    some (((p0.1 == (0 : Int)) && ((p0.2.1 == (0 : Int)) && ((p0.2.2.1 == ByteArray.empty) && true))), ())
  else
    bif (p0.1 == (1 : Int)) then
      some (((ByteArray.toList p0.2.2.1) == (ByteArray.toList (strL []))), ())
    else
      bif (p0.1 == (2 : Int)) then
        bif (p0.2.1 == (0 : Int)) then
          bif (Go.Inc.okS p0.2.2.1) then
            some ((Go.Inc.isWord p0.2.2.1), ())
          else
            none
        else
          some (false, ())
      else
        bif ((p0.1 == (3 : Int)) && ((p0.2.1 == (1 : Int)) && ((p0.2.2.1 == ByteArray.empty) && true))) then
          some (true, ())
        else
          some (((p0.1 == (3 : Int)) && ((p0.2.1 == (0 : Int)) && ((p0.2.2.1 == ByteArray.empty) && true))), ())
theorem loops29 (N : Nat) : loopsOk C29 (L29 N) Go.Proofs.Tryd.f29 := ⟨trivial, ⟨⟨trivial, ⟨trivial, ⟨⟨trivial, trivial⟩, ⟨trivial, ⟨⟨trivial, trivial⟩, ⟨trivial, ⟨⟨trivial, trivial⟩, trivial⟩⟩⟩⟩⟩⟩⟩, ⟨trivial, trivial⟩⟩⟩
theorem runs29 (N : Nat) (x : S29.ta.den) : run C29 S29 (L29 N) Go.Proofs.Tryd.f29 x = F29 N x.1 := by kernel_rfl

/-! ### 36: incognito/sign.find$1 -/
def L36 (_ : Nat) : Loops (HS.den X36.hout) := fun _ _ _ => none
def F36 (N : Nat) (t0a : Int) (t0ba : Int) (t0bba : ByteArray) (t0bbba : Int) (t0bbbba : Bool) (b1000a : Int) (b1001a : Int) : Option (HS.den X36.hout) :=
  bif (t0a == b1000a) then
    some ((t0ba == b1001a), ((b1000a, ()), ((b1001a, ()), ())))
  else
    some (false, ((b1000a, ()), ((b1001a, ()), ())))
theorem loops36 (N : Nat) : loopsOk C36 (L36 N) Go.Proofs.Tryd.f36 := ⟨trivial, ⟨trivial, trivial⟩⟩
theorem runs36 (N : Nat) (x : HS.den X36.hin) : runX C36 X36 (L36 N) Go.Proofs.Tryd.f36 x = F36 N x.1.1 x.1.2.1 x.1.2.2.1 x.1.2.2.2.1 x.1.2.2.2.2.1 x.2.2.2.1.1 x.2.2.2.2.1.1 := by kernel_rfl

/-! ### 38: incognito/sign.domain -/
def L38 (_ : Nat) : Loops (Int × Unit) := fun _ _ _ => none
def F38 (N : Nat) (p0 : Int) : Option (Int × Unit) :=
  bif (p0 == (118 : Int)) then
    some ((2 : Int), ())
  else
    bif (p0 == (102 : Int)) then
      some ((3 : Int), ())
    else
      bif (p0 == (111 : Int)) then
        some ((4 : Int), ())
      else
        some ((5 : Int), ())
theorem loops38 (N : Nat) : loopsOk C38 (L38 N) Go.Proofs.Tryd.f38 := ⟨trivial, ⟨⟨trivial, ⟨trivial, ⟨⟨trivial, trivial⟩, ⟨trivial, ⟨⟨trivial, trivial⟩, ⟨trivial, ⟨⟨trivial, trivial⟩, trivial⟩⟩⟩⟩⟩⟩⟩, ⟨trivial, trivial⟩⟩⟩
theorem runs38 (N : Nat) (x : S38.ta.den) : run C38 S38 (L38 N) Go.Proofs.Tryd.f38 x = F38 N x.1 := by kernel_rfl

/-! ### 24: incognito/queue.pop -/
def L24 (_ : Nat) : Loops ((List (Int × Int × ByteArray × Unit)) × (Int × Int × ByteArray × Unit) × Unit) := fun _ _ _ => none
def F24 (N : Nat) (p0 : Int × (Int × Int × ByteArray × Unit) × Int × (List (Int × Int × ByteArray × Unit)) × Unit) : Option ((List (Int × Int × ByteArray × Unit)) × (Int × Int × ByteArray × Unit) × Unit) :=
  bif ((((List.length p0.2.2.2.1) : Nat) : Int) == (0 : Int)) then
    some (([] : List (Int × (Int × (ByteArray × Unit)))), (((0 : Int), ((0 : Int), (ByteArray.empty, ()))), ()))
  else
    bif (p0.1 == (5 : Int)) then
      bif ((decide ((0 : Int) ≤ (1 : Int))) && ((decide ((1 : Int) ≤ (((List.length p0.2.2.2.1) : Nat) : Int))) && (decide ((((List.length p0.2.2.2.1) : Nat) : Int) ≤ (((List.length p0.2.2.2.1) : Nat) : Int))))) then
        bif decide (((List.length (Go.Abs.sub p0.2.2.2.1 (1 : Int) (((List.length p0.2.2.2.1) : Nat) : Int))) * 32) ≤ 140737488351232) then
          bif ((decide ((0 : Int) ≤ (0 : Int))) && (decide ((0 : Int) < (((List.length p0.2.2.2.1) : Nat) : Int)))) then
            bif decide ((List.length (Go.Abs.sub p0.2.2.2.1 (1 : Int) (((List.length p0.2.2.2.1) : Nat) : Int))) = (List.length (Go.Abs.sub p0.2.2.2.1 (1 : Int) (((List.length p0.2.2.2.1) : Nat) : Int)))) then
              some ((Go.Abs.sub p0.2.2.2.1 (1 : Int) (((List.length p0.2.2.2.1) : Nat) : Int)), ((List.getD p0.2.2.2.1 (Int.toNat (0 : Int)) ((0 : Int), ((0 : Int), (ByteArray.empty, ())))), ()))
            else
              none
          else
            none
        else
          none
      else
        none
    else
      bif ((decide ((0 : Int) ≤ (0 : Int))) && ((decide ((0 : Int) ≤ (Go.IntKind.wrap .i64 ((((List.length p0.2.2.2.1) : Nat) : Int) - (1 : Int))))) && (decide ((Go.IntKind.wrap .i64 ((((List.length p0.2.2.2.1) : Nat) : Int) - (1 : Int))) ≤ (((List.length p0.2.2.2.1) : Nat) : Int))))) then
        bif decide (((List.length (Go.Abs.sub p0.2.2.2.1 (0 : Int) (Go.IntKind.wrap .i64 ((((List.length p0.2.2.2.1) : Nat) : Int) - (1 : Int))))) * 32) ≤ 140737488351232) then
          bif ((decide ((0 : Int) ≤ (Go.IntKind.wrap .i64 ((((List.length p0.2.2.2.1) : Nat) : Int) - (1 : Int))))) && (decide ((Go.IntKind.wrap .i64 ((((List.length p0.2.2.2.1) : Nat) : Int) - (1 : Int))) < (((List.length p0.2.2.2.1) : Nat) : Int)))) then
            bif decide ((List.length (Go.Abs.sub p0.2.2.2.1 (0 : Int) (Go.IntKind.wrap .i64 ((((List.length p0.2.2.2.1) : Nat) : Int) - (1 : Int))))) = (List.length (Go.Abs.sub p0.2.2.2.1 (0 : Int) (Go.IntKind.wrap .i64 ((((List.length p0.2.2.2.1) : Nat) : Int) - (1 : Int)))))) then
              some ((Go.Abs.sub p0.2.2.2.1 (0 : Int) (Go.IntKind.wrap .i64 ((((List.length p0.2.2.2.1) : Nat) : Int) - (1 : Int)))), ((List.getD p0.2.2.2.1 (Int.toNat (Go.IntKind.wrap .i64 ((((List.length p0.2.2.2.1) : Nat) : Int) - (1 : Int)))) ((0 : Int), ((0 : Int), (ByteArray.empty, ())))), ()))
            else
              none
          else
            none
        else
          none
      else
        none
theorem loops24 (N : Nat) : loopsOk C24 (L24 N) Go.Proofs.Tryd.f24 := ⟨trivial, ⟨trivial, ⟨⟨trivial, ⟨⟨trivial, trivial⟩, ⟨trivial, ⟨⟨trivial, trivial⟩, trivial⟩⟩⟩⟩, ⟨trivial, trivial⟩⟩⟩⟩
theorem runs24 (N : Nat) (x : S24.ta.den) : run C24 S24 (L24 N) Go.Proofs.Tryd.f24 x = F24 N x.1 := by kernel_rfl

/-! ### 8: incognito/incognitolaw15.own -/
def L8 (_ : Nat) : Loops (Bool × Unit) := fun _ _ _ => none
def F8 (N : Nat) (p0 : Int) : Option (Bool × Unit) :=
  bif (p0 == (5 : Int)) then
    some (true, ())
  else
    some ((p0 == (6 : Int)), ())
theorem loops8 (N : Nat) : loopsOk C8 (L8 N) Go.Proofs.Tryd.f8 := ⟨trivial, ⟨trivial, trivial⟩⟩
theorem runs8 (N : Nat) (x : S8.ta.den) : run C8 S8 (L8 N) Go.Proofs.Tryd.f8 x = F8 N x.1 := by kernel_rfl

/-! ### 21: incognito/incognitoref15.left -/
def W21_8 {β : Type} (N : Nat) (x3 : Int → (List ((Int × Int × ByteArray × Unit) × Int × (List (Int × Int × ByteArray × Unit)) × Unit)) → Nat → Int → Int → (List Bool) → Option β) : Nat → Int → (List ((Int × Int × ByteArray × Unit) × Int × (List (Int × Int × ByteArray × Unit)) × Unit)) → Nat → Int → Int → Int → (List Bool) → Option β
  | 0, _, _, _, _, _, _, _ => none
  | n + 1, t0, t1, t5, t6, t7, t8, b13 =>
  bif decide (t8 < t6) then
    bif ((decide ((0 : Int) ≤ t8)) && (decide (t8 < (((List.length t1) : Nat) : Int)))) then
      bif ((((List.getD t1 (Int.toNat t8) (((0 : Int), ((0 : Int), (ByteArray.empty, ()))), ((0 : Int), ([], ())))).2).1) == (9 : Int)) then
        bif ((decide ((0 : Int) ≤ t8)) && (decide (t8 < ((t5 : Nat) : Int)))) then
          bif decide ((Int.toNat t8) < (List.length b13)) then
            bif (!(List.getD b13 (Int.toNat t8) false)) then
              bif (t0 == (6 : Int)) then
              W21_8 N x3 n t0 t1 t5 t6 t8 (Go.IntKind.wrap .i64 (t8 + (1 : Int))) b13
            else
              bif decide (t7 < (0 : Int)) then
              W21_8 N x3 n t0 t1 t5 t6 t8 (Go.IntKind.wrap .i64 (t8 + (1 : Int))) b13
            else
              W21_8 N x3 n t0 t1 t5 t6 t7 (Go.IntKind.wrap .i64 (t8 + (1 : Int))) b13
            else
              W21_8 N x3 n t0 t1 t5 t6 t7 (Go.IntKind.wrap .i64 (t8 + (1 : Int))) b13
          else
            none
        else
          none
      else
        W21_8 N x3 n t0 t1 t5 t6 t7 (Go.IntKind.wrap .i64 (t8 + (1 : Int))) b13
    else
      none
  else
    x3 t0 t1 t5 t6 t7 b13
def W21_3 {β : Type} (N : Nat) (x1 : (List ((Int × Int × ByteArray × Unit) × Int × (List (Int × Int × ByteArray × Unit)) × Unit)) → Nat → (List Bool) → Option β) : Nat → Int → (List ((Int × Int × ByteArray × Unit) × Int × (List (Int × Int × ByteArray × Unit)) × Unit)) → Nat → Int → (List Bool) → Option β
  | 0, _, _, _, _, _ => none
  | n + 1, t0, t1, t5, t6, b13 =>
  bif decide (t6 < (((List.length t1) : Nat) : Int)) then
    bif ((decide ((0 : Int) ≤ t6)) && (decide (t6 < (((List.length t1) : Nat) : Int)))) then
      bif ((((List.getD t1 (Int.toNat t6) (((0 : Int), ((0 : Int), (ByteArray.empty, ()))), ((0 : Int), ([], ())))).2).1) != (10 : Int)) then
        W21_3 N x1 n t0 t1 t5 (Go.IntKind.wrap .i64 (t6 + (1 : Int))) b13
      else
        W21_8 N
          (fun t0 t1 t5 t6 t7 b13 =>
            bif decide (t7 ≥ (0 : Int)) then
              bif ((decide ((0 : Int) ≤ t7)) && (decide (t7 < ((t5 : Nat) : Int)))) then
              bif decide ((Int.toNat t7) < (List.length b13)) then
              W21_3 N x1 n t0 t1 t5 (Go.IntKind.wrap .i64 (t6 + (1 : Int))) (List.set b13 (Int.toNat t7) true)
            else
              none
            else
              none
            else
              W21_3 N x1 n t0 t1 t5 (Go.IntKind.wrap .i64 (t6 + (1 : Int))) b13)
          N t0 t1 t5 t6 (-(1 : Int)) (0 : Int) b13
    else
      none
  else
    x1 t1 t5 b13
def W21_16 {β : Type} (N : Nat) (x5 : (List (Int × Int × ByteArray × Unit)) → Option β) : Nat → (List ((Int × Int × ByteArray × Unit) × Int × (List (Int × Int × ByteArray × Unit)) × Unit)) → Nat → (List (Int × Int × ByteArray × Unit)) → Int → (List Bool) → Option β
  | 0, _, _, _, _, _ => none
  | n + 1, t1, t5, t9, t10, b13 =>
  bif decide (t10 < (((List.length t1) : Nat) : Int)) then
    bif ((decide ((0 : Int) ≤ t10)) && (decide (t10 < (((List.length t1) : Nat) : Int)))) then
      bif ((((List.getD t1 (Int.toNat t10) (((0 : Int), ((0 : Int), (ByteArray.empty, ()))), ((0 : Int), ([], ())))).2).1) == (9 : Int)) then
        bif ((decide ((0 : Int) ≤ t10)) && (decide (t10 < ((t5 : Nat) : Int)))) then
          bif decide ((Int.toNat t10) < (List.length b13)) then
            bif (!(List.getD b13 (Int.toNat t10) false)) then
              bif ((decide ((0 : Int) ≤ t10)) && (decide (t10 < (((List.length t1) : Nat) : Int)))) then
              bif ((decide ((0 : Int) ≤ (0 : Int))) && (decide ((0 : Int) < (((List.length ((((List.getD t1 (Int.toNat t10) (((0 : Int), ((0 : Int), (ByteArray.empty, ()))), ((0 : Int), ([], ())))).2).2).1)) : Nat) : Int)))) then
              bif decide ((((List.length t9) + (List.length ((List.getD ((((List.getD t1 (Int.toNat t10) (((0 : Int), ((0 : Int), (ByteArray.empty, ()))), ((0 : Int), ([], ())))).2).2).1) (Int.toNat (0 : Int)) ((0 : Int), ((0 : Int), (ByteArray.empty, ())))) :: ([] : List (Int × (Int × (ByteArray × Unit))))))) * 32) ≤ 140737488351232) then
              W21_16 N x5 n t1 t5 (t9 ++ ((List.getD ((((List.getD t1 (Int.toNat t10) (((0 : Int), ((0 : Int), (ByteArray.empty, ()))), ((0 : Int), ([], ())))).2).2).1) (Int.toNat (0 : Int)) ((0 : Int), ((0 : Int), (ByteArray.empty, ())))) :: ([] : List (Int × (Int × (ByteArray × Unit)))))) (Go.IntKind.wrap .i64 (t10 + (1 : Int))) b13
            else
              none
            else
              none
            else
              none
            else
              W21_16 N x5 n t1 t5 t9 (Go.IntKind.wrap .i64 (t10 + (1 : Int))) b13
          else
            none
        else
          none
      else
        W21_16 N x5 n t1 t5 t9 (Go.IntKind.wrap .i64 (t10 + (1 : Int))) b13
    else
      none
  else
    x5 t9
def L21 (N : Nat) : Loops ((List (Int × Int × ByteArray × Unit)) × Unit) := fun k ρ K => match Nat.beq k 8 with
  | true => (match adH ρ H21_8.hd with
    | some v => W21_8 N (fun t0 t1 t5 t6 t7 b13 => K (.exit 2) (encH [(0, (.i .i64)), (2, (.sl (.pr (.pr (.int .i64) (.pr (.int .i64) (.pr .str .un))) (.pr (.int .i64) (.pr (.sl (.pr (.int .i64) (.pr (.int .i64) (.pr .str .un)))) .un))) .no)), (10, (.os 13)), (12, (.i .i64)), (14, (.i .i64)), (27, (.ar .bool))] (t0, (t1, (t5, (t6, (t7, (b13, ())))))))) N v.1 v.2.1 v.2.2.1 v.2.2.2.1 v.2.2.2.2.1 v.2.2.2.2.2.1 v.2.2.2.2.2.2.1
    | none => none)
  | false => match Nat.beq k 3 with
  | true => (match adH ρ H21_3.hd with
    | some v => W21_3 N (fun t1 t5 b13 => K (.exit 0) (encH [(2, (.sl (.pr (.pr (.int .i64) (.pr (.int .i64) (.pr .str .un))) (.pr (.int .i64) (.pr (.sl (.pr (.int .i64) (.pr (.int .i64) (.pr .str .un)))) .un))) .no)), (10, (.os 13)), (27, (.ar .bool))] (t1, (t5, (b13, ()))))) N v.1 v.2.1 v.2.2.1 v.2.2.2.1 v.2.2.2.2.1
    | none => none)
  | false => match Nat.beq k 16 with
  | true => (match adH ρ H21_16.hd with
    | some v => W21_16 N (fun t9 => K (.exit 4) (encH [(18, (.sl (.pr (.int .i64) (.pr (.int .i64) (.pr .str .un))) (.own 86)))] (t9, ()))) N v.1 v.2.1 v.2.2.1 v.2.2.2.1 v.2.2.2.2.1
    | none => none)
  | false => none
def F21 (N : Nat) (p0 : Int) (p1 : List ((Int × Int × ByteArray × Unit) × Int × (List (Int × Int × ByteArray × Unit)) × Unit)) : Option ((List (Int × Int × ByteArray × Unit)) × Unit) :=
  bif ((decide ((0 : Int) ≤ (((List.length p1) : Nat) : Int))) && ((decide (((((List.length p1) : Nat) : Int) * ((1 : Nat) : Int)) ≤ (140737488351232 : Int))) && ((((List.length p1) : Nat) : Int) == (((List.length p1) : Nat) : Int)))) then
    W21_3 N
      (fun t1 t5 b13 =>
        W21_16 N
          (fun t9 =>
            some (t9, ()))
          N t1 t5 ([] : List (Int × (Int × (ByteArray × Unit)))) (0 : Int) b13)
      N p0 p1 (Int.toNat (((List.length p1) : Nat) : Int)) (0 : Int) (List.replicate (Int.toNat (((List.length p1) : Nat) : Int)) false)
  else
    none
theorem loops21 (N : Nat) : loopsOk C21 (L21 N) Go.Proofs.Tryd.f21 := ⟨trivial, ⟨trivial, ⟨⟨trivial, ⟨loopOk_of H21_3 N (fun K n v => W21_3 N (fun t1 t5 b13 => K (.exit 0) (encH [(2, (.sl (.pr (.pr (.int .i64) (.pr (.int .i64) (.pr .str .un))) (.pr (.int .i64) (.pr (.sl (.pr (.int .i64) (.pr (.int .i64) (.pr .str .un)))) .un))) .no)), (10, (.os 13)), (27, (.ar .bool))] (t1, (t5, (b13, ()))))) n v.1 v.2.1 v.2.2.1 v.2.2.2.1 v.2.2.2.2.1) (by kernel_rfl) (fun K v => by kernel_rfl) (fun K v => by kernel_rfl) (fun K n v => by kernel_rfl), ⟨⟨trivial, ⟨trivial, trivial⟩⟩, ⟨⟨⟨trivial, ⟨trivial, trivial⟩⟩, ⟨trivial, ⟨⟨trivial, ⟨loopOk_of H21_8 N (fun K n v => W21_8 N (fun t0 t1 t5 t6 t7 b13 => K (.exit 2) (encH [(0, (.i .i64)), (2, (.sl (.pr (.pr (.int .i64) (.pr (.int .i64) (.pr .str .un))) (.pr (.int .i64) (.pr (.sl (.pr (.int .i64) (.pr (.int .i64) (.pr .str .un)))) .un))) .no)), (10, (.os 13)), (12, (.i .i64)), (14, (.i .i64)), (27, (.ar .bool))] (t0, (t1, (t5, (t6, (t7, (b13, ())))))))) n v.1 v.2.1 v.2.2.1 v.2.2.2.1 v.2.2.2.2.1 v.2.2.2.2.2.1 v.2.2.2.2.2.2.1) (by kernel_rfl) (fun K v => by kernel_rfl) (fun K v => by kernel_rfl) (fun K n v => by kernel_rfl), ⟨⟨trivial, ⟨trivial, trivial⟩⟩, ⟨⟨trivial, ⟨trivial, trivial⟩⟩, trivial⟩⟩⟩⟩, ⟨trivial, ⟨trivial, trivial⟩⟩⟩⟩⟩, trivial⟩⟩⟩⟩, ⟨trivial, ⟨⟨trivial, ⟨loopOk_of H21_16 N (fun K n v => W21_16 N (fun t9 => K (.exit 4) (encH [(18, (.sl (.pr (.int .i64) (.pr (.int .i64) (.pr .str .un))) (.own 86)))] (t9, ()))) n v.1 v.2.1 v.2.2.1 v.2.2.2.1 v.2.2.2.2.1) (by kernel_rfl) (fun K v => by kernel_rfl) (fun K v => by kernel_rfl) (fun K n v => by kernel_rfl), ⟨⟨trivial, ⟨trivial, trivial⟩⟩, ⟨⟨trivial, ⟨trivial, trivial⟩⟩, trivial⟩⟩⟩⟩, ⟨trivial, trivial⟩⟩⟩⟩⟩⟩
theorem runs21 (N : Nat) (x : S21.ta.den) : run C21 S21 (L21 N) Go.Proofs.Tryd.f21 x = F21 N x.1 x.2.1 := by kernel_rfl

/-! ### 34: incognito/incognitoref07.IsWord -/
def W34_2 {β : Type} (N : Nat) (x0 : Bool → Option β) (x1 : ByteArray → Option β) : Nat → ByteArray → Int → Option β
  | 0, _, _ => none
  | n + 1, t0, t3 =>
  bif decide (t3 < (((ByteArray.size t0) : Nat) : Int)) then
    bif ((decide ((0 : Int) ≤ t3)) && (decide (t3 < (((ByteArray.size t0) : Nat) : Int)))) then
      bif (Go.Inc.ok8 (((UInt8.toNat (List.getD (Array.toList (ByteArray.data t0)) (Int.toNat t3) (0 : UInt8))) : Nat) : Int) (t3 == (0 : Int))) then
        bif (!(Go.Inc.letterGo (((UInt8.toNat (List.getD (Array.toList (ByteArray.data t0)) (Int.toNat t3) (0 : UInt8))) : Nat) : Int) (t3 == (0 : Int)))) then
          x0 false
        else
          W34_2 N x0 x1 n t0 (Go.IntKind.wrap .i64 (t3 + (1 : Int)))
      else
        none
    else
      none
  else
    x1 t0
def L34 (N : Nat) : Loops (Bool × Unit) := fun k ρ K => match Nat.beq k 2 with
  | true => (match adH ρ H34_2.hd with
    | some v => W34_2 N (fun t2 => K .ret (encH [(4, .bo)] (t2, ()))) (fun t0 => K (.exit 0) (encH [(0, .st)] (t0, ()))) N v.1 v.2.1
    | none => none)
  | false => none
def F34 (N : Nat) (p0 : ByteArray) : Option (Bool × Unit) :=
  W34_2 N
    (fun t2 =>
      some (t2, ()))
    (fun t0 =>
      bif decide ((((ByteArray.size t0) : Nat) : Int) ≥ (1 : Int)) then
        some (decide ((((ByteArray.size t0) : Nat) : Int) ≤ (40 : Int)), ())
      else
        some (false, ()))
    N p0 (0 : Int)
theorem loops34 (N : Nat) : loopsOk C34 (L34 N) Go.Proofs.Tryd.f34 := ⟨trivial, ⟨⟨trivial, ⟨loopOk_of H34_2 N (fun K n v => W34_2 N (fun t2 => K .ret (encH [(4, .bo)] (t2, ()))) (fun t0 => K (.exit 0) (encH [(0, .st)] (t0, ()))) n v.1 v.2.1) (by kernel_rfl) (fun K v => by kernel_rfl) (fun K v => by kernel_rfl) (fun K n v => by kernel_rfl), ⟨⟨trivial, ⟨trivial, trivial⟩⟩, ⟨⟨trivial, ⟨⟨trivial, trivial⟩, trivial⟩⟩, trivial⟩⟩⟩⟩, ⟨trivial, trivial⟩⟩⟩
theorem runs34 (N : Nat) (x : S34.ta.den) : run C34 S34 (L34 N) Go.Proofs.Tryd.f34 x = F34 N x.1 := by kernel_rfl

/-! ### 40: incognito/incognitoref09.OpName -/
def L40 (_ : Nat) : Loops (ByteArray × Unit) := fun _ _ _ => none
def F40 (N : Nat) (p0 : Int) : Option (ByteArray × Unit) :=
  bif (p0 == (1 : Int)) then
    some ((strL [119, 114, 105, 116, 101]), ())
  else
    bif (p0 == (2 : Int)) then
      some ((strL [114, 101, 97, 100]), ())
    else
      bif (p0 == (3 : Int)) then
        some ((strL [115, 119, 97, 112]), ())
      else
        bif (p0 == (4 : Int)) then
          some ((strL [97, 100, 100]), ())
        else
          bif (p0 == (5 : Int)) then
            some ((strL [100, 101, 108]), ())
          else
            bif (p0 == (6 : Int)) then
              some ((strL [104, 97, 115]), ())
            else
              bif (p0 == (7 : Int)) then
              some ((strL [112, 117, 116]), ())
            else
              bif (p0 == (8 : Int)) then
              some ((strL [103, 101, 116]), ())
            else
              bif (p0 == (9 : Int)) then
              some ((strL [112, 117, 115, 104]), ())
            else
              bif (p0 == (10 : Int)) then
              some ((strL [112, 111, 112]), ())
            else
              bif (p0 == (11 : Int)) then
              some ((strL [116, 97, 107, 101]), ())
            else
              bif (p0 == (12 : Int)) then
              some ((strL [102, 114, 101, 101]), ())
            else
              bif (p0 == (13 : Int)) then
              some ((strL [115, 99, 97, 110]), ())
            else
              some ((strL []), ())
theorem loops40 (N : Nat) : loopsOk C40 (L40 N) Go.Proofs.Tryd.f40 := ⟨trivial, ⟨⟨trivial, ⟨trivial, ⟨⟨trivial, trivial⟩, ⟨trivial, ⟨⟨trivial, trivial⟩, ⟨trivial, ⟨⟨trivial, trivial⟩, ⟨trivial, ⟨⟨trivial, trivial⟩, ⟨trivial, ⟨⟨trivial, trivial⟩, ⟨trivial, ⟨⟨trivial, trivial⟩, ⟨trivial, ⟨⟨trivial, trivial⟩, ⟨trivial, ⟨⟨trivial, trivial⟩, ⟨trivial, ⟨⟨trivial, trivial⟩, ⟨trivial, ⟨⟨trivial, trivial⟩, ⟨trivial, ⟨⟨trivial, trivial⟩, ⟨trivial, ⟨⟨trivial, trivial⟩, ⟨trivial, ⟨⟨trivial, trivial⟩, trivial⟩⟩⟩⟩⟩⟩⟩⟩⟩⟩⟩⟩⟩⟩⟩⟩⟩⟩⟩⟩⟩⟩⟩⟩⟩⟩⟩, ⟨trivial, trivial⟩⟩⟩
theorem runs40 (N : Nat) (x : S40.ta.den) : run C40 S40 (L40 N) Go.Proofs.Tryd.f40 x = F40 N x.1 := by kernel_rfl

/-! ### 19x: incognito/sign.Outs -/
def L19x (_ : Nat) : Loops (HS.den X19x.hout) := fun _ _ _ => none
def F19x (N : Nat) (t0 : Int) (t1 : Int) (t2 : Nat) (b1000 : List (Int × Int × ByteArray × Unit)) : Option (HS.den X19x.hout) :=
  bif (!(((Go.Inc.findGo t0 t1).2).1)) then
    some (([] : List Int), (false, (b1000, ())))
  else
    bif decide (((((((Go.Inc.findGo t0 t1).1).2).2).2).1) < (0 : Int)) then
      some (([] : List Int), ((((t2 : Nat) : Int) == (0 : Int)), (b1000, ())))
    else
      bif (((((((Go.Inc.findGo t0 t1).1).2).2).2).1) == (99 : Int)) then
        bif (Go.Inc.okPX t2 b1000) then
          some ((Go.Inc.pairedGo b1000).1, (((Go.Inc.pairedGo b1000).2).1, (b1000, ())))
        else
          none
      else
        bif (((t2 : Nat) : Int) != (1 : Int)) then
          some (([] : List Int), (false, (b1000, ())))
        else
          bif ((decide ((0 : Int) ≤ (0 : Int))) && (decide ((0 : Int) < ((t2 : Nat) : Int)))) then
            bif decide ((Int.toNat (0 : Int)) < (List.length b1000)) then
              bif (Go.Inc.okT ((((((Go.Inc.findGo t0 t1).1).2).2).2).1) (List.getD b1000 (Int.toNat (0 : Int)) ((0 : Int), ((0 : Int), (ByteArray.empty, ()))))) then
              bif (!(Go.Inc.takes ((((((Go.Inc.findGo t0 t1).1).2).2).2).1) (List.getD b1000 (Int.toNat (0 : Int)) ((0 : Int), ((0 : Int), (ByteArray.empty, ())))))) then
              bif ((((((Go.Inc.findGo t0 t1).1).2).2).2).2).1 then
              bif ((decide ((0 : Int) ≤ (0 : Int))) && (decide ((0 : Int) < ((t2 : Nat) : Int)))) then
              bif decide ((Int.toNat (0 : Int)) < (List.length b1000)) then
              bif (!((((List.getD b1000 (Int.toNat (0 : Int)) ((0 : Int), ((0 : Int), (ByteArray.empty, ())))).1) == (0 : Int)) && (((((List.getD b1000 (Int.toNat (0 : Int)) ((0 : Int), ((0 : Int), (ByteArray.empty, ())))).2).1) == (0 : Int)) && ((((((List.getD b1000 (Int.toNat (0 : Int)) ((0 : Int), ((0 : Int), (ByteArray.empty, ())))).2).2).1) == ByteArray.empty) && true)))) then
              some (([] : List Int), (false, (b1000, ())))
            else
              some ((((((((Go.Inc.findGo t0 t1).1).2).2).2).1) :: ([] : List Int)), (true, (b1000, ())))
            else
              none
            else
              none
            else
              some (([] : List Int), (false, (b1000, ())))
            else
              some ((((((((Go.Inc.findGo t0 t1).1).2).2).2).1) :: ([] : List Int)), (true, (b1000, ())))
            else
              none
            else
              none
          else
            none
theorem loops19x (N : Nat) : loopsOk C19x (L19x N) Go.Proofs.Tryd.f19 := ⟨trivial, ⟨trivial, ⟨⟨trivial, ⟨⟨trivial, trivial⟩, ⟨trivial, ⟨⟨trivial, trivial⟩, ⟨trivial, ⟨⟨trivial, trivial⟩, ⟨trivial, ⟨⟨trivial, trivial⟩, trivial⟩⟩⟩⟩⟩⟩⟩⟩, ⟨trivial, trivial⟩⟩⟩⟩
theorem runs19x (N : Nat) (x : HS.den X19x.hin) : runX C19x X19x (L19x N) Go.Proofs.Tryd.f19 x = F19x N x.1 x.2.1 x.2.2.1 x.2.2.2.1 := by kernel_rfl

/-! ### 5: incognito/incognitolaw15.QueueOuts -/
def W5_18 {β : Type} (N : Nat) (x3 : Int → Int → Int → Int → ByteArray → Int → (List (Int × Int × ByteArray × Unit)) → Int → Int → Int → ByteArray → Int → (List (Int × Int × ByteArray × Unit)) → Int → Int → Int → ByteArray → Int → (List (Int × Int × ByteArray × Unit)) → (List ((Int × Int × ByteArray × Unit) × Int × (List (Int × Int × ByteArray × Unit)) × Unit)) → Int → Int → Option β) : Nat → Int → Int → Int → Int → ByteArray → Int → (List (Int × Int × ByteArray × Unit)) → Int → Int → Int → ByteArray → Int → (List (Int × Int × ByteArray × Unit)) → Int → Int → Int → ByteArray → Int → (List (Int × Int × ByteArray × Unit)) → Nat → (List ((Int × Int × ByteArray × Unit) × Int × (List (Int × Int × ByteArray × Unit)) × Unit)) → Int → Int → (List (Int × Int × ByteArray × Unit)) → Int → Int → Option β
  | 0, _, _, _, _, _, _, _, _, _, _, _, _, _, _, _, _, _, _, _, _, _, _, _, _, _, _ => none
  | n + 1, t0, b5a, b5ba, b5bba, b5bbba, b5bbbba, b5bbbbba, b9a, b9ba, b9bba, b9bbba, b9bbbba, b9bbbbba, b10a, b10ba, b10bba, b10bbba, b10bbbba, b10bbbbba, t11, t29, t30, t31, b45, t72, t73 =>
  bif decide (t73 < t72) then
    bif ((decide ((0 : Int) ≤ t73)) && (decide (t73 < ((t11 : Nat) : Int)))) then
      bif decide ((Int.toNat t73) < (List.length b45)) then
        W5_18 N x3 n t0 b5a b5ba b5bba b5bbba b5bbbba b5bbbbba b9a b9ba b9bba b9bbba b9bbbba b9bbbbba b10a b10ba b10bba b10bbba b10bbbba b10bbbbba t11 t29 t30 t31 (List.set b45 (Int.toNat t73) ((9 : Int), (List.getD b45 (Int.toNat t73) ((0 : Int), ((0 : Int), (ByteArray.empty, ())))).2)) t72 (Go.IntKind.wrap .i64 (t73 + (1 : Int)))
      else
        none
    else
      none
  else
    x3 t0 b5a b5ba b5bba b5bbba b5bbbba b5bbbbba b9a b9ba b9bba b9bbba b9bbbba b9bbbbba b10a b10ba b10bba b10bbba b10bbbba b10bbbbba t29 t30 t31
def W5_7 {β : Type} (N : Nat) (x0 : Bool → Option β) (x1 : Unit → Option β) : Nat → Int → Int → Int → Int → ByteArray → Int → (List (Int × Int × ByteArray × Unit)) → (List ((Int × Int × ByteArray × Unit) × Int × (List (Int × Int × ByteArray × Unit)) × Unit)) → Int → Int → Option β
  | 0, _, _, _, _, _, _, _, _, _, _ => none
  | n + 1, t0, b5a, b5ba, b5bba, b5bbba, b5bbbba, b5bbbbba, t29, t30, t31 =>
  bif decide (t31 < t30) then
    bif ((decide ((0 : Int) ≤ t31)) && (decide (t31 < (((List.length t29) : Nat) : Int)))) then
      bif (Go.Inc.okPop (b5a, ((b5ba, (b5bba, (b5bbba, ()))), (b5bbbba, (b5bbbbba, ()))))) then
        bif (Go.Inc.okStepX (b5a, ((b5ba, (b5bba, (b5bbba, ()))), (b5bbbba, (b5bbbbba, ())))) ((List.getD t29 (Int.toNat t31) (((0 : Int), ((0 : Int), (ByteArray.empty, ()))), ((0 : Int), ([], ())))).1) (((List.getD t29 (Int.toNat t31) (((0 : Int), ((0 : Int), (ByteArray.empty, ()))), ((0 : Int), ([], ())))).2).1) ((((List.getD t29 (Int.toNat t31) (((0 : Int), ((0 : Int), (ByteArray.empty, ()))), ((0 : Int), ([], ())))).2).2).1)) then
          bif (Go.Inc.okSS (Go.Inc.copyS (b5a, ((b5ba, (b5bba, (b5bbba, ()))), (b5bbbba, (b5bbbbba, ()))))) (b5a, ((b5ba, (b5bba, (b5bbba, ()))), (b5bbbba, (b5bbbbba, ()))))) then
            bif (!(Go.Inc.sameS (Go.Inc.copyS (b5a, ((b5ba, (b5bba, (b5bbba, ()))), (b5bbbba, (b5bbbbba, ()))))) (b5a, ((b5ba, (b5bba, (b5bbba, ()))), (b5bbbba, (b5bbbbba, ())))))) then
              x0 false
            else
              bif (!((((Go.Inc.stepX (Go.Inc.queueStep (b5a, ((b5ba, (b5bba, (b5bbba, ()))), (b5bbbba, (b5bbbbba, ())))) ((List.getD t29 (Int.toNat t31) (((0 : Int), ((0 : Int), (ByteArray.empty, ()))), ((0 : Int), ([], ())))).1) (((List.getD t29 (Int.toNat t31) (((0 : Int), ((0 : Int), (ByteArray.empty, ()))), ((0 : Int), ([], ())))).2).1) ((((List.getD t29 (Int.toNat t31) (((0 : Int), ((0 : Int), (ByteArray.empty, ()))), ((0 : Int), ([], ())))).2).2).1))).2).2).1)) then
              W5_7 N x0 x1 n t0 b5a b5ba b5bba b5bbba b5bbbba b5bbbbba t29 t30 (Go.IntKind.wrap .i64 (t31 + (1 : Int)))
            else
              bif (Go.Inc.okOX t0 (((List.getD t29 (Int.toNat t31) (((0 : Int), ((0 : Int), (ByteArray.empty, ()))), ((0 : Int), ([], ())))).2).1) (((Go.Inc.stepX (Go.Inc.queueStep (b5a, ((b5ba, (b5bba, (b5bbba, ()))), (b5bbbba, (b5bbbbba, ())))) ((List.getD t29 (Int.toNat t31) (((0 : Int), ((0 : Int), (ByteArray.empty, ()))), ((0 : Int), ([], ())))).1) (((List.getD t29 (Int.toNat t31) (((0 : Int), ((0 : Int), (ByteArray.empty, ()))), ((0 : Int), ([], ())))).2).1) ((((List.getD t29 (Int.toNat t31) (((0 : Int), ((0 : Int), (ByteArray.empty, ()))), ((0 : Int), ([], ())))).2).2).1))).2).1) (((((Go.Inc.stepX (Go.Inc.queueStep (b5a, ((b5ba, (b5bba, (b5bbba, ()))), (b5bbbba, (b5bbbbba, ())))) ((List.getD t29 (Int.toNat t31) (((0 : Int), ((0 : Int), (ByteArray.empty, ()))), ((0 : Int), ([], ())))).1) (((List.getD t29 (Int.toNat t31) (((0 : Int), ((0 : Int), (ByteArray.empty, ()))), ((0 : Int), ([], ())))).2).1) ((((List.getD t29 (Int.toNat t31) (((0 : Int), ((0 : Int), (ByteArray.empty, ()))), ((0 : Int), ([], ())))).2).2).1))).2).2).2).1)) then
              bif (!(((Go.Inc.outsGo t0 (((List.getD t29 (Int.toNat t31) (((0 : Int), ((0 : Int), (ByteArray.empty, ()))), ((0 : Int), ([], ())))).2).1) (((((Go.Inc.stepX (Go.Inc.queueStep (b5a, ((b5ba, (b5bba, (b5bbba, ()))), (b5bbbba, (b5bbbbba, ())))) ((List.getD t29 (Int.toNat t31) (((0 : Int), ((0 : Int), (ByteArray.empty, ()))), ((0 : Int), ([], ())))).1) (((List.getD t29 (Int.toNat t31) (((0 : Int), ((0 : Int), (ByteArray.empty, ()))), ((0 : Int), ([], ())))).2).1) ((((List.getD t29 (Int.toNat t31) (((0 : Int), ((0 : Int), (ByteArray.empty, ()))), ((0 : Int), ([], ())))).2).2).1))).2).2).2).1)).2).1)) then
              x0 false
            else
              bif ((((Go.Inc.stepX (Go.Inc.queueStep (b5a, ((b5ba, (b5bba, (b5bbba, ()))), (b5bbbba, (b5bbbbba, ())))) ((List.getD t29 (Int.toNat t31) (((0 : Int), ((0 : Int), (ByteArray.empty, ()))), ((0 : Int), ([], ())))).1) (((List.getD t29 (Int.toNat t31) (((0 : Int), ((0 : Int), (ByteArray.empty, ()))), ((0 : Int), ([], ())))).2).1) ((((List.getD t29 (Int.toNat t31) (((0 : Int), ((0 : Int), (ByteArray.empty, ()))), ((0 : Int), ([], ())))).2).2).1))).1).1) != t0) then
              x0 false
            else
              W5_18 N
              (fun t0 b5a b5ba b5bba b5bbba b5bbbba b5bbbbba b9a b9ba b9bba b9bbba b9bbbba b9bbbbba b10a b10ba b10bba b10bbba b10bbbba b10bbbbba t29 t30 t31 =>
                bif (Go.Inc.okSS (b9a, ((b9ba, (b9bba, (b9bbba, ()))), (b9bbbba, (b9bbbbba, ())))) (b5a, ((b5ba, (b5bba, (b5bbba, ()))), (b5bbbba, (b5bbbbba, ()))))) then
              bif (!(Go.Inc.sameS (b9a, ((b9ba, (b9bba, (b9bbba, ()))), (b9bbbba, (b9bbbbba, ())))) (b5a, ((b5ba, (b5bba, (b5bbba, ()))), (b5bbbba, (b5bbbbba, ())))))) then
              x0 false
            else
              W5_7 N x0 x1 n t0 b10a b10ba b10bba b10bbba b10bbbba b10bbbbba t29 t30 (Go.IntKind.wrap .i64 (t31 + (1 : Int)))
            else
              none)
              N t0 b5a b5ba b5bba b5bbba b5bbbba b5bbbbba ((Go.Inc.copyS (b5a, ((b5ba, (b5bba, (b5bbba, ()))), (b5bbbba, (b5bbbbba, ()))))).1) ((((Go.Inc.copyS (b5a, ((b5ba, (b5bba, (b5bbba, ()))), (b5bbbba, (b5bbbbba, ()))))).2).1).1) (((((Go.Inc.copyS (b5a, ((b5ba, (b5bba, (b5bbba, ()))), (b5bbbba, (b5bbbbba, ()))))).2).1).2).1) ((((((Go.Inc.copyS (b5a, ((b5ba, (b5bba, (b5bbba, ()))), (b5bbbba, (b5bbbbba, ()))))).2).1).2).2).1) ((((Go.Inc.copyS (b5a, ((b5ba, (b5bba, (b5bbba, ()))), (b5bbbba, (b5bbbbba, ()))))).2).2).1) (((((Go.Inc.copyS (b5a, ((b5ba, (b5bba, (b5bbba, ()))), (b5bbbba, (b5bbbbba, ()))))).2).2).2).1) (((Go.Inc.stepX (Go.Inc.queueStep (b5a, ((b5ba, (b5bba, (b5bbba, ()))), (b5bbbba, (b5bbbbba, ())))) ((List.getD t29 (Int.toNat t31) (((0 : Int), ((0 : Int), (ByteArray.empty, ()))), ((0 : Int), ([], ())))).1) (((List.getD t29 (Int.toNat t31) (((0 : Int), ((0 : Int), (ByteArray.empty, ()))), ((0 : Int), ([], ())))).2).1) ((((List.getD t29 (Int.toNat t31) (((0 : Int), ((0 : Int), (ByteArray.empty, ()))), ((0 : Int), ([], ())))).2).2).1))).1).1) (((((Go.Inc.stepX (Go.Inc.queueStep (b5a, ((b5ba, (b5bba, (b5bbba, ()))), (b5bbbba, (b5bbbbba, ())))) ((List.getD t29 (Int.toNat t31) (((0 : Int), ((0 : Int), (ByteArray.empty, ()))), ((0 : Int), ([], ())))).1) (((List.getD t29 (Int.toNat t31) (((0 : Int), ((0 : Int), (ByteArray.empty, ()))), ((0 : Int), ([], ())))).2).1) ((((List.getD t29 (Int.toNat t31) (((0 : Int), ((0 : Int), (ByteArray.empty, ()))), ((0 : Int), ([], ())))).2).2).1))).1).2).1).1) ((((((Go.Inc.stepX (Go.Inc.queueStep (b5a, ((b5ba, (b5bba, (b5bbba, ()))), (b5bbbba, (b5bbbbba, ())))) ((List.getD t29 (Int.toNat t31) (((0 : Int), ((0 : Int), (ByteArray.empty, ()))), ((0 : Int), ([], ())))).1) (((List.getD t29 (Int.toNat t31) (((0 : Int), ((0 : Int), (ByteArray.empty, ()))), ((0 : Int), ([], ())))).2).1) ((((List.getD t29 (Int.toNat t31) (((0 : Int), ((0 : Int), (ByteArray.empty, ()))), ((0 : Int), ([], ())))).2).2).1))).1).2).1).2).1) (((((((Go.Inc.stepX (Go.Inc.queueStep (b5a, ((b5ba, (b5bba, (b5bbba, ()))), (b5bbbba, (b5bbbbba, ())))) ((List.getD t29 (Int.toNat t31) (((0 : Int), ((0 : Int), (ByteArray.empty, ()))), ((0 : Int), ([], ())))).1) (((List.getD t29 (Int.toNat t31) (((0 : Int), ((0 : Int), (ByteArray.empty, ()))), ((0 : Int), ([], ())))).2).1) ((((List.getD t29 (Int.toNat t31) (((0 : Int), ((0 : Int), (ByteArray.empty, ()))), ((0 : Int), ([], ())))).2).2).1))).1).2).1).2).2).1) (((((Go.Inc.stepX (Go.Inc.queueStep (b5a, ((b5ba, (b5bba, (b5bbba, ()))), (b5bbbba, (b5bbbbba, ())))) ((List.getD t29 (Int.toNat t31) (((0 : Int), ((0 : Int), (ByteArray.empty, ()))), ((0 : Int), ([], ())))).1) (((List.getD t29 (Int.toNat t31) (((0 : Int), ((0 : Int), (ByteArray.empty, ()))), ((0 : Int), ([], ())))).2).1) ((((List.getD t29 (Int.toNat t31) (((0 : Int), ((0 : Int), (ByteArray.empty, ()))), ((0 : Int), ([], ())))).2).2).1))).1).2).2).1) ((((((Go.Inc.stepX (Go.Inc.queueStep (b5a, ((b5ba, (b5bba, (b5bbba, ()))), (b5bbbba, (b5bbbbba, ())))) ((List.getD t29 (Int.toNat t31) (((0 : Int), ((0 : Int), (ByteArray.empty, ()))), ((0 : Int), ([], ())))).1) (((List.getD t29 (Int.toNat t31) (((0 : Int), ((0 : Int), (ByteArray.empty, ()))), ((0 : Int), ([], ())))).2).1) ((((List.getD t29 (Int.toNat t31) (((0 : Int), ((0 : Int), (ByteArray.empty, ()))), ((0 : Int), ([], ())))).2).2).1))).1).2).2).2).1) (((Go.Inc.stepX (Go.Inc.queueStep (b5a, ((b5ba, (b5bba, (b5bbba, ()))), (b5bbbba, (b5bbbbba, ())))) ((List.getD t29 (Int.toNat t31) (((0 : Int), ((0 : Int), (ByteArray.empty, ()))), ((0 : Int), ([], ())))).1) (((List.getD t29 (Int.toNat t31) (((0 : Int), ((0 : Int), (ByteArray.empty, ()))), ((0 : Int), ([], ())))).2).1) ((((List.getD t29 (Int.toNat t31) (((0 : Int), ((0 : Int), (ByteArray.empty, ()))), ((0 : Int), ([], ())))).2).2).1))).2).1) t29 t30 t31 (((((Go.Inc.stepX (Go.Inc.queueStep (b5a, ((b5ba, (b5bba, (b5bbba, ()))), (b5bbbba, (b5bbbbba, ())))) ((List.getD t29 (Int.toNat t31) (((0 : Int), ((0 : Int), (ByteArray.empty, ()))), ((0 : Int), ([], ())))).1) (((List.getD t29 (Int.toNat t31) (((0 : Int), ((0 : Int), (ByteArray.empty, ()))), ((0 : Int), ([], ())))).2).1) ((((List.getD t29 (Int.toNat t31) (((0 : Int), ((0 : Int), (ByteArray.empty, ()))), ((0 : Int), ([], ())))).2).2).1))).2).2).2).1) ((((Go.Inc.stepX (Go.Inc.queueStep (b5a, ((b5ba, (b5bba, (b5bbba, ()))), (b5bbbba, (b5bbbbba, ())))) ((List.getD t29 (Int.toNat t31) (((0 : Int), ((0 : Int), (ByteArray.empty, ()))), ((0 : Int), ([], ())))).1) (((List.getD t29 (Int.toNat t31) (((0 : Int), ((0 : Int), (ByteArray.empty, ()))), ((0 : Int), ([], ())))).2).1) ((((List.getD t29 (Int.toNat t31) (((0 : Int), ((0 : Int), (ByteArray.empty, ()))), ((0 : Int), ([], ())))).2).2).1))).2).1 : Nat) : Int) (0 : Int)
            else
              none
          else
            none
        else
          none
      else
        none
    else
      none
  else
    x1 ()
def L5 (N : Nat) : Loops (Bool × Unit) := fun k ρ K => match Nat.beq k 18 with
  | true => (match adH ρ H5_18.hd with
    | some v => W5_18 N (fun t0 b5a b5ba b5bba b5bbba b5bbbba b5bbbbba b9a b9ba b9bba b9bbba b9bbbba b9bbbbba b10a b10ba b10bba b10bbba b10bbbba b10bbbbba t29 t30 t31 => K (.exit 2) (encH [(0, (.i .i64)), (10, (.bx 5 0)), (11, (.pr (.i .i64) (.pr (.i .i64) (.pr (.i .i64) (.pr .st (.pr (.i .i64) (.pr (.sl (.pr (.int .i64) (.pr (.int .i64) (.pr .str .un))) .no) .un))))))), (18, (.bx 9 0)), (19, (.pr (.i .i64) (.pr (.i .i64) (.pr (.i .i64) (.pr .st (.pr (.i .i64) (.pr (.sl (.pr (.int .i64) (.pr (.int .i64) (.pr .str .un))) .no) .un))))))), (20, (.bx 10 0)), (21, (.pr (.i .i64) (.pr (.i .i64) (.pr (.i .i64) (.pr .st (.pr (.i .i64) (.pr (.sl (.pr (.int .i64) (.pr (.int .i64) (.pr .str .un))) .no) .un))))))), (58, (.sl (.pr (.pr (.int .i64) (.pr (.int .i64) (.pr .str .un))) (.pr (.int .i64) (.pr (.sl (.pr (.int .i64) (.pr (.int .i64) (.pr .str .un)))) .un))) .no)), (60, (.i .i64)), (62, (.i .i64))] (t0, ((), ((b5a, (b5ba, (b5bba, (b5bbba, (b5bbbba, (b5bbbbba, ())))))), ((), ((b9a, (b9ba, (b9bba, (b9bbba, (b9bbbba, (b9bbbbba, ())))))), ((), ((b10a, (b10ba, (b10bba, (b10bbba, (b10bbbba, (b10bbbbba, ())))))), (t29, (t30, (t31, ())))))))))))) N v.1 v.2.2.1.1 v.2.2.1.2.1 v.2.2.1.2.2.1 v.2.2.1.2.2.2.1 v.2.2.1.2.2.2.2.1 v.2.2.1.2.2.2.2.2.1 v.2.2.2.2.1.1 v.2.2.2.2.1.2.1 v.2.2.2.2.1.2.2.1 v.2.2.2.2.1.2.2.2.1 v.2.2.2.2.1.2.2.2.2.1 v.2.2.2.2.1.2.2.2.2.2.1 v.2.2.2.2.2.2.1.1 v.2.2.2.2.2.2.1.2.1 v.2.2.2.2.2.2.1.2.2.1 v.2.2.2.2.2.2.1.2.2.2.1 v.2.2.2.2.2.2.1.2.2.2.2.1 v.2.2.2.2.2.2.1.2.2.2.2.2.1 v.2.2.2.2.2.2.2.1 v.2.2.2.2.2.2.2.2.1 v.2.2.2.2.2.2.2.2.2.1 v.2.2.2.2.2.2.2.2.2.2.1 v.2.2.2.2.2.2.2.2.2.2.2.1 v.2.2.2.2.2.2.2.2.2.2.2.2.1 v.2.2.2.2.2.2.2.2.2.2.2.2.2.1
    | none => none)
  | false => match Nat.beq k 7 with
  | true => (match adH ρ H5_7.hd with
    | some v => W5_7 N (fun t4 => K .ret (encH [(8, .bo)] (t4, ()))) (fun _ => K (.exit 0) (encH [] ())) N v.1 v.2.2.1.1 v.2.2.1.2.1 v.2.2.1.2.2.1 v.2.2.1.2.2.2.1 v.2.2.1.2.2.2.2.1 v.2.2.1.2.2.2.2.2.1 v.2.2.2.1 v.2.2.2.2.1 v.2.2.2.2.2.1
    | none => none)
  | false => none
def F5 (N : Nat) (p0 : Int) (p1 : List ((Int × Int × ByteArray × Unit) × Int × (List (Int × Int × ByteArray × Unit)) × Unit)) : Option (Bool × Unit) :=
  bif (!(((Go.Inc.queueNew p0).2).1)) then
    some (true, ())
  else
    bif (Go.Inc.okDs p1) then
      bif (Go.Inc.greatD p1) then
        some (true, ())
      else
        W5_7 N
          (fun t4 =>
            some (t4, ()))
          (fun (_ : Unit) =>
            some (true, ()))
          N p0 (((Go.Inc.queueNew p0).1).1) (((((Go.Inc.queueNew p0).1).2).1).1) ((((((Go.Inc.queueNew p0).1).2).1).2).1) (((((((Go.Inc.queueNew p0).1).2).1).2).2).1) (((((Go.Inc.queueNew p0).1).2).2).1) ((((((Go.Inc.queueNew p0).1).2).2).2).1) p1 (((List.length p1) : Nat) : Int) (0 : Int)
    else
      none
theorem loops5 (N : Nat) : loopsOk C5 (L5 N) Go.Proofs.Tryd.f5 := ⟨trivial, ⟨⟨trivial, ⟨⟨trivial, trivial⟩, trivial⟩⟩, ⟨trivial, ⟨⟨trivial, ⟨⟨trivial, trivial⟩, trivial⟩⟩, ⟨⟨trivial, ⟨loopOk_of H5_7 N (fun K n v => W5_7 N (fun t4 => K .ret (encH [(8, .bo)] (t4, ()))) (fun _ => K (.exit 0) (encH [] ())) n v.1 v.2.2.1.1 v.2.2.1.2.1 v.2.2.1.2.2.1 v.2.2.1.2.2.2.1 v.2.2.1.2.2.2.2.1 v.2.2.1.2.2.2.2.2.1 v.2.2.2.1 v.2.2.2.2.1 v.2.2.2.2.2.1) (by kernel_rfl) (fun K v => by kernel_rfl) (fun K v => by kernel_rfl) (fun K n v => by kernel_rfl), ⟨trivial, ⟨⟨trivial, trivial⟩, ⟨⟨trivial, ⟨trivial, ⟨trivial, ⟨⟨trivial, ⟨⟨trivial, trivial⟩, trivial⟩⟩, ⟨⟨trivial, ⟨trivial, trivial⟩⟩, ⟨trivial, ⟨⟨trivial, ⟨⟨trivial, trivial⟩, trivial⟩⟩, ⟨⟨trivial, ⟨loopOk_of H5_18 N (fun K n v => W5_18 N (fun t0 b5a b5ba b5bba b5bbba b5bbbba b5bbbbba b9a b9ba b9bba b9bbba b9bbbba b9bbbbba b10a b10ba b10bba b10bbba b10bbbba b10bbbbba t29 t30 t31 => K (.exit 2) (encH [(0, (.i .i64)), (10, (.bx 5 0)), (11, (.pr (.i .i64) (.pr (.i .i64) (.pr (.i .i64) (.pr .st (.pr (.i .i64) (.pr (.sl (.pr (.int .i64) (.pr (.int .i64) (.pr .str .un))) .no) .un))))))), (18, (.bx 9 0)), (19, (.pr (.i .i64) (.pr (.i .i64) (.pr (.i .i64) (.pr .st (.pr (.i .i64) (.pr (.sl (.pr (.int .i64) (.pr (.int .i64) (.pr .str .un))) .no) .un))))))), (20, (.bx 10 0)), (21, (.pr (.i .i64) (.pr (.i .i64) (.pr (.i .i64) (.pr .st (.pr (.i .i64) (.pr (.sl (.pr (.int .i64) (.pr (.int .i64) (.pr .str .un))) .no) .un))))))), (58, (.sl (.pr (.pr (.int .i64) (.pr (.int .i64) (.pr .str .un))) (.pr (.int .i64) (.pr (.sl (.pr (.int .i64) (.pr (.int .i64) (.pr .str .un)))) .un))) .no)), (60, (.i .i64)), (62, (.i .i64))] (t0, ((), ((b5a, (b5ba, (b5bba, (b5bbba, (b5bbbba, (b5bbbbba, ())))))), ((), ((b9a, (b9ba, (b9bba, (b9bbba, (b9bbbba, (b9bbbbba, ())))))), ((), ((b10a, (b10ba, (b10bba, (b10bbba, (b10bbbba, (b10bbbbba, ())))))), (t29, (t30, (t31, ())))))))))))) n v.1 v.2.2.1.1 v.2.2.1.2.1 v.2.2.1.2.2.1 v.2.2.1.2.2.2.1 v.2.2.1.2.2.2.2.1 v.2.2.1.2.2.2.2.2.1 v.2.2.2.2.1.1 v.2.2.2.2.1.2.1 v.2.2.2.2.1.2.2.1 v.2.2.2.2.1.2.2.2.1 v.2.2.2.2.1.2.2.2.2.1 v.2.2.2.2.1.2.2.2.2.2.1 v.2.2.2.2.2.2.1.1 v.2.2.2.2.2.2.1.2.1 v.2.2.2.2.2.2.1.2.2.1 v.2.2.2.2.2.2.1.2.2.2.1 v.2.2.2.2.2.2.1.2.2.2.2.1 v.2.2.2.2.2.2.1.2.2.2.2.2.1 v.2.2.2.2.2.2.2.1 v.2.2.2.2.2.2.2.2.1 v.2.2.2.2.2.2.2.2.2.1 v.2.2.2.2.2.2.2.2.2.2.1 v.2.2.2.2.2.2.2.2.2.2.2.1 v.2.2.2.2.2.2.2.2.2.2.2.2.1 v.2.2.2.2.2.2.2.2.2.2.2.2.2.1) (by kernel_rfl) (fun K v => by kernel_rfl) (fun K v => by kernel_rfl) (fun K n v => by kernel_rfl), ⟨trivial, ⟨⟨trivial, trivial⟩, ⟨⟨trivial, trivial⟩, trivial⟩⟩⟩⟩⟩, ⟨⟨trivial, ⟨⟨trivial, trivial⟩, trivial⟩⟩, trivial⟩⟩⟩⟩⟩⟩⟩⟩⟩, trivial⟩⟩⟩⟩⟩, ⟨trivial, trivial⟩⟩⟩⟩⟩⟩
theorem runs5 (N : Nat) (x : S5.ta.den) : run C5 S5 (L5 N) Go.Proofs.Tryd.f5 x = F5 N x.1 x.2.1 := by kernel_rfl

end Go.L15
