/- The walks of package dict and its statements. Printed by a program of this session. -/
import Derived.Test.YtallccfhkhonbaaDoorW0
set_option linter.unusedVariables false
set_option maxRecDepth 100000
namespace Go.L17
open Go Go.Abs Go.Inc

/-! ### 40: incognito/value.IsWord -/
def W40_4 {β : Type} (N : Nat) (x0 : Bool → Option β) (x1 : Unit → Option β) : Nat → ByteArray → Int → Int → Option β
  | 0, _, _, _ => none
  | n + 1, t0, t23, t24 =>
  bif decide (t24 < t23) then
    bif ((decide ((0 : Int) ≤ t24)) && (decide (t24 < (((ByteArray.size t0) : Nat) : Int)))) then
      bif decide ((((UInt8.toNat (List.getD (Array.toList (ByteArray.data t0)) (Int.toNat t24) (0 : UInt8))) : Nat) : Int) ≥ (97 : Int)) then
        bif decide ((((UInt8.toNat (List.getD (Array.toList (ByteArray.data t0)) (Int.toNat t24) (0 : UInt8))) : Nat) : Int) ≤ (122 : Int)) then
          W40_4 N x0 x1 n t0 t23 (Go.IntKind.wrap .i64 (t24 + (1 : Int)))
        else
          bif decide ((((UInt8.toNat (List.getD (Array.toList (ByteArray.data t0)) (Int.toNat t24) (0 : UInt8))) : Nat) : Int) ≥ (48 : Int)) then
            bif decide ((((UInt8.toNat (List.getD (Array.toList (ByteArray.data t0)) (Int.toNat t24) (0 : UInt8))) : Nat) : Int) ≤ (57 : Int)) then
              W40_4 N x0 x1 n t0 t23 (Go.IntKind.wrap .i64 (t24 + (1 : Int)))
            else
              bif (!((((UInt8.toNat (List.getD (Array.toList (ByteArray.data t0)) (Int.toNat t24) (0 : UInt8))) : Nat) : Int) == (95 : Int))) then
              x0 false
            else
              W40_4 N x0 x1 n t0 t23 (Go.IntKind.wrap .i64 (t24 + (1 : Int)))
          else
            bif (!((((UInt8.toNat (List.getD (Array.toList (ByteArray.data t0)) (Int.toNat t24) (0 : UInt8))) : Nat) : Int) == (95 : Int))) then
              x0 false
            else
              W40_4 N x0 x1 n t0 t23 (Go.IntKind.wrap .i64 (t24 + (1 : Int)))
      else
        bif decide ((((UInt8.toNat (List.getD (Array.toList (ByteArray.data t0)) (Int.toNat t24) (0 : UInt8))) : Nat) : Int) ≥ (48 : Int)) then
          bif decide ((((UInt8.toNat (List.getD (Array.toList (ByteArray.data t0)) (Int.toNat t24) (0 : UInt8))) : Nat) : Int) ≤ (57 : Int)) then
            W40_4 N x0 x1 n t0 t23 (Go.IntKind.wrap .i64 (t24 + (1 : Int)))
          else
            bif (!((((UInt8.toNat (List.getD (Array.toList (ByteArray.data t0)) (Int.toNat t24) (0 : UInt8))) : Nat) : Int) == (95 : Int))) then
              x0 false
            else
              W40_4 N x0 x1 n t0 t23 (Go.IntKind.wrap .i64 (t24 + (1 : Int)))
        else
          bif (!((((UInt8.toNat (List.getD (Array.toList (ByteArray.data t0)) (Int.toNat t24) (0 : UInt8))) : Nat) : Int) == (95 : Int))) then
            x0 false
          else
            W40_4 N x0 x1 n t0 t23 (Go.IntKind.wrap .i64 (t24 + (1 : Int)))
    else
      none
  else
    x1 ()
def L40 (N : Nat) : Loops (Bool × Unit) := fun k ρ K => match Nat.beq k 4 with
  | true => (match adH ρ H40_4.hd with
    | some v => W40_4 N (fun t2 => K .ret (encH [(4, .bo)] (t2, ()))) (fun _ => K (.exit 0) (encH [] ())) N v.1 v.2.1 v.2.2.1
    | none => none)
  | false => none
def F40 (N : Nat) (p0 : ByteArray) : Option (Bool × Unit) :=
  bif ((ByteArray.toList p0) == (ByteArray.toList (strL []))) then
    some (false, ())
  else
    bif decide ((((ByteArray.size p0) : Nat) : Int) > (40 : Int)) then
      some (false, ())
    else
      bif ((decide ((0 : Int) ≤ (0 : Int))) && (decide ((0 : Int) < (((ByteArray.size p0) : Nat) : Int)))) then
        bif decide ((((UInt8.toNat (List.getD (Array.toList (ByteArray.data p0)) (Int.toNat (0 : Int)) (0 : UInt8))) : Nat) : Int) < (97 : Int)) then
          some (false, ())
        else
          bif ((decide ((0 : Int) ≤ (0 : Int))) && (decide ((0 : Int) < (((ByteArray.size p0) : Nat) : Int)))) then
            bif decide ((((UInt8.toNat (List.getD (Array.toList (ByteArray.data p0)) (Int.toNat (0 : Int)) (0 : UInt8))) : Nat) : Int) > (122 : Int)) then
              some (false, ())
            else
              W40_4 N
              (fun t2 =>
                some (t2, ()))
              (fun (_ : Unit) =>
                some (true, ()))
              N p0 (((ByteArray.size p0) : Nat) : Int) (0 : Int)
          else
            none
      else
        none
theorem loops40 (N : Nat) : loopsOk C40 (L40 N) Go.Proofs.Tryd.f40 := ⟨trivial, ⟨⟨trivial, ⟨⟨trivial, trivial⟩, trivial⟩⟩, ⟨⟨trivial, ⟨loopOk_of H40_4 N (fun K n v => W40_4 N (fun t2 => K .ret (encH [(4, .bo)] (t2, ()))) (fun _ => K (.exit 0) (encH [] ())) n v.1 v.2.1 v.2.2.1) (by kernel_rfl) (fun K v => by kernel_rfl) (fun K v => by kernel_rfl) (fun K n v => by kernel_rfl), ⟨trivial, ⟨⟨trivial, trivial⟩, ⟨⟨trivial, ⟨trivial, ⟨trivial, ⟨⟨trivial, trivial⟩, trivial⟩⟩⟩⟩, trivial⟩⟩⟩⟩⟩, ⟨trivial, trivial⟩⟩⟩⟩
theorem runs40 (N : Nat) (x : S40.ta.den) : run C40 S40 (L40 N) Go.Proofs.Tryd.f40 x = F40 N x.1 := by kernel_rfl

/-! ### 52: slices.IndexFunc[[]incognito/sign.row,incognito/sign.row] -/
def W52_2 {β : Type} (N : Nat) (x0 : Int → Int → Int → Option β) (x1 : Int → Int → Option β) : Nat → (List (Int × Int × ByteArray × Int × Bool × Unit)) → Int → Int → Int → Int → Option β
  | 0, _, _, _, _, _ => none
  | n + 1, t0, t7, t8, b1000a, b1001a =>
  bif decide (t8 < t7) then
    bif ((decide ((0 : Int) ≤ t8)) && (decide (t8 < (((List.length t0) : Nat) : Int)))) then
      bif (Go.Inc.hitA ((List.getD t0 (Int.toNat t8) ((0 : Int), ((0 : Int), (ByteArray.empty, ((0 : Int), (false, ())))))).1) (((List.getD t0 (Int.toNat t8) ((0 : Int), ((0 : Int), (ByteArray.empty, ((0 : Int), (false, ())))))).2).1) ((((List.getD t0 (Int.toNat t8) ((0 : Int), ((0 : Int), (ByteArray.empty, ((0 : Int), (false, ())))))).2).2).1) (((((List.getD t0 (Int.toNat t8) ((0 : Int), ((0 : Int), (ByteArray.empty, ((0 : Int), (false, ())))))).2).2).2).1) ((((((List.getD t0 (Int.toNat t8) ((0 : Int), ((0 : Int), (ByteArray.empty, ((0 : Int), (false, ())))))).2).2).2).2).1) b1000a b1001a) then
        x0 t8 b1000a b1001a
      else
        W52_2 N x0 x1 n t0 t7 (Go.IntKind.wrap .i64 (t8 + (1 : Int))) b1000a b1001a
    else
      none
  else
    x1 b1000a b1001a
def L52 (N : Nat) : Loops (HS.den X52.hout) := fun k ρ K => match Nat.beq k 2 with
  | true => (match adH ρ H52_2.hd with
    | some v => W52_2 N (fun t4 b1000a b1001a => K .ret (encH [(8, (.i .i64)), (2001, (.pr (.i .i64) .un)), (2003, (.pr (.i .i64) .un))] (t4, ((b1000a, ()), ((b1001a, ()), ()))))) (fun b1000a b1001a => K (.exit 0) (encH [(2001, (.pr (.i .i64) .un)), (2003, (.pr (.i .i64) .un))] ((b1000a, ()), ((b1001a, ()), ())))) N v.1 v.2.2.1 v.2.2.2.1 v.2.2.2.2.1.1 v.2.2.2.2.2.1.1
    | none => none)
  | false => none
def F52 (N : Nat) (t0 : List (Int × Int × ByteArray × Int × Bool × Unit)) (b1000a : Int) (b1001a : Int) : Option (HS.den X52.hout) :=
  W52_2 N
    (fun t4 b1000a b1001a =>
      some (t4, ((b1000a, ()), ((b1001a, ()), ()))))
    (fun b1000a b1001a =>
      some ((-(1 : Int)), ((b1000a, ()), ((b1001a, ()), ()))))
    N t0 (((List.length t0) : Nat) : Int) (0 : Int) b1000a b1001a
theorem loops52 (N : Nat) : loopsOk C52 (L52 N) Go.Proofs.Tryd.f52 := ⟨trivial, ⟨⟨trivial, ⟨loopOk_of H52_2 N (fun K n v => W52_2 N (fun t4 b1000a b1001a => K .ret (encH [(8, (.i .i64)), (2001, (.pr (.i .i64) .un)), (2003, (.pr (.i .i64) .un))] (t4, ((b1000a, ()), ((b1001a, ()), ()))))) (fun b1000a b1001a => K (.exit 0) (encH [(2001, (.pr (.i .i64) .un)), (2003, (.pr (.i .i64) .un))] ((b1000a, ()), ((b1001a, ()), ())))) n v.1 v.2.2.1 v.2.2.2.1 v.2.2.2.2.1.1 v.2.2.2.2.2.1.1) (by kernel_rfl) (fun K v => by kernel_rfl) (fun K v => by kernel_rfl) (fun K n v => by kernel_rfl), ⟨trivial, ⟨⟨trivial, trivial⟩, ⟨⟨trivial, ⟨trivial, ⟨⟨trivial, trivial⟩, trivial⟩⟩⟩, trivial⟩⟩⟩⟩⟩, ⟨trivial, trivial⟩⟩⟩
theorem runs52 (N : Nat) (x : HS.den X52.hin) : runX C52 X52 (L52 N) Go.Proofs.Tryd.f52 x = F52 N x.1 x.2.2.1.1 x.2.2.2.1.1 := by kernel_rfl

/-! ### 42: incognito/sign.domain -/
def L42 (_ : Nat) : Loops (Int × Unit) := fun _ _ _ => none
def F42 (N : Nat) (p0 : Int) : Option (Int × Unit) :=
  bif (p0 == (118 : Int)) then
    some ((2 : Int), ())
  else
    bif (p0 == (102 : Int)) then
      some ((3 : Int), ())
    else
      bif (p0 == (111 : Int)) then
        some ((4 : Int), ())
      else
        some ((5 : Int), ())
theorem loops42 (N : Nat) : loopsOk C42 (L42 N) Go.Proofs.Tryd.f42 := ⟨trivial, ⟨⟨trivial, ⟨trivial, ⟨⟨trivial, trivial⟩, ⟨trivial, ⟨⟨trivial, trivial⟩, ⟨trivial, ⟨⟨trivial, trivial⟩, trivial⟩⟩⟩⟩⟩⟩⟩, ⟨trivial, trivial⟩⟩⟩
theorem runs42 (N : Nat) (x : S42.ta.den) : run C42 S42 (L42 N) Go.Proofs.Tryd.f42 x = F42 N x.1 := by kernel_rfl

/-! ### 22: incognito/sign.Fits -/
def W22_5 {β : Type} (N : Nat) (x0 : Bool → Option β) (x1 : Unit → Option β) : Nat → (List (Int × Int × ByteArray × Unit)) → (List Int) → Int → Int → Option β
  | 0, _, _, _, _ => none
  | n + 1, t2, t26, t27, t28 =>
  bif decide (t28 < t27) then
    bif ((decide ((0 : Int) ≤ t28)) && (decide (t28 < (((List.length t26) : Nat) : Int)))) then
      bif ((decide ((0 : Int) ≤ t28)) && (decide (t28 < (((List.length t2) : Nat) : Int)))) then
        bif (Go.Inc.okT (List.getD t26 (Int.toNat t28) (0 : Int)) (List.getD t2 (Int.toNat t28) ((0 : Int), ((0 : Int), (ByteArray.empty, ()))))) then
          bif (!(Go.Inc.takes (List.getD t26 (Int.toNat t28) (0 : Int)) (List.getD t2 (Int.toNat t28) ((0 : Int), ((0 : Int), (ByteArray.empty, ())))))) then
            x0 false
          else
            W22_5 N x0 x1 n t2 t26 t27 (Go.IntKind.wrap .i64 (t28 + (1 : Int)))
        else
          none
      else
        none
    else
      none
  else
    x1 ()
def L22 (N : Nat) : Loops (Bool × Unit) := fun k ρ K => match Nat.beq k 5 with
  | true => (match adH ρ H22_5.hd with
    | some v => W22_5 N (fun t6 => K .ret (encH [(12, .bo)] (t6, ()))) (fun _ => K (.exit 0) (encH [] ())) N v.1 v.2.1 v.2.2.1 v.2.2.2.1
    | none => none)
  | false => none
def F22 (N : Nat) (p0 : Int) (p1 : Int) (p2 : List (Int × Int × ByteArray × Unit)) : Option (Bool × Unit) :=
  bif (!(((Go.Inc.argsGo p0 p1).2).1)) then
    some (false, ())
  else
    bif ((((List.length ((Go.Inc.argsGo p0 p1).1)) : Nat) : Int) != (((List.length p2) : Nat) : Int)) then
      some (false, ())
    else
      W22_5 N
        (fun t6 =>
          some (t6, ()))
        (fun (_ : Unit) =>
          some (true, ()))
        N p2 ((Go.Inc.argsGo p0 p1).1) (((List.length ((Go.Inc.argsGo p0 p1).1)) : Nat) : Int) (0 : Int)
theorem loops22 (N : Nat) : loopsOk C22 (L22 N) Go.Proofs.Tryd.f22 := ⟨trivial, ⟨trivial, ⟨⟨trivial, ⟨⟨trivial, trivial⟩, trivial⟩⟩, ⟨⟨trivial, ⟨loopOk_of H22_5 N (fun K n v => W22_5 N (fun t6 => K .ret (encH [(12, .bo)] (t6, ()))) (fun _ => K (.exit 0) (encH [] ())) n v.1 v.2.1 v.2.2.1 v.2.2.2.1) (by kernel_rfl) (fun K v => by kernel_rfl) (fun K v => by kernel_rfl) (fun K n v => by kernel_rfl), ⟨trivial, ⟨⟨trivial, trivial⟩, ⟨⟨trivial, ⟨trivial, ⟨⟨trivial, trivial⟩, trivial⟩⟩⟩, trivial⟩⟩⟩⟩⟩, ⟨trivial, trivial⟩⟩⟩⟩⟩
theorem runs22 (N : Nat) (x : S22.ta.den) : run C22 S22 (L22 N) Go.Proofs.Tryd.f22 x = F22 N x.1 x.2.1 x.2.2.1 := by kernel_rfl

/-! ### 44: cmp.Or[int] -/
def W44_3 {β : Type} (N : Nat) (x0 : Int → Option β) (x1 : Int → Option β) : Nat → Int → (List Int) → Int → Int → Option β
  | 0, _, _, _, _ => none
  | n + 1, t3, t6, t7, t8 =>
  bif decide (t8 < t7) then
    bif ((decide ((0 : Int) ≤ t8)) && (decide (t8 < (((List.length t6) : Nat) : Int)))) then
      bif ((List.getD t6 (Int.toNat t8) (0 : Int)) != t3) then
        x0 (List.getD t6 (Int.toNat t8) (0 : Int))
      else
        W44_3 N x0 x1 n t3 t6 t7 (Go.IntKind.wrap .i64 (t8 + (1 : Int)))
    else
      none
  else
    x1 t3
def L44 (N : Nat) : Loops (Int × Unit) := fun k ρ K => match Nat.beq k 3 with
  | true => (match adH ρ H44_3.hd with
    | some v => W44_3 N (fun t2 => K .ret (encH [(4, (.i .i64))] (t2, ()))) (fun t3 => K (.exit 0) (encH [(6, (.i .i64))] (t3, ()))) N v.1 v.2.1 v.2.2.1 v.2.2.2.1
    | none => none)
  | false => none
def F44 (N : Nat) (p0 : List Int) : Option (Int × Unit) :=
  W44_3 N
    (fun t2 =>
      some (t2, ()))
    (fun t3 =>
      some (t3, ()))
    N (0 : Int) p0 (((List.length p0) : Nat) : Int) (0 : Int)
theorem loops44 (N : Nat) : loopsOk C44 (L44 N) Go.Proofs.Tryd.f44 := ⟨trivial, ⟨trivial, ⟨⟨trivial, ⟨loopOk_of H44_3 N (fun K n v => W44_3 N (fun t2 => K .ret (encH [(4, (.i .i64))] (t2, ()))) (fun t3 => K (.exit 0) (encH [(6, (.i .i64))] (t3, ()))) n v.1 v.2.1 v.2.2.1 v.2.2.2.1) (by kernel_rfl) (fun K v => by kernel_rfl) (fun K v => by kernel_rfl) (fun K n v => by kernel_rfl), ⟨trivial, ⟨⟨trivial, trivial⟩, ⟨⟨trivial, ⟨trivial, ⟨⟨trivial, trivial⟩, trivial⟩⟩⟩, trivial⟩⟩⟩⟩⟩, ⟨trivial, trivial⟩⟩⟩⟩
theorem runs44 (N : Nat) (x : S44.ta.den) : run C44 S44 (L44 N) Go.Proofs.Tryd.f44 x = F44 N x.1 := by kernel_rfl

/-! ### 45: cmp.Compare[int] -/
def L45 (_ : Nat) : Loops (Int × Unit) := fun _ _ _ => none
def F45 (N : Nat) (p0 : Int) (p1 : Int) : Option (Int × Unit) :=
  bif decide (p0 < p1) then
    some ((-(1 : Int)), ())
  else
    bif decide (p0 > p1) then
      some ((1 : Int), ())
    else
      some ((0 : Int), ())
theorem loops45 (N : Nat) : loopsOk C45 (L45 N) Go.Proofs.Tryd.f45 := ⟨trivial, ⟨trivial, ⟨trivial, ⟨⟨trivial, ⟨⟨⟨trivial, ⟨⟨trivial, trivial⟩, trivial⟩⟩, ⟨trivial, trivial⟩⟩, trivial⟩⟩, ⟨⟨trivial, ⟨⟨trivial, trivial⟩, trivial⟩⟩, ⟨⟨trivial, ⟨⟨trivial, trivial⟩, trivial⟩⟩, ⟨⟨trivial, ⟨⟨trivial, trivial⟩, trivial⟩⟩, ⟨trivial, trivial⟩⟩⟩⟩⟩⟩⟩⟩
theorem runs45 (N : Nat) (x : S45.ta.den) : run C45 S45 (L45 N) Go.Proofs.Tryd.f45 x = F45 N x.1 x.2.1 := by kernel_rfl

/-! ### 47: strings.Compare -/
def L47 (_ : Nat) : Loops (Int × Unit) := fun _ _ _ => none
def F47 (N : Nat) (p0 : ByteArray) (p1 : ByteArray) : Option (Int × Unit) :=
  some ((Go.Abs.cmpS p0 p1), ())
theorem loops47 (N : Nat) : loopsOk C47 (L47 N) Go.Proofs.Tryd.f47 := ⟨trivial, ⟨trivial, trivial⟩⟩
theorem runs47 (N : Nat) (x : S47.ta.den) : run C47 S47 (L47 N) Go.Proofs.Tryd.f47 x = F47 N x.1 x.2.1 := by kernel_rfl

/-! ### 6: incognito/incognitolaw17.wakes -/
def L6 (_ : Nat) : Loops (Bool × Unit) := fun _ _ _ => none
def F6 (N : Nat) : Option (Bool × Unit) :=
  some ((Go.Inc.sameV (((Go.Inc.dictStep ((Go.Inc.dictStep ((Go.Inc.dictStep ((Go.Inc.dictNew (10 : Int)).1) ((2 : Int), ((0 : Int), ((strL [120]), ()))) (7 : Int) ((Go.Inc.num' (2 : Int)) :: (((2 : Int), ((0 : Int), ((strL [120]), ()))) :: ([] : List (Int × (Int × (ByteArray × Unit))))))).1) ((2 : Int), ((0 : Int), ((strL [120]), ()))) (7 : Int) ((Go.Inc.num' (1 : Int)) :: (((2 : Int), ((0 : Int), ((strL [121]), ()))) :: ([] : List (Int × (Int × (ByteArray × Unit))))))).1) ((2 : Int), ((0 : Int), ((strL [120]), ()))) (13 : Int) ((Go.Inc.num' (1 : Int)) :: ((Go.Inc.num' (2 : Int)) :: ([] : List (Int × (Int × (ByteArray × Unit))))))).2).1) ((Go.Inc.num' (1 : Int)) :: (((2 : Int), ((0 : Int), ((strL [121]), ()))) :: ((Go.Inc.num' (2 : Int)) :: (((2 : Int), ((0 : Int), ((strL [120]), ()))) :: ([] : List (Int × (Int × (ByteArray × Unit))))))))), ())
theorem loops6 (N : Nat) : loopsOk C6 (L6 N) Go.Proofs.Tryd.f6 := ⟨trivial, ⟨trivial, ⟨trivial, ⟨trivial, ⟨trivial, ⟨trivial, ⟨trivial, trivial⟩⟩⟩⟩⟩⟩⟩
theorem runs6 (N : Nat) (x : S6.ta.den) : run C6 S6 (L6 N) Go.Proofs.Tryd.f6 x = F6 N := by kernel_rfl

/-! ### 8: incognito/incognitolaw17.own -/
def L8 (_ : Nat) : Loops (Bool × Unit) := fun _ _ _ => none
def F8 (N : Nat) (p0 : Int) : Option (Bool × Unit) :=
  bif (p0 == (4 : Int)) then
    some (true, ())
  else
    some ((p0 == (10 : Int)), ())
theorem loops8 (N : Nat) : loopsOk C8 (L8 N) Go.Proofs.Tryd.f8 := ⟨trivial, ⟨trivial, trivial⟩⟩
theorem runs8 (N : Nat) (x : S8.ta.den) : run C8 S8 (L8 N) Go.Proofs.Tryd.f8 x = F8 N x.1 := by kernel_rfl

/-! ### 9: incognito/incognitolaw17.great -/
def W9_7 {β : Type} (N : Nat) (x0 : Bool → Option β) (x3 : (List ((Int × Int × ByteArray × Unit) × Int × (List (Int × Int × ByteArray × Unit)) × Unit)) → (List ((Int × Int × ByteArray × Unit) × Int × (List (Int × Int × ByteArray × Unit)) × Unit)) → Int → Int → Option β) : Nat → (List ((Int × Int × ByteArray × Unit) × Int × (List (Int × Int × ByteArray × Unit)) × Unit)) → (List ((Int × Int × ByteArray × Unit) × Int × (List (Int × Int × ByteArray × Unit)) × Unit)) → Int → Int → (List (Int × Int × ByteArray × Unit)) → Int → Int → Option β
  | 0, _, _, _, _, _, _, _ => none
  | n + 1, t0, t7, t8, t9, t25, t26, t27 =>
  bif decide (t27 < t26) then
    bif ((decide ((0 : Int) ≤ t27)) && (decide (t27 < (((List.length t25) : Nat) : Int)))) then
      bif decide ((((ByteArray.size ((((List.getD t25 (Int.toNat t27) ((0 : Int), ((0 : Int), (ByteArray.empty, ())))).2).2).1)) : Nat) : Int) > (100 : Int)) then
        x0 true
      else
        W9_7 N x0 x3 n t0 t7 t8 t9 t25 t26 (Go.IntKind.wrap .i64 (t27 + (1 : Int)))
    else
      none
  else
    x3 t0 t7 t8 t9
def W9_2 {β : Type} (N : Nat) (x0 : Bool → Option β) (x1 : (List ((Int × Int × ByteArray × Unit) × Int × (List (Int × Int × ByteArray × Unit)) × Unit)) → Option β) : Nat → (List ((Int × Int × ByteArray × Unit) × Int × (List (Int × Int × ByteArray × Unit)) × Unit)) → (List ((Int × Int × ByteArray × Unit) × Int × (List (Int × Int × ByteArray × Unit)) × Unit)) → Int → Int → Option β
  | 0, _, _, _, _ => none
  | n + 1, t0, t7, t8, t9 =>
  bif decide (t9 < t8) then
    bif ((decide ((0 : Int) ≤ t9)) && (decide (t9 < (((List.length t7) : Nat) : Int)))) then
      bif decide ((((List.length ((((List.getD t7 (Int.toNat t9) (((0 : Int), ((0 : Int), (ByteArray.empty, ()))), ((0 : Int), ([], ())))).2).2).1)) : Nat) : Int) > (10 : Int)) then
        x0 true
      else
        bif decide ((((ByteArray.size (((((List.getD t7 (Int.toNat t9) (((0 : Int), ((0 : Int), (ByteArray.empty, ()))), ((0 : Int), ([], ())))).1).2).2).1)) : Nat) : Int) > (100 : Int)) then
          x0 true
        else
          W9_7 N
            (fun t2 =>
              x0 t2)
            (fun t0 t7 t8 t9 =>
              W9_2 N x0 x1 n t0 t7 t8 (Go.IntKind.wrap .i64 (t9 + (1 : Int))))
            N t0 t7 t8 t9 ((((List.getD t7 (Int.toNat t9) (((0 : Int), ((0 : Int), (ByteArray.empty, ()))), ((0 : Int), ([], ())))).2).2).1) (((List.length ((((List.getD t7 (Int.toNat t9) (((0 : Int), ((0 : Int), (ByteArray.empty, ()))), ((0 : Int), ([], ())))).2).2).1)) : Nat) : Int) (0 : Int)
    else
      none
  else
    x1 t0
def L9 (N : Nat) : Loops (Bool × Unit) := fun k ρ K => match Nat.beq k 7 with
  | true => (match adH ρ H9_7.hd with
    | some v => W9_7 N (fun t2 => K .ret (encH [(4, .bo)] (t2, ()))) (fun t0 t7 t8 t9 => K (.exit 2) (encH [(0, (.sl (.pr (.pr (.int .i64) (.pr (.int .i64) (.pr .str .un))) (.pr (.int .i64) (.pr (.sl (.pr (.int .i64) (.pr (.int .i64) (.pr .str .un)))) .un))) .no)), (14, (.sl (.pr (.pr (.int .i64) (.pr (.int .i64) (.pr .str .un))) (.pr (.int .i64) (.pr (.sl (.pr (.int .i64) (.pr (.int .i64) (.pr .str .un)))) .un))) .no)), (16, (.i .i64)), (18, (.i .i64))] (t0, (t7, (t8, (t9, ())))))) N v.1 v.2.1 v.2.2.1 v.2.2.2.1 v.2.2.2.2.1 v.2.2.2.2.2.1 v.2.2.2.2.2.2.1
    | none => none)
  | false => match Nat.beq k 2 with
  | true => (match adH ρ H9_2.hd with
    | some v => W9_2 N (fun t2 => K .ret (encH [(4, .bo)] (t2, ()))) (fun t0 => K (.exit 0) (encH [(0, (.sl (.pr (.pr (.int .i64) (.pr (.int .i64) (.pr .str .un))) (.pr (.int .i64) (.pr (.sl (.pr (.int .i64) (.pr (.int .i64) (.pr .str .un)))) .un))) .no))] (t0, ()))) N v.1 v.2.1 v.2.2.1 v.2.2.2.1
    | none => none)
  | false => none
def F9 (N : Nat) (p0 : List ((Int × Int × ByteArray × Unit) × Int × (List (Int × Int × ByteArray × Unit)) × Unit)) : Option (Bool × Unit) :=
  W9_2 N
    (fun t2 =>
      some (t2, ()))
    (fun t0 =>
      some (decide ((((List.length t0) : Nat) : Int) > (40 : Int)), ()))
    N p0 p0 (((List.length p0) : Nat) : Int) (0 : Int)
theorem loops9 (N : Nat) : loopsOk C9 (L9 N) Go.Proofs.Tryd.f9 := ⟨trivial, ⟨⟨trivial, ⟨loopOk_of H9_2 N (fun K n v => W9_2 N (fun t2 => K .ret (encH [(4, .bo)] (t2, ()))) (fun t0 => K (.exit 0) (encH [(0, (.sl (.pr (.pr (.int .i64) (.pr (.int .i64) (.pr .str .un))) (.pr (.int .i64) (.pr (.sl (.pr (.int .i64) (.pr (.int .i64) (.pr .str .un)))) .un))) .no))] (t0, ()))) n v.1 v.2.1 v.2.2.1 v.2.2.2.1) (by kernel_rfl) (fun K v => by kernel_rfl) (fun K v => by kernel_rfl) (fun K n v => by kernel_rfl), ⟨trivial, ⟨⟨trivial, trivial⟩, ⟨⟨trivial, ⟨⟨trivial, ⟨⟨trivial, trivial⟩, trivial⟩⟩, ⟨trivial, ⟨loopOk_of H9_7 N (fun K n v => W9_7 N (fun t2 => K .ret (encH [(4, .bo)] (t2, ()))) (fun t0 t7 t8 t9 => K (.exit 2) (encH [(0, (.sl (.pr (.pr (.int .i64) (.pr (.int .i64) (.pr .str .un))) (.pr (.int .i64) (.pr (.sl (.pr (.int .i64) (.pr (.int .i64) (.pr .str .un)))) .un))) .no)), (14, (.sl (.pr (.pr (.int .i64) (.pr (.int .i64) (.pr .str .un))) (.pr (.int .i64) (.pr (.sl (.pr (.int .i64) (.pr (.int .i64) (.pr .str .un)))) .un))) .no)), (16, (.i .i64)), (18, (.i .i64))] (t0, (t7, (t8, (t9, ())))))) n v.1 v.2.1 v.2.2.1 v.2.2.2.1 v.2.2.2.2.1 v.2.2.2.2.2.1 v.2.2.2.2.2.2.1) (by kernel_rfl) (fun K v => by kernel_rfl) (fun K v => by kernel_rfl) (fun K n v => by kernel_rfl), ⟨trivial, ⟨⟨trivial, trivial⟩, ⟨⟨trivial, ⟨trivial, ⟨⟨trivial, trivial⟩, trivial⟩⟩⟩, trivial⟩⟩⟩⟩⟩⟩⟩, trivial⟩⟩⟩⟩⟩, ⟨trivial, trivial⟩⟩⟩
theorem runs9 (N : Nat) (x : S9.ta.den) : run C9 S9 (L9 N) Go.Proofs.Tryd.f9 x = F9 N x.1 := by kernel_rfl

/-! ### 10: incognito/incognitoref13.Same -/
def L10 (_ : Nat) : Loops (Bool × Unit) := fun _ _ _ => none
def F10 (N : Nat) (p0 : Int × (Int × Int × ByteArray × Unit) × Int × (List (Int × Int × ByteArray × Unit)) × Unit) (p1 : Int × (Int × Int × ByteArray × Unit) × Int × (List (Int × Int × ByteArray × Unit)) × Unit) : Option (Bool × Unit) :=
  bif (p0.1 == p1.1) then
    bif ((p0.2.1.1 == p1.2.1.1) && ((p0.2.1.2.1 == p1.2.1.2.1) && ((p0.2.1.2.2.1 == p1.2.1.2.2.1) && true))) then
      bif (p0.2.2.1 == p1.2.2.1) then
        bif (Go.Inc.okSame2 p0.2.2.2.1 p1.2.2.2.1) then
          some ((Go.Inc.sameV p0.2.2.2.1 p1.2.2.2.1), ())
        else
          none
      else
        some (false, ())
    else
      some (false, ())
  else
    some (false, ())
theorem loops10 (N : Nat) : loopsOk C10 (L10 N) Go.Proofs.Tryd.f10 := ⟨trivial, ⟨trivial, trivial⟩⟩
theorem runs10 (N : Nat) (x : S10.ta.den) : run C10 S10 (L10 N) Go.Proofs.Tryd.f10 x = F10 N x.1 x.2.1 := by kernel_rfl

/-! ### 30: incognito/incognitoref07.Sort -/
def W30_6 {β : Type} (N : Nat) (x3 : (List (Int × Int × ByteArray × Unit)) → (List (Int × Int × ByteArray × Unit)) → Int → Int → Option β) : Nat → (List (Int × Int × ByteArray × Unit)) → (List (Int × Int × ByteArray × Unit)) → Int → Int → Option β
  | 0, _, _, _, _ => none
  | n + 1, t0, t3, t4, t5 =>
  bif decide (t5 > (0 : Int)) then
    bif ((decide ((0 : Int) ≤ t4)) && (decide (t4 < (((List.length t0) : Nat) : Int)))) then
      bif ((decide ((0 : Int) ≤ (Go.IntKind.wrap .i64 (t5 - (1 : Int))))) && (decide ((Go.IntKind.wrap .i64 (t5 - (1 : Int))) < (((List.length t3) : Nat) : Int)))) then
        bif (Go.Inc.lessV (List.getD t0 (Int.toNat t4) ((0 : Int), ((0 : Int), (ByteArray.empty, ())))) (List.getD t3 (Int.toNat (Go.IntKind.wrap .i64 (t5 - (1 : Int)))) ((0 : Int), ((0 : Int), (ByteArray.empty, ()))))) then
          W30_6 N x3 n t0 t3 t4 (Go.IntKind.wrap .i64 (t5 - (1 : Int)))
        else
          x3 t0 t3 t4 t5
      else
        none
    else
      none
  else
    x3 t0 t3 t4 t5
def W30_3 {β : Type} (N : Nat) (x1 : (List (Int × Int × ByteArray × Unit)) → Option β) : Nat → (List (Int × Int × ByteArray × Unit)) → (List (Int × Int × ByteArray × Unit)) → Int → Option β
  | 0, _, _, _ => none
  | n + 1, t0, t3, t4 =>
  bif decide (t4 < (((List.length t0) : Nat) : Int)) then
    W30_6 N
      (fun t0 t3 t4 t5 =>
        bif ((decide ((0 : Int) ≤ (0 : Int))) && ((decide ((0 : Int) ≤ t5)) && (decide (t5 ≤ (((List.length t3) : Nat) : Int))))) then
          bif decide ((((List.length ([] : List (Int × (Int × (ByteArray × Unit))))) + (List.length (Go.Abs.sub t3 (0 : Int) t5))) * 32) ≤ 140737488351232) then
            bif ((decide ((0 : Int) ≤ t4)) && (decide (t4 < (((List.length t0) : Nat) : Int)))) then
              bif decide ((((List.length (([] : List (Int × (Int × (ByteArray × Unit)))) ++ (Go.Abs.sub t3 (0 : Int) t5))) + (List.length ((List.getD t0 (Int.toNat t4) ((0 : Int), ((0 : Int), (ByteArray.empty, ())))) :: ([] : List (Int × (Int × (ByteArray × Unit))))))) * 32) ≤ 140737488351232) then
              bif ((decide ((0 : Int) ≤ t5)) && ((decide (t5 ≤ (((List.length t3) : Nat) : Int))) && (decide ((((List.length t3) : Nat) : Int) ≤ (((List.length t3) : Nat) : Int))))) then
              bif decide ((((List.length ((([] : List (Int × (Int × (ByteArray × Unit)))) ++ (Go.Abs.sub t3 (0 : Int) t5)) ++ ((List.getD t0 (Int.toNat t4) ((0 : Int), ((0 : Int), (ByteArray.empty, ())))) :: ([] : List (Int × (Int × (ByteArray × Unit))))))) + (List.length (Go.Abs.sub t3 t5 (((List.length t3) : Nat) : Int)))) * 32) ≤ 140737488351232) then
              W30_3 N x1 n t0 (((([] : List (Int × (Int × (ByteArray × Unit)))) ++ (Go.Abs.sub t3 (0 : Int) t5)) ++ ((List.getD t0 (Int.toNat t4) ((0 : Int), ((0 : Int), (ByteArray.empty, ())))) :: ([] : List (Int × (Int × (ByteArray × Unit)))))) ++ (Go.Abs.sub t3 t5 (((List.length t3) : Nat) : Int))) (Go.IntKind.wrap .i64 (t4 + (1 : Int)))
            else
              none
            else
              none
            else
              none
            else
              none
          else
            none
        else
          none)
      N t0 t3 t4 (((List.length t3) : Nat) : Int)
  else
    x1 t3
def L30 (N : Nat) : Loops ((List (Int × Int × ByteArray × Unit)) × Unit) := fun k ρ K => match Nat.beq k 6 with
  | true => (match adH ρ H30_6.hd with
    | some v => W30_6 N (fun t0 t3 t4 t5 => K (.exit 2) (encH [(0, (.sl (.pr (.int .i64) (.pr (.int .i64) (.pr .str .un))) .no)), (6, (.sl (.pr (.int .i64) (.pr (.int .i64) (.pr .str .un))) (.own 35))), (8, (.i .i64)), (10, (.i .i64))] (t0, (t3, (t4, (t5, ())))))) N v.1 v.2.1 v.2.2.1 v.2.2.2.1
    | none => none)
  | false => match Nat.beq k 3 with
  | true => (match adH ρ H30_3.hd with
    | some v => W30_3 N (fun t3 => K (.exit 0) (encH [(6, (.sl (.pr (.int .i64) (.pr (.int .i64) (.pr .str .un))) (.own 35)))] (t3, ()))) N v.1 v.2.1 v.2.2.1
    | none => none)
  | false => none
def F30 (N : Nat) (p0 : List (Int × Int × ByteArray × Unit)) : Option ((List (Int × Int × ByteArray × Unit)) × Unit) :=
  W30_3 N
    (fun t3 =>
      some (t3, ()))
    N p0 ([] : List (Int × (Int × (ByteArray × Unit)))) (0 : Int)
theorem loops30 (N : Nat) : loopsOk C30 (L30 N) Go.Proofs.Tryd.f30 := ⟨trivial, ⟨trivial, ⟨⟨trivial, ⟨loopOk_of H30_3 N (fun K n v => W30_3 N (fun t3 => K (.exit 0) (encH [(6, (.sl (.pr (.int .i64) (.pr (.int .i64) (.pr .str .un))) (.own 35)))] (t3, ()))) n v.1 v.2.1 v.2.2.1) (by kernel_rfl) (fun K v => by kernel_rfl) (fun K v => by kernel_rfl) (fun K n v => by kernel_rfl), ⟨⟨trivial, ⟨trivial, trivial⟩⟩, ⟨⟨trivial, ⟨⟨loopOk_of H30_6 N (fun K n v => W30_6 N (fun t0 t3 t4 t5 => K (.exit 2) (encH [(0, (.sl (.pr (.int .i64) (.pr (.int .i64) (.pr .str .un))) .no)), (6, (.sl (.pr (.int .i64) (.pr (.int .i64) (.pr .str .un))) (.own 35))), (8, (.i .i64)), (10, (.i .i64))] (t0, (t3, (t4, (t5, ())))))) n v.1 v.2.1 v.2.2.1 v.2.2.2.1) (by kernel_rfl) (fun K v => by kernel_rfl) (fun K v => by kernel_rfl) (fun K n v => by kernel_rfl), ⟨⟨trivial, ⟨trivial, trivial⟩⟩, trivial⟩⟩, ⟨trivial, ⟨trivial, ⟨trivial, trivial⟩⟩⟩⟩⟩, trivial⟩⟩⟩⟩, ⟨trivial, trivial⟩⟩⟩⟩
theorem runs30 (N : Nat) (x : S30.ta.den) : run C30 S30 (L30 N) Go.Proofs.Tryd.f30 x = F30 N x.1 := by kernel_rfl

/-! ### 19: incognito/incognitoref17.keys -/
def W19_10 {β : Type} (N : Nat) (x3 : (List ((Int × Int × ByteArray × Unit) × Int × (List (Int × Int × ByteArray × Unit)) × Unit)) → Int → Int → ByteArray → (List (Int × Int × ByteArray × Unit)) → Int → Int → Int → ByteArray → Bool → Option β) : Nat → (List ((Int × Int × ByteArray × Unit) × Int × (List (Int × Int × ByteArray × Unit)) × Unit)) → Int → Int → ByteArray → (List (Int × Int × ByteArray × Unit)) → Int → Int → Int → ByteArray → Bool → Int → Option β
  | 0, _, _, _, _, _, _, _, _, _, _, _ => none
  | n + 1, t0, b3a, b3ba, b3bba, t4, t5, b6a, b6ba, b6bba, t7, t8 =>
  bif decide (t8 < (((List.length t4) : Nat) : Int)) then
    bif t7 then
      W19_10 N x3 n t0 b3a b3ba b3bba t4 t5 b6a b6ba b6bba true (Go.IntKind.wrap .i64 (t8 + (1 : Int)))
    else
      bif ((decide ((0 : Int) ≤ t8)) && (decide (t8 < (((List.length t4) : Nat) : Int)))) then
        W19_10 N x3 n t0 b3a b3ba b3bba t4 t5 b6a b6ba b6bba ((((List.getD t4 (Int.toNat t8) ((0 : Int), ((0 : Int), (ByteArray.empty, ())))).1) == b6a) && (((((List.getD t4 (Int.toNat t8) ((0 : Int), ((0 : Int), (ByteArray.empty, ())))).2).1) == b6ba) && ((((((List.getD t4 (Int.toNat t8) ((0 : Int), ((0 : Int), (ByteArray.empty, ())))).2).2).1) == b6bba) && true))) (Go.IntKind.wrap .i64 (t8 + (1 : Int)))
      else
        none
  else
    x3 t0 b3a b3ba b3bba t4 t5 b6a b6ba b6bba t7
def W19_4 {β : Type} (N : Nat) (x1 : (List (Int × Int × ByteArray × Unit)) → Option β) : Nat → (List ((Int × Int × ByteArray × Unit) × Int × (List (Int × Int × ByteArray × Unit)) × Unit)) → Int → Int → ByteArray → (List (Int × Int × ByteArray × Unit)) → Int → Option β
  | 0, _, _, _, _, _, _ => none
  | n + 1, t0, b3a, b3ba, b3bba, t4, t5 =>
  bif decide (t5 < (((List.length t0) : Nat) : Int)) then
    bif ((decide ((0 : Int) ≤ t5)) && (decide (t5 < (((List.length t0) : Nat) : Int)))) then
      bif ((((List.getD t0 (Int.toNat t5) (((0 : Int), ((0 : Int), (ByteArray.empty, ()))), ((0 : Int), ([], ())))).2).1) != (7 : Int)) then
        W19_4 N x1 n t0 b3a b3ba b3bba t4 (Go.IntKind.wrap .i64 (t5 + (1 : Int)))
      else
        bif ((decide ((0 : Int) ≤ t5)) && (decide (t5 < (((List.length t0) : Nat) : Int)))) then
          bif ((decide ((0 : Int) ≤ (0 : Int))) && (decide ((0 : Int) < (((List.length ((((List.getD t0 (Int.toNat t5) (((0 : Int), ((0 : Int), (ByteArray.empty, ()))), ((0 : Int), ([], ())))).2).2).1)) : Nat) : Int)))) then
            bif (Go.Inc.okDPast t0 (List.getD ((((List.getD t0 (Int.toNat t5) (((0 : Int), ((0 : Int), (ByteArray.empty, ()))), ((0 : Int), ([], ())))).2).2).1) (Int.toNat (0 : Int)) ((0 : Int), ((0 : Int), (ByteArray.empty, ()))))) then
              W19_10 N
              (fun t0 b3a b3ba b3bba t4 t5 b6a b6ba b6bba t7 =>
                bif (!t7) then
              bif decide ((((List.length t4) + (List.length ((b6a, (b6ba, (b6bba, ()))) :: ([] : List (Int × (Int × (ByteArray × Unit))))))) * 32) ≤ 140737488351232) then
              W19_4 N x1 n t0 b3a b3ba b3bba (t4 ++ ((b6a, (b6ba, (b6bba, ()))) :: ([] : List (Int × (Int × (ByteArray × Unit)))))) (Go.IntKind.wrap .i64 (t5 + (1 : Int)))
            else
              none
            else
              W19_4 N x1 n t0 b3a b3ba b3bba t4 (Go.IntKind.wrap .i64 (t5 + (1 : Int))))
              N t0 b3a b3ba b3bba t4 t5 ((List.getD ((((List.getD t0 (Int.toNat t5) (((0 : Int), ((0 : Int), (ByteArray.empty, ()))), ((0 : Int), ([], ())))).2).2).1) (Int.toNat (0 : Int)) ((0 : Int), ((0 : Int), (ByteArray.empty, ())))).1) (((List.getD ((((List.getD t0 (Int.toNat t5) (((0 : Int), ((0 : Int), (ByteArray.empty, ()))), ((0 : Int), ([], ())))).2).2).1) (Int.toNat (0 : Int)) ((0 : Int), ((0 : Int), (ByteArray.empty, ())))).2).1) ((((List.getD ((((List.getD t0 (Int.toNat t5) (((0 : Int), ((0 : Int), (ByteArray.empty, ()))), ((0 : Int), ([], ())))).2).2).1) (Int.toNat (0 : Int)) ((0 : Int), ((0 : Int), (ByteArray.empty, ())))).2).2).1) ((((Go.Inc.dictHas t0 (List.getD ((((List.getD t0 (Int.toNat t5) (((0 : Int), ((0 : Int), (ByteArray.empty, ()))), ((0 : Int), ([], ())))).2).2).1) (Int.toNat (0 : Int)) ((0 : Int), ((0 : Int), (ByteArray.empty, ()))))).1) == b3a) && (((((Go.Inc.dictHas t0 (List.getD ((((List.getD t0 (Int.toNat t5) (((0 : Int), ((0 : Int), (ByteArray.empty, ()))), ((0 : Int), ([], ())))).2).2).1) (Int.toNat (0 : Int)) ((0 : Int), ((0 : Int), (ByteArray.empty, ()))))).2).1) == b3ba) && ((((((Go.Inc.dictHas t0 (List.getD ((((List.getD t0 (Int.toNat t5) (((0 : Int), ((0 : Int), (ByteArray.empty, ()))), ((0 : Int), ([], ())))).2).2).1) (Int.toNat (0 : Int)) ((0 : Int), ((0 : Int), (ByteArray.empty, ()))))).2).2).1) == b3bba) && true))) (0 : Int)
            else
              none
          else
            none
        else
          none
    else
      none
  else
    x1 t4
def L19 (N : Nat) : Loops ((List (Int × Int × ByteArray × Unit)) × Unit) := fun k ρ K => match Nat.beq k 10 with
  | true => (match adH ρ H19_10.hd with
    | some v => W19_10 N (fun t0 b3a b3ba b3bba t4 t5 b6a b6ba b6bba t7 => K (.exit 2) (encH [(0, (.sl (.pr (.pr (.int .i64) (.pr (.int .i64) (.pr .str .un))) (.pr (.int .i64) (.pr (.sl (.pr (.int .i64) (.pr (.int .i64) (.pr .str .un)))) .un))) .no)), (6, (.bx 3 0)), (7, (.pr (.i .i64) (.pr (.i .i64) (.pr .st .un)))), (8, (.sl (.pr (.int .i64) (.pr (.int .i64) (.pr .str .un))) (.own 54))), (10, (.i .i64)), (12, (.bx 6 0)), (13, (.pr (.i .i64) (.pr (.i .i64) (.pr .st .un)))), (14, .bo)] (t0, ((), ((b3a, (b3ba, (b3bba, ()))), (t4, (t5, ((), ((b6a, (b6ba, (b6bba, ()))), (t7, ())))))))))) N v.1 v.2.2.1.1 v.2.2.1.2.1 v.2.2.1.2.2.1 v.2.2.2.1 v.2.2.2.2.1 v.2.2.2.2.2.2.1.1 v.2.2.2.2.2.2.1.2.1 v.2.2.2.2.2.2.1.2.2.1 v.2.2.2.2.2.2.2.1 v.2.2.2.2.2.2.2.2.1
    | none => none)
  | false => match Nat.beq k 4 with
  | true => (match adH ρ H19_4.hd with
    | some v => W19_4 N (fun t4 => K (.exit 0) (encH [(8, (.sl (.pr (.int .i64) (.pr (.int .i64) (.pr .str .un))) (.own 54)))] (t4, ()))) N v.1 v.2.2.1.1 v.2.2.1.2.1 v.2.2.1.2.2.1 v.2.2.2.1 v.2.2.2.2.1
    | none => none)
  | false => none
def F19 (N : Nat) (p0 : List ((Int × Int × ByteArray × Unit) × Int × (List (Int × Int × ByteArray × Unit)) × Unit)) : Option ((List (Int × Int × ByteArray × Unit)) × Unit) :=
  W19_4 N
    (fun t4 =>
      bif (Go.Inc.okSort t4) then
        some ((Go.Inc.sortV t4), ())
      else
        none)
    N p0 (0 : Int) (0 : Int) ByteArray.empty ([] : List (Int × (Int × (ByteArray × Unit)))) (0 : Int)
theorem loops19 (N : Nat) : loopsOk C19 (L19 N) Go.Proofs.Tryd.f19 := ⟨trivial, ⟨trivial, ⟨trivial, ⟨⟨trivial, ⟨loopOk_of H19_4 N (fun K n v => W19_4 N (fun t4 => K (.exit 0) (encH [(8, (.sl (.pr (.int .i64) (.pr (.int .i64) (.pr .str .un))) (.own 54)))] (t4, ()))) n v.1 v.2.2.1.1 v.2.2.1.2.1 v.2.2.1.2.2.1 v.2.2.2.1 v.2.2.2.2.1) (by kernel_rfl) (fun K v => by kernel_rfl) (fun K v => by kernel_rfl) (fun K n v => by kernel_rfl), ⟨⟨trivial, ⟨trivial, trivial⟩⟩, ⟨⟨⟨trivial, ⟨trivial, trivial⟩⟩, ⟨trivial, ⟨trivial, ⟨⟨trivial, ⟨loopOk_of H19_10 N (fun K n v => W19_10 N (fun t0 b3a b3ba b3bba t4 t5 b6a b6ba b6bba t7 => K (.exit 2) (encH [(0, (.sl (.pr (.pr (.int .i64) (.pr (.int .i64) (.pr .str .un))) (.pr (.int .i64) (.pr (.sl (.pr (.int .i64) (.pr (.int .i64) (.pr .str .un)))) .un))) .no)), (6, (.bx 3 0)), (7, (.pr (.i .i64) (.pr (.i .i64) (.pr .st .un)))), (8, (.sl (.pr (.int .i64) (.pr (.int .i64) (.pr .str .un))) (.own 54))), (10, (.i .i64)), (12, (.bx 6 0)), (13, (.pr (.i .i64) (.pr (.i .i64) (.pr .st .un)))), (14, .bo)] (t0, ((), ((b3a, (b3ba, (b3bba, ()))), (t4, (t5, ((), ((b6a, (b6ba, (b6bba, ()))), (t7, ())))))))))) n v.1 v.2.2.1.1 v.2.2.1.2.1 v.2.2.1.2.2.1 v.2.2.2.1 v.2.2.2.2.1 v.2.2.2.2.2.2.1.1 v.2.2.2.2.2.2.1.2.1 v.2.2.2.2.2.2.1.2.2.1 v.2.2.2.2.2.2.2.1 v.2.2.2.2.2.2.2.2.1) (by kernel_rfl) (fun K v => by kernel_rfl) (fun K v => by kernel_rfl) (fun K n v => by kernel_rfl), ⟨⟨trivial, ⟨trivial, trivial⟩⟩, ⟨trivial, trivial⟩⟩⟩⟩, ⟨trivial, ⟨trivial, trivial⟩⟩⟩⟩⟩⟩, trivial⟩⟩⟩⟩, ⟨trivial, trivial⟩⟩⟩⟩⟩
theorem runs19 (N : Nat) (x : S19.ta.den) : run C19 S19 (L19 N) Go.Proofs.Tryd.f19 x = F19 N x.1 := by kernel_rfl

/-! ### 39: incognito/incognitoref07.IsWord -/
def W39_2 {β : Type} (N : Nat) (x0 : Bool → Option β) (x1 : ByteArray → Option β) : Nat → ByteArray → Int → Option β
  | 0, _, _ => none
  | n + 1, t0, t3 =>
  bif decide (t3 < (((ByteArray.size t0) : Nat) : Int)) then
    bif ((decide ((0 : Int) ≤ t3)) && (decide (t3 < (((ByteArray.size t0) : Nat) : Int)))) then
      bif (Go.Inc.ok8 (((UInt8.toNat (List.getD (Array.toList (ByteArray.data t0)) (Int.toNat t3) (0 : UInt8))) : Nat) : Int) (t3 == (0 : Int))) then
        bif (!(Go.Inc.letterGo (((UInt8.toNat (List.getD (Array.toList (ByteArray.data t0)) (Int.toNat t3) (0 : UInt8))) : Nat) : Int) (t3 == (0 : Int)))) then
          x0 false
        else
          W39_2 N x0 x1 n t0 (Go.IntKind.wrap .i64 (t3 + (1 : Int)))
      else
        none
    else
      none
  else
    x1 t0
def L39 (N : Nat) : Loops (Bool × Unit) := fun k ρ K => match Nat.beq k 2 with
  | true => (match adH ρ H39_2.hd with
    | some v => W39_2 N (fun t2 => K .ret (encH [(4, .bo)] (t2, ()))) (fun t0 => K (.exit 0) (encH [(0, .st)] (t0, ()))) N v.1 v.2.1
    | none => none)
  | false => none
def F39 (N : Nat) (p0 : ByteArray) : Option (Bool × Unit) :=
  W39_2 N
    (fun t2 =>
      some (t2, ()))
    (fun t0 =>
      bif decide ((((ByteArray.size t0) : Nat) : Int) ≥ (1 : Int)) then
        some (decide ((((ByteArray.size t0) : Nat) : Int) ≤ (40 : Int)), ())
      else
        some (false, ()))
    N p0 (0 : Int)
theorem loops39 (N : Nat) : loopsOk C39 (L39 N) Go.Proofs.Tryd.f39 := ⟨trivial, ⟨⟨trivial, ⟨loopOk_of H39_2 N (fun K n v => W39_2 N (fun t2 => K .ret (encH [(4, .bo)] (t2, ()))) (fun t0 => K (.exit 0) (encH [(0, .st)] (t0, ()))) n v.1 v.2.1) (by kernel_rfl) (fun K v => by kernel_rfl) (fun K v => by kernel_rfl) (fun K n v => by kernel_rfl), ⟨⟨trivial, ⟨trivial, trivial⟩⟩, ⟨⟨trivial, ⟨⟨trivial, trivial⟩, trivial⟩⟩, trivial⟩⟩⟩⟩, ⟨trivial, trivial⟩⟩⟩
theorem runs39 (N : Nat) (x : S39.ta.den) : run C39 S39 (L39 N) Go.Proofs.Tryd.f39 x = F39 N x.1 := by kernel_rfl

/-! ### 16: incognito/incognitoref07.Name -/
def L16 (_ : Nat) : Loops (Bool × Unit) := fun _ _ _ => none
def F16 (N : Nat) (p0 : Int × Int × ByteArray × Unit) : Option (Bool × Unit) :=
  bif (Go.Inc.okV p0) then
    bif (Go.Inc.right p0) then
      bif (p0.1 == (1 : Int)) then
        some (true, ())
      else
        some ((p0.1 == (2 : Int)), ())
    else
      some (false, ())
  else
    none
theorem loops16 (N : Nat) : loopsOk C16 (L16 N) Go.Proofs.Tryd.f16 := ⟨trivial, ⟨trivial, trivial⟩⟩
theorem runs16 (N : Nat) (x : S16.ta.den) : run C16 S16 (L16 N) Go.Proofs.Tryd.f16 x = F16 N x.1 := by kernel_rfl

/-! ### 49: incognito/incognitoref09.ModelName -/
def L49 (_ : Nat) : Loops (ByteArray × Unit) := fun _ _ _ => none
def F49 (N : Nat) (p0 : Int) : Option (ByteArray × Unit) :=
  bif (p0 == (1 : Int)) then
    some ((strL [114, 101, 103]), ())
  else
    bif (p0 == (2 : Int)) then
      some ((strL [99, 97, 115]), ())
    else
      bif (p0 == (3 : Int)) then
        some ((strL [115, 101, 116]), ())
      else
        bif (p0 == (4 : Int)) then
          some ((strL [109, 97, 112]), ())
        else
          bif (p0 == (5 : Int)) then
            some ((strL [102, 105, 102, 111]), ())
          else
            bif (p0 == (6 : Int)) then
              some ((strL [115, 116, 97, 99, 107]), ())
            else
              bif (p0 == (7 : Int)) then
              some ((strL [108, 111, 99, 107]), ())
            else
              bif (p0 == (8 : Int)) then
              some ((strL [99, 111, 117, 110, 116]), ())
            else
              bif (p0 == (9 : Int)) then
              some ((strL [109, 97, 120]), ())
            else
              bif (p0 == (10 : Int)) then
              some ((strL [111, 109, 97, 112]), ())
            else
              some ((strL []), ())
theorem loops49 (N : Nat) : loopsOk C49 (L49 N) Go.Proofs.Tryd.f49 := ⟨trivial, ⟨⟨trivial, ⟨trivial, ⟨⟨trivial, trivial⟩, ⟨trivial, ⟨⟨trivial, trivial⟩, ⟨trivial, ⟨⟨trivial, trivial⟩, ⟨trivial, ⟨⟨trivial, trivial⟩, ⟨trivial, ⟨⟨trivial, trivial⟩, ⟨trivial, ⟨⟨trivial, trivial⟩, ⟨trivial, ⟨⟨trivial, trivial⟩, ⟨trivial, ⟨⟨trivial, trivial⟩, ⟨trivial, ⟨⟨trivial, trivial⟩, ⟨trivial, ⟨⟨trivial, trivial⟩, trivial⟩⟩⟩⟩⟩⟩⟩⟩⟩⟩⟩⟩⟩⟩⟩⟩⟩⟩⟩⟩⟩, ⟨trivial, trivial⟩⟩⟩
theorem runs49 (N : Nat) (x : S49.ta.den) : run C49 S49 (L49 N) Go.Proofs.Tryd.f49 x = F49 N x.1 := by kernel_rfl

/-! ### 28: incognito/incognitoref09.Fits -/
def W28_5 {β : Type} (N : Nat) (x0 : Bool → Option β) (x1 : Unit → Option β) : Nat → (List (Int × Int × ByteArray × Unit)) → (List Int) → Int → Bool → Bool → Int → Option β
  | 0, _, _, _, _, _, _ => none
  | n + 1, t2, b7a, b7ba, b7bba, b7bbba, t8 =>
  bif decide (t8 < (((List.length t2) : Nat) : Int)) then
    bif ((decide ((0 : Int) ≤ t8)) && (decide (t8 < (((List.length b7a) : Nat) : Int)))) then
      bif ((decide ((0 : Int) ≤ t8)) && (decide (t8 < (((List.length t2) : Nat) : Int)))) then
        bif (Go.Inc.okT (List.getD b7a (Int.toNat t8) (0 : Int)) (List.getD t2 (Int.toNat t8) ((0 : Int), ((0 : Int), (ByteArray.empty, ()))))) then
          bif (!(Go.Inc.takes (List.getD b7a (Int.toNat t8) (0 : Int)) (List.getD t2 (Int.toNat t8) ((0 : Int), ((0 : Int), (ByteArray.empty, ())))))) then
            x0 false
          else
            W28_5 N x0 x1 n t2 b7a b7ba b7bba b7bbba (Go.IntKind.wrap .i64 (t8 + (1 : Int)))
        else
          none
      else
        none
    else
      none
  else
    x1 ()
def L28 (N : Nat) : Loops (Bool × Unit) := fun k ρ K => match Nat.beq k 5 with
  | true => (match adH ρ H28_5.hd with
    | some v => W28_5 N (fun t6 => K .ret (encH [(12, .bo)] (t6, ()))) (fun _ => K (.exit 0) (encH [] ())) N v.1 v.2.2.1.1 v.2.2.1.2.1 v.2.2.1.2.2.1 v.2.2.1.2.2.2.1 v.2.2.2.1
    | none => none)
  | false => none
def F28 (N : Nat) (p0 : Int) (p1 : Int) (p2 : List (Int × Int × ByteArray × Unit)) : Option (Bool × Unit) :=
  bif (!(((((Go.Inc.signRef p0 p1).2).2).2).1)) then
    some (false, ())
  else
    bif ((((List.length p2) : Nat) : Int) != (((List.length ((Go.Inc.signRef p0 p1).1)) : Nat) : Int)) then
      some (false, ())
    else
      W28_5 N
        (fun t6 =>
          some (t6, ()))
        (fun (_ : Unit) =>
          some (true, ()))
        N p2 ((Go.Inc.signRef p0 p1).1) (((Go.Inc.signRef p0 p1).2).1) ((((Go.Inc.signRef p0 p1).2).2).1) (((((Go.Inc.signRef p0 p1).2).2).2).1) (0 : Int)
theorem loops28 (N : Nat) : loopsOk C28 (L28 N) Go.Proofs.Tryd.f28 := ⟨trivial, ⟨trivial, ⟨⟨trivial, ⟨⟨trivial, trivial⟩, trivial⟩⟩, ⟨⟨trivial, ⟨loopOk_of H28_5 N (fun K n v => W28_5 N (fun t6 => K .ret (encH [(12, .bo)] (t6, ()))) (fun _ => K (.exit 0) (encH [] ())) n v.1 v.2.2.1.1 v.2.2.1.2.1 v.2.2.1.2.2.1 v.2.2.1.2.2.2.1 v.2.2.2.1) (by kernel_rfl) (fun K v => by kernel_rfl) (fun K v => by kernel_rfl) (fun K n v => by kernel_rfl), ⟨⟨trivial, ⟨trivial, trivial⟩⟩, ⟨⟨trivial, ⟨⟨trivial, trivial⟩, trivial⟩⟩, trivial⟩⟩⟩⟩, ⟨trivial, trivial⟩⟩⟩⟩⟩
theorem runs28 (N : Nat) (x : S28.ta.den) : run C28 S28 (L28 N) Go.Proofs.Tryd.f28 x = F28 N x.1 x.2.1 x.2.2.1 := by kernel_rfl

/-! ### 13: incognito/incognitolaw17.may -/
def L13 (_ : Nat) : Loops (Bool × Unit) := fun _ _ _ => none
def F13 (N : Nat) (p0 : Int) (p1 : (Int × Int × ByteArray × Unit) × Int × (List (Int × Int × ByteArray × Unit)) × Unit) : Option (Bool × Unit) :=
  bif (Go.Inc.okV p1.1) then
    bif (Go.Inc.name p1.1) then
      bif (Go.Inc.okF p0 p1.2.1 p1.2.2.1) then
        some ((Go.Inc.fits p0 p1.2.1 p1.2.2.1), ())
      else
        none
    else
      some (false, ())
  else
    none
theorem loops13 (N : Nat) : loopsOk C13 (L13 N) Go.Proofs.Tryd.f13 := ⟨trivial, ⟨trivial, trivial⟩⟩
theorem runs13 (N : Nat) (x : S13.ta.den) : run C13 S13 (L13 N) Go.Proofs.Tryd.f13 x = F13 N x.1 x.2.1 := by kernel_rfl

/-! ### 4: incognito/incognitolaw17.DictParts -/
def W4_7 {β : Type} (N : Nat) (x1 : Int → Int → ByteArray → Int → Int → ByteArray → Int → Int → Int → ByteArray → Int → (List (Int × Int × ByteArray × Unit)) → Option β) : Nat → Int → Int → ByteArray → Int → Int → ByteArray → Int → Int → Int → ByteArray → Int → (List (Int × Int × ByteArray × Unit)) → (List ((Int × Int × ByteArray × Unit) × Int × (List (Int × Int × ByteArray × Unit)) × Unit)) → Int → Int → Option β
  | 0, _, _, _, _, _, _, _, _, _, _, _, _, _, _, _ => none
  | n + 1, b4a, b4ba, b4bba, b5a, b5ba, b5bba, b7a, b7ba, b7bba, b7bbba, b7bbbba, b7bbbbba, t55, t56, t57 =>
  bif decide (t57 < t56) then
    bif ((decide ((0 : Int) ≤ t57)) && (decide (t57 < (((List.length t55) : Nat) : Int)))) then
      bif (Go.Inc.okDStep (b7a, ((b7ba, (b7bba, (b7bbba, ()))), (b7bbbba, (b7bbbbba, ())))) ((List.getD t55 (Int.toNat t57) (((0 : Int), ((0 : Int), (ByteArray.empty, ()))), ((0 : Int), ([], ())))).1) (((List.getD t55 (Int.toNat t57) (((0 : Int), ((0 : Int), (ByteArray.empty, ()))), ((0 : Int), ([], ())))).2).1) ((((List.getD t55 (Int.toNat t57) (((0 : Int), ((0 : Int), (ByteArray.empty, ()))), ((0 : Int), ([], ())))).2).2).1)) then
        bif (((Go.Inc.dictStep (b7a, ((b7ba, (b7bba, (b7bbba, ()))), (b7bbbba, (b7bbbbba, ())))) ((List.getD t55 (Int.toNat t57) (((0 : Int), ((0 : Int), (ByteArray.empty, ()))), ((0 : Int), ([], ())))).1) (((List.getD t55 (Int.toNat t57) (((0 : Int), ((0 : Int), (ByteArray.empty, ()))), ((0 : Int), ([], ())))).2).1) ((((List.getD t55 (Int.toNat t57) (((0 : Int), ((0 : Int), (ByteArray.empty, ()))), ((0 : Int), ([], ())))).2).2).1)).2).2).1 then
          W4_7 N x1 n b4a b4ba b4bba b5a b5ba b5bba (((Go.Inc.dictStep (b7a, ((b7ba, (b7bba, (b7bbba, ()))), (b7bbbba, (b7bbbbba, ())))) ((List.getD t55 (Int.toNat t57) (((0 : Int), ((0 : Int), (ByteArray.empty, ()))), ((0 : Int), ([], ())))).1) (((List.getD t55 (Int.toNat t57) (((0 : Int), ((0 : Int), (ByteArray.empty, ()))), ((0 : Int), ([], ())))).2).1) ((((List.getD t55 (Int.toNat t57) (((0 : Int), ((0 : Int), (ByteArray.empty, ()))), ((0 : Int), ([], ())))).2).2).1)).1).1) (((((Go.Inc.dictStep (b7a, ((b7ba, (b7bba, (b7bbba, ()))), (b7bbbba, (b7bbbbba, ())))) ((List.getD t55 (Int.toNat t57) (((0 : Int), ((0 : Int), (ByteArray.empty, ()))), ((0 : Int), ([], ())))).1) (((List.getD t55 (Int.toNat t57) (((0 : Int), ((0 : Int), (ByteArray.empty, ()))), ((0 : Int), ([], ())))).2).1) ((((List.getD t55 (Int.toNat t57) (((0 : Int), ((0 : Int), (ByteArray.empty, ()))), ((0 : Int), ([], ())))).2).2).1)).1).2).1).1) ((((((Go.Inc.dictStep (b7a, ((b7ba, (b7bba, (b7bbba, ()))), (b7bbbba, (b7bbbbba, ())))) ((List.getD t55 (Int.toNat t57) (((0 : Int), ((0 : Int), (ByteArray.empty, ()))), ((0 : Int), ([], ())))).1) (((List.getD t55 (Int.toNat t57) (((0 : Int), ((0 : Int), (ByteArray.empty, ()))), ((0 : Int), ([], ())))).2).1) ((((List.getD t55 (Int.toNat t57) (((0 : Int), ((0 : Int), (ByteArray.empty, ()))), ((0 : Int), ([], ())))).2).2).1)).1).2).1).2).1) (((((((Go.Inc.dictStep (b7a, ((b7ba, (b7bba, (b7bbba, ()))), (b7bbbba, (b7bbbbba, ())))) ((List.getD t55 (Int.toNat t57) (((0 : Int), ((0 : Int), (ByteArray.empty, ()))), ((0 : Int), ([], ())))).1) (((List.getD t55 (Int.toNat t57) (((0 : Int), ((0 : Int), (ByteArray.empty, ()))), ((0 : Int), ([], ())))).2).1) ((((List.getD t55 (Int.toNat t57) (((0 : Int), ((0 : Int), (ByteArray.empty, ()))), ((0 : Int), ([], ())))).2).2).1)).1).2).1).2).2).1) (((((Go.Inc.dictStep (b7a, ((b7ba, (b7bba, (b7bbba, ()))), (b7bbbba, (b7bbbbba, ())))) ((List.getD t55 (Int.toNat t57) (((0 : Int), ((0 : Int), (ByteArray.empty, ()))), ((0 : Int), ([], ())))).1) (((List.getD t55 (Int.toNat t57) (((0 : Int), ((0 : Int), (ByteArray.empty, ()))), ((0 : Int), ([], ())))).2).1) ((((List.getD t55 (Int.toNat t57) (((0 : Int), ((0 : Int), (ByteArray.empty, ()))), ((0 : Int), ([], ())))).2).2).1)).1).2).2).1) ((((((Go.Inc.dictStep (b7a, ((b7ba, (b7bba, (b7bbba, ()))), (b7bbbba, (b7bbbbba, ())))) ((List.getD t55 (Int.toNat t57) (((0 : Int), ((0 : Int), (ByteArray.empty, ()))), ((0 : Int), ([], ())))).1) (((List.getD t55 (Int.toNat t57) (((0 : Int), ((0 : Int), (ByteArray.empty, ()))), ((0 : Int), ([], ())))).2).1) ((((List.getD t55 (Int.toNat t57) (((0 : Int), ((0 : Int), (ByteArray.empty, ()))), ((0 : Int), ([], ())))).2).2).1)).1).2).2).2).1) t55 t56 (Go.IntKind.wrap .i64 (t57 + (1 : Int)))
        else
          W4_7 N x1 n b4a b4ba b4bba b5a b5ba b5bba b7a b7ba b7bba b7bbba b7bbbba b7bbbbba t55 t56 (Go.IntKind.wrap .i64 (t57 + (1 : Int)))
      else
        none
    else
      none
  else
    x1 b4a b4ba b4bba b5a b5ba b5bba b7a b7ba b7bba b7bbba b7bbbba b7bbbbba
def L4 (N : Nat) : Loops (Bool × Unit) := fun k ρ K => match Nat.beq k 7 with
  | true => (match adH ρ H4_7.hd with
    | some v => W4_7 N (fun b4a b4ba b4bba b5a b5ba b5bba b7a b7ba b7bba b7bbba b7bbbba b7bbbbba => K (.exit 0) (encH [(8, (.bx 4 0)), (9, (.pr (.i .i64) (.pr (.i .i64) (.pr .st .un)))), (10, (.bx 5 0)), (11, (.pr (.i .i64) (.pr (.i .i64) (.pr .st .un)))), (14, (.bx 7 0)), (15, (.pr (.i .i64) (.pr (.i .i64) (.pr (.i .i64) (.pr .st (.pr (.i .i64) (.pr (.sl (.pr (.int .i64) (.pr (.int .i64) (.pr .str .un))) .no) .un)))))))] ((), ((b4a, (b4ba, (b4bba, ()))), ((), ((b5a, (b5ba, (b5bba, ()))), ((), ((b7a, (b7ba, (b7bba, (b7bbba, (b7bbbba, (b7bbbbba, ())))))), ())))))))) N v.2.1.1 v.2.1.2.1 v.2.1.2.2.1 v.2.2.2.1.1 v.2.2.2.1.2.1 v.2.2.2.1.2.2.1 v.2.2.2.2.2.1.1 v.2.2.2.2.2.1.2.1 v.2.2.2.2.2.1.2.2.1 v.2.2.2.2.2.1.2.2.2.1 v.2.2.2.2.2.1.2.2.2.2.1 v.2.2.2.2.2.1.2.2.2.2.2.1 v.2.2.2.2.2.2.1 v.2.2.2.2.2.2.2.1 v.2.2.2.2.2.2.2.2.1
    | none => none)
  | false => none
def F4 (N : Nat) (p0 : List ((Int × Int × ByteArray × Unit) × Int × (List (Int × Int × ByteArray × Unit)) × Unit)) (p1 : Int × Int × ByteArray × Unit) (p2 : Int × Int × ByteArray × Unit) : Option (Bool × Unit) :=
  bif (Go.Inc.okDs p0) then
    bif (Go.Inc.greatD p0) then
      some (true, ())
    else
      bif decide ((Go.IntKind.wrap .i64 ((((ByteArray.size p1.2.2.1) : Nat) : Int) + (((ByteArray.size p2.2.2.1) : Nat) : Int))) > (100 : Int)) then
        some (true, ())
      else
        bif (Go.Inc.okV p1) then
          bif (!(Go.Inc.name p1)) then
            some (true, ())
          else
            bif (Go.Inc.okV p2) then
              bif (!(Go.Inc.name p2)) then
              some (true, ())
            else
              W4_7 N
              (fun b4a b4ba b4bba b5a b5ba b5bba b7a b7ba b7bba b7bbba b7bbbba b7bbbbba =>
                bif (Go.Inc.lessV (b5a, (b5ba, (b5bba, ()))) (b4a, (b4ba, (b4bba, ())))) then
              bif (Go.Inc.okDStep (b7a, ((b7ba, (b7bba, (b7bbba, ()))), (b7bbbba, (b7bbbbba, ())))) (b5a, (b5ba, (b5bba, ()))) (13 : Int) ((Go.Inc.num' (-(9223372036854775808 : Int))) :: ((b4a, (b4ba, (b4bba, ()))) :: ([] : List (Int × (Int × (ByteArray × Unit))))))) then
              bif (Go.Inc.okDStep (b7a, ((b7ba, (b7bba, (b7bbba, ()))), (b7bbbba, (b7bbbbba, ())))) (b5a, (b5ba, (b5bba, ()))) (13 : Int) ((Go.Inc.num' (-(9223372036854775808 : Int))) :: ((b5a, (b5ba, (b5bba, ()))) :: ([] : List (Int × (Int × (ByteArray × Unit))))))) then
              bif (Go.Inc.okDStep (b7a, ((b7ba, (b7bba, (b7bbba, ()))), (b7bbbba, (b7bbbbba, ())))) (b5a, (b5ba, (b5bba, ()))) (13 : Int) ((b5a, (b5ba, (b5bba, ()))) :: ((b4a, (b4ba, (b4bba, ()))) :: ([] : List (Int × (Int × (ByteArray × Unit))))))) then
              bif (Go.Inc.okDStep (b7a, ((b7ba, (b7bba, (b7bbba, ()))), (b7bbbba, (b7bbbbba, ())))) (b5a, (b5ba, (b5bba, ()))) (13 : Int) ((b4a, (b4ba, (b4bba, ()))) :: ((b5a, (b5ba, (b5bba, ()))) :: ([] : List (Int × (Int × (ByteArray × Unit))))))) then
              bif (!((((Go.Inc.dictStep (b7a, ((b7ba, (b7bba, (b7bbba, ()))), (b7bbbba, (b7bbbbba, ())))) (b5a, (b5ba, (b5bba, ()))) (13 : Int) ((Go.Inc.num' (-(9223372036854775808 : Int))) :: ((b4a, (b4ba, (b4bba, ()))) :: ([] : List (Int × (Int × (ByteArray × Unit))))))).2).2).1)) then
              some (false, ())
            else
              bif (!((((Go.Inc.dictStep (b7a, ((b7ba, (b7bba, (b7bbba, ()))), (b7bbbba, (b7bbbbba, ())))) (b5a, (b5ba, (b5bba, ()))) (13 : Int) ((Go.Inc.num' (-(9223372036854775808 : Int))) :: ((b5a, (b5ba, (b5bba, ()))) :: ([] : List (Int × (Int × (ByteArray × Unit))))))).2).2).1)) then
              some (false, ())
            else
              bif (!((((Go.Inc.dictStep (b7a, ((b7ba, (b7bba, (b7bbba, ()))), (b7bbbba, (b7bbbbba, ())))) (b5a, (b5ba, (b5bba, ()))) (13 : Int) ((b5a, (b5ba, (b5bba, ()))) :: ((b4a, (b4ba, (b4bba, ()))) :: ([] : List (Int × (Int × (ByteArray × Unit))))))).2).2).1)) then
              some (false, ())
            else
              bif (!((((Go.Inc.dictStep (b7a, ((b7ba, (b7bba, (b7bbba, ()))), (b7bbbba, (b7bbbbba, ())))) (b5a, (b5ba, (b5bba, ()))) (13 : Int) ((b4a, (b4ba, (b4bba, ()))) :: ((b5a, (b5ba, (b5bba, ()))) :: ([] : List (Int × (Int × (ByteArray × Unit))))))).2).2).1)) then
              some (false, ())
            else
              bif (!((b5a == b4a) && ((b5ba == b4ba) && ((b5bba == b4bba) && true)))) then
              bif decide ((((List.length (((Go.Inc.dictStep (b7a, ((b7ba, (b7bba, (b7bbba, ()))), (b7bbbba, (b7bbbbba, ())))) (b5a, (b5ba, (b5bba, ()))) (13 : Int) ((b4a, (b4ba, (b4bba, ()))) :: ((b5a, (b5ba, (b5bba, ()))) :: ([] : List (Int × (Int × (ByteArray × Unit))))))).2).1)) : Nat) : Int) > (0 : Int)) then
              some (false, ())
            else
              bif decide ((((List.length (((Go.Inc.dictStep (b7a, ((b7ba, (b7bba, (b7bbba, ()))), (b7bbbba, (b7bbbbba, ())))) (b5a, (b5ba, (b5bba, ()))) (13 : Int) ((Go.Inc.num' (-(9223372036854775808 : Int))) :: ((b5a, (b5ba, (b5bba, ()))) :: ([] : List (Int × (Int × (ByteArray × Unit))))))).2).1)) : Nat) : Int) ≥ (2 : Int)) then
              bif ((decide ((0 : Int) ≤ (Go.IntKind.wrap .i64 ((((List.length (((Go.Inc.dictStep (b7a, ((b7ba, (b7bba, (b7bbba, ()))), (b7bbbba, (b7bbbbba, ())))) (b5a, (b5ba, (b5bba, ()))) (13 : Int) ((Go.Inc.num' (-(9223372036854775808 : Int))) :: ((b5a, (b5ba, (b5bba, ()))) :: ([] : List (Int × (Int × (ByteArray × Unit))))))).2).1)) : Nat) : Int) - (2 : Int))))) && (decide ((Go.IntKind.wrap .i64 ((((List.length (((Go.Inc.dictStep (b7a, ((b7ba, (b7bba, (b7bbba, ()))), (b7bbbba, (b7bbbbba, ())))) (b5a, (b5ba, (b5bba, ()))) (13 : Int) ((Go.Inc.num' (-(9223372036854775808 : Int))) :: ((b5a, (b5ba, (b5bba, ()))) :: ([] : List (Int × (Int × (ByteArray × Unit))))))).2).1)) : Nat) : Int) - (2 : Int))) < (((List.length (((Go.Inc.dictStep (b7a, ((b7ba, (b7bba, (b7bbba, ()))), (b7bbbba, (b7bbbbba, ())))) (b5a, (b5ba, (b5bba, ()))) (13 : Int) ((Go.Inc.num' (-(9223372036854775808 : Int))) :: ((b5a, (b5ba, (b5bba, ()))) :: ([] : List (Int × (Int × (ByteArray × Unit))))))).2).1)) : Nat) : Int)))) then
              bif ((((List.getD (((Go.Inc.dictStep (b7a, ((b7ba, (b7bba, (b7bbba, ()))), (b7bbbba, (b7bbbbba, ())))) (b5a, (b5ba, (b5bba, ()))) (13 : Int) ((Go.Inc.num' (-(9223372036854775808 : Int))) :: ((b5a, (b5ba, (b5bba, ()))) :: ([] : List (Int × (Int × (ByteArray × Unit))))))).2).1) (Int.toNat (Go.IntKind.wrap .i64 ((((List.length (((Go.Inc.dictStep (b7a, ((b7ba, (b7bba, (b7bbba, ()))), (b7bbbba, (b7bbbbba, ())))) (b5a, (b5ba, (b5bba, ()))) (13 : Int) ((Go.Inc.num' (-(9223372036854775808 : Int))) :: ((b5a, (b5ba, (b5bba, ()))) :: ([] : List (Int × (Int × (ByteArray × Unit))))))).2).1)) : Nat) : Int) - (2 : Int)))) ((0 : Int), ((0 : Int), (ByteArray.empty, ())))).1) == b5a) && (((((List.getD (((Go.Inc.dictStep (b7a, ((b7ba, (b7bba, (b7bbba, ()))), (b7bbbba, (b7bbbbba, ())))) (b5a, (b5ba, (b5bba, ()))) (13 : Int) ((Go.Inc.num' (-(9223372036854775808 : Int))) :: ((b5a, (b5ba, (b5bba, ()))) :: ([] : List (Int × (Int × (ByteArray × Unit))))))).2).1) (Int.toNat (Go.IntKind.wrap .i64 ((((List.length (((Go.Inc.dictStep (b7a, ((b7ba, (b7bba, (b7bbba, ()))), (b7bbbba, (b7bbbbba, ())))) (b5a, (b5ba, (b5bba, ()))) (13 : Int) ((Go.Inc.num' (-(9223372036854775808 : Int))) :: ((b5a, (b5ba, (b5bba, ()))) :: ([] : List (Int × (Int × (ByteArray × Unit))))))).2).1)) : Nat) : Int) - (2 : Int)))) ((0 : Int), ((0 : Int), (ByteArray.empty, ())))).2).1) == b5ba) && ((((((List.getD (((Go.Inc.dictStep (b7a, ((b7ba, (b7bba, (b7bbba, ()))), (b7bbbba, (b7bbbbba, ())))) (b5a, (b5ba, (b5bba, ()))) (13 : Int) ((Go.Inc.num' (-(9223372036854775808 : Int))) :: ((b5a, (b5ba, (b5bba, ()))) :: ([] : List (Int × (Int × (ByteArray × Unit))))))).2).1) (Int.toNat (Go.IntKind.wrap .i64 ((((List.length (((Go.Inc.dictStep (b7a, ((b7ba, (b7bba, (b7bbba, ()))), (b7bbbba, (b7bbbbba, ())))) (b5a, (b5ba, (b5bba, ()))) (13 : Int) ((Go.Inc.num' (-(9223372036854775808 : Int))) :: ((b5a, (b5ba, (b5bba, ()))) :: ([] : List (Int × (Int × (ByteArray × Unit))))))).2).1)) : Nat) : Int) - (2 : Int)))) ((0 : Int), ((0 : Int), (ByteArray.empty, ())))).2).2).1) == b5bba) && true))) then
              bif decide ((((List.length (((Go.Inc.dictStep (b7a, ((b7ba, (b7bba, (b7bbba, ()))), (b7bbbba, (b7bbbbba, ())))) (b5a, (b5ba, (b5bba, ()))) (13 : Int) ((b5a, (b5ba, (b5bba, ()))) :: ((b4a, (b4ba, (b4bba, ()))) :: ([] : List (Int × (Int × (ByteArray × Unit))))))).2).1)) : Nat) : Int) ≥ (2 : Int)) then
              bif ((decide ((0 : Int) ≤ (2 : Int))) && ((decide ((2 : Int) ≤ (((List.length (((Go.Inc.dictStep (b7a, ((b7ba, (b7bba, (b7bbba, ()))), (b7bbbba, (b7bbbbba, ())))) (b5a, (b5ba, (b5bba, ()))) (13 : Int) ((b5a, (b5ba, (b5bba, ()))) :: ((b4a, (b4ba, (b4bba, ()))) :: ([] : List (Int × (Int × (ByteArray × Unit))))))).2).1)) : Nat) : Int))) && (decide ((((List.length (((Go.Inc.dictStep (b7a, ((b7ba, (b7bba, (b7bbba, ()))), (b7bbbba, (b7bbbbba, ())))) (b5a, (b5ba, (b5bba, ()))) (13 : Int) ((b5a, (b5ba, (b5bba, ()))) :: ((b4a, (b4ba, (b4bba, ()))) :: ([] : List (Int × (Int × (ByteArray × Unit))))))).2).1)) : Nat) : Int) ≤ (((List.length (((Go.Inc.dictStep (b7a, ((b7ba, (b7bba, (b7bbba, ()))), (b7bbbba, (b7bbbbba, ())))) (b5a, (b5ba, (b5bba, ()))) (13 : Int) ((b5a, (b5ba, (b5bba, ()))) :: ((b4a, (b4ba, (b4bba, ()))) :: ([] : List (Int × (Int × (ByteArray × Unit))))))).2).1)) : Nat) : Int))))) then
              bif decide ((((List.length ([] : List (Int × (Int × (ByteArray × Unit))))) + (List.length (((Go.Inc.dictStep (b7a, ((b7ba, (b7bba, (b7bbba, ()))), (b7bbbba, (b7bbbbba, ())))) (b5a, (b5ba, (b5bba, ()))) (13 : Int) ((Go.Inc.num' (-(9223372036854775808 : Int))) :: ((b5a, (b5ba, (b5bba, ()))) :: ([] : List (Int × (Int × (ByteArray × Unit))))))).2).1))) * 32) ≤ 140737488351232) then
              bif decide ((((List.length (([] : List (Int × (Int × (ByteArray × Unit)))) ++ (((Go.Inc.dictStep (b7a, ((b7ba, (b7bba, (b7bbba, ()))), (b7bbbba, (b7bbbbba, ())))) (b5a, (b5ba, (b5bba, ()))) (13 : Int) ((Go.Inc.num' (-(9223372036854775808 : Int))) :: ((b5a, (b5ba, (b5bba, ()))) :: ([] : List (Int × (Int × (ByteArray × Unit))))))).2).1))) + (List.length (Go.Abs.sub (((Go.Inc.dictStep (b7a, ((b7ba, (b7bba, (b7bbba, ()))), (b7bbbba, (b7bbbbba, ())))) (b5a, (b5ba, (b5bba, ()))) (13 : Int) ((b5a, (b5ba, (b5bba, ()))) :: ((b4a, (b4ba, (b4bba, ()))) :: ([] : List (Int × (Int × (ByteArray × Unit))))))).2).1) (2 : Int) (((List.length (((Go.Inc.dictStep (b7a, ((b7ba, (b7bba, (b7bbba, ()))), (b7bbbba, (b7bbbbba, ())))) (b5a, (b5ba, (b5bba, ()))) (13 : Int) ((b5a, (b5ba, (b5bba, ()))) :: ((b4a, (b4ba, (b4bba, ()))) :: ([] : List (Int × (Int × (ByteArray × Unit))))))).2).1)) : Nat) : Int)))) * 32) ≤ 140737488351232) then
              bif (Go.Inc.okSame2 (((Go.Inc.dictStep (b7a, ((b7ba, (b7bba, (b7bbba, ()))), (b7bbbba, (b7bbbbba, ())))) (b5a, (b5ba, (b5bba, ()))) (13 : Int) ((Go.Inc.num' (-(9223372036854775808 : Int))) :: ((b4a, (b4ba, (b4bba, ()))) :: ([] : List (Int × (Int × (ByteArray × Unit))))))).2).1) ((([] : List (Int × (Int × (ByteArray × Unit)))) ++ (((Go.Inc.dictStep (b7a, ((b7ba, (b7bba, (b7bbba, ()))), (b7bbbba, (b7bbbbba, ())))) (b5a, (b5ba, (b5bba, ()))) (13 : Int) ((Go.Inc.num' (-(9223372036854775808 : Int))) :: ((b5a, (b5ba, (b5bba, ()))) :: ([] : List (Int × (Int × (ByteArray × Unit))))))).2).1)) ++ (Go.Abs.sub (((Go.Inc.dictStep (b7a, ((b7ba, (b7bba, (b7bbba, ()))), (b7bbbba, (b7bbbbba, ())))) (b5a, (b5ba, (b5bba, ()))) (13 : Int) ((b5a, (b5ba, (b5bba, ()))) :: ((b4a, (b4ba, (b4bba, ()))) :: ([] : List (Int × (Int × (ByteArray × Unit))))))).2).1) (2 : Int) (((List.length (((Go.Inc.dictStep (b7a, ((b7ba, (b7bba, (b7bbba, ()))), (b7bbbba, (b7bbbbba, ())))) (b5a, (b5ba, (b5bba, ()))) (13 : Int) ((b5a, (b5ba, (b5bba, ()))) :: ((b4a, (b4ba, (b4bba, ()))) :: ([] : List (Int × (Int × (ByteArray × Unit))))))).2).1)) : Nat) : Int)))) then
              some ((Go.Inc.sameV (((Go.Inc.dictStep (b7a, ((b7ba, (b7bba, (b7bbba, ()))), (b7bbbba, (b7bbbbba, ())))) (b5a, (b5ba, (b5bba, ()))) (13 : Int) ((Go.Inc.num' (-(9223372036854775808 : Int))) :: ((b4a, (b4ba, (b4bba, ()))) :: ([] : List (Int × (Int × (ByteArray × Unit))))))).2).1) ((([] : List (Int × (Int × (ByteArray × Unit)))) ++ (((Go.Inc.dictStep (b7a, ((b7ba, (b7bba, (b7bbba, ()))), (b7bbbba, (b7bbbbba, ())))) (b5a, (b5ba, (b5bba, ()))) (13 : Int) ((Go.Inc.num' (-(9223372036854775808 : Int))) :: ((b5a, (b5ba, (b5bba, ()))) :: ([] : List (Int × (Int × (ByteArray × Unit))))))).2).1)) ++ (Go.Abs.sub (((Go.Inc.dictStep (b7a, ((b7ba, (b7bba, (b7bbba, ()))), (b7bbbba, (b7bbbbba, ())))) (b5a, (b5ba, (b5bba, ()))) (13 : Int) ((b5a, (b5ba, (b5bba, ()))) :: ((b4a, (b4ba, (b4bba, ()))) :: ([] : List (Int × (Int × (ByteArray × Unit))))))).2).1) (2 : Int) (((List.length (((Go.Inc.dictStep (b7a, ((b7ba, (b7bba, (b7bbba, ()))), (b7bbbba, (b7bbbbba, ())))) (b5a, (b5ba, (b5bba, ()))) (13 : Int) ((b5a, (b5ba, (b5bba, ()))) :: ((b4a, (b4ba, (b4bba, ()))) :: ([] : List (Int × (Int × (ByteArray × Unit))))))).2).1)) : Nat) : Int)))), ())
            else
              none
            else
              none
            else
              none
            else
              none
            else
              bif decide ((((List.length ([] : List (Int × (Int × (ByteArray × Unit))))) + (List.length (((Go.Inc.dictStep (b7a, ((b7ba, (b7bba, (b7bbba, ()))), (b7bbbba, (b7bbbbba, ())))) (b5a, (b5ba, (b5bba, ()))) (13 : Int) ((Go.Inc.num' (-(9223372036854775808 : Int))) :: ((b5a, (b5ba, (b5bba, ()))) :: ([] : List (Int × (Int × (ByteArray × Unit))))))).2).1))) * 32) ≤ 140737488351232) then
              bif decide ((((List.length (([] : List (Int × (Int × (ByteArray × Unit)))) ++ (((Go.Inc.dictStep (b7a, ((b7ba, (b7bba, (b7bbba, ()))), (b7bbbba, (b7bbbbba, ())))) (b5a, (b5ba, (b5bba, ()))) (13 : Int) ((Go.Inc.num' (-(9223372036854775808 : Int))) :: ((b5a, (b5ba, (b5bba, ()))) :: ([] : List (Int × (Int × (ByteArray × Unit))))))).2).1))) + (List.length (((Go.Inc.dictStep (b7a, ((b7ba, (b7bba, (b7bbba, ()))), (b7bbbba, (b7bbbbba, ())))) (b5a, (b5ba, (b5bba, ()))) (13 : Int) ((b5a, (b5ba, (b5bba, ()))) :: ((b4a, (b4ba, (b4bba, ()))) :: ([] : List (Int × (Int × (ByteArray × Unit))))))).2).1))) * 32) ≤ 140737488351232) then
              bif (Go.Inc.okSame2 (((Go.Inc.dictStep (b7a, ((b7ba, (b7bba, (b7bbba, ()))), (b7bbbba, (b7bbbbba, ())))) (b5a, (b5ba, (b5bba, ()))) (13 : Int) ((Go.Inc.num' (-(9223372036854775808 : Int))) :: ((b4a, (b4ba, (b4bba, ()))) :: ([] : List (Int × (Int × (ByteArray × Unit))))))).2).1) ((([] : List (Int × (Int × (ByteArray × Unit)))) ++ (((Go.Inc.dictStep (b7a, ((b7ba, (b7bba, (b7bbba, ()))), (b7bbbba, (b7bbbbba, ())))) (b5a, (b5ba, (b5bba, ()))) (13 : Int) ((Go.Inc.num' (-(9223372036854775808 : Int))) :: ((b5a, (b5ba, (b5bba, ()))) :: ([] : List (Int × (Int × (ByteArray × Unit))))))).2).1)) ++ (((Go.Inc.dictStep (b7a, ((b7ba, (b7bba, (b7bbba, ()))), (b7bbbba, (b7bbbbba, ())))) (b5a, (b5ba, (b5bba, ()))) (13 : Int) ((b5a, (b5ba, (b5bba, ()))) :: ((b4a, (b4ba, (b4bba, ()))) :: ([] : List (Int × (Int × (ByteArray × Unit))))))).2).1))) then
              some ((Go.Inc.sameV (((Go.Inc.dictStep (b7a, ((b7ba, (b7bba, (b7bbba, ()))), (b7bbbba, (b7bbbbba, ())))) (b5a, (b5ba, (b5bba, ()))) (13 : Int) ((Go.Inc.num' (-(9223372036854775808 : Int))) :: ((b4a, (b4ba, (b4bba, ()))) :: ([] : List (Int × (Int × (ByteArray × Unit))))))).2).1) ((([] : List (Int × (Int × (ByteArray × Unit)))) ++ (((Go.Inc.dictStep (b7a, ((b7ba, (b7bba, (b7bbba, ()))), (b7bbbba, (b7bbbbba, ())))) (b5a, (b5ba, (b5bba, ()))) (13 : Int) ((Go.Inc.num' (-(9223372036854775808 : Int))) :: ((b5a, (b5ba, (b5bba, ()))) :: ([] : List (Int × (Int × (ByteArray × Unit))))))).2).1)) ++ (((Go.Inc.dictStep (b7a, ((b7ba, (b7bba, (b7bbba, ()))), (b7bbbba, (b7bbbbba, ())))) (b5a, (b5ba, (b5bba, ()))) (13 : Int) ((b5a, (b5ba, (b5bba, ()))) :: ((b4a, (b4ba, (b4bba, ()))) :: ([] : List (Int × (Int × (ByteArray × Unit))))))).2).1))), ())
            else
              none
            else
              none
            else
              none
            else
              bif decide ((((List.length ([] : List (Int × (Int × (ByteArray × Unit))))) + (List.length (((Go.Inc.dictStep (b7a, ((b7ba, (b7bba, (b7bbba, ()))), (b7bbbba, (b7bbbbba, ())))) (b5a, (b5ba, (b5bba, ()))) (13 : Int) ((Go.Inc.num' (-(9223372036854775808 : Int))) :: ((b5a, (b5ba, (b5bba, ()))) :: ([] : List (Int × (Int × (ByteArray × Unit))))))).2).1))) * 32) ≤ 140737488351232) then
              bif decide ((((List.length (([] : List (Int × (Int × (ByteArray × Unit)))) ++ (((Go.Inc.dictStep (b7a, ((b7ba, (b7bba, (b7bbba, ()))), (b7bbbba, (b7bbbbba, ())))) (b5a, (b5ba, (b5bba, ()))) (13 : Int) ((Go.Inc.num' (-(9223372036854775808 : Int))) :: ((b5a, (b5ba, (b5bba, ()))) :: ([] : List (Int × (Int × (ByteArray × Unit))))))).2).1))) + (List.length (((Go.Inc.dictStep (b7a, ((b7ba, (b7bba, (b7bbba, ()))), (b7bbbba, (b7bbbbba, ())))) (b5a, (b5ba, (b5bba, ()))) (13 : Int) ((b5a, (b5ba, (b5bba, ()))) :: ((b4a, (b4ba, (b4bba, ()))) :: ([] : List (Int × (Int × (ByteArray × Unit))))))).2).1))) * 32) ≤ 140737488351232) then
              bif (Go.Inc.okSame2 (((Go.Inc.dictStep (b7a, ((b7ba, (b7bba, (b7bbba, ()))), (b7bbbba, (b7bbbbba, ())))) (b5a, (b5ba, (b5bba, ()))) (13 : Int) ((Go.Inc.num' (-(9223372036854775808 : Int))) :: ((b4a, (b4ba, (b4bba, ()))) :: ([] : List (Int × (Int × (ByteArray × Unit))))))).2).1) ((([] : List (Int × (Int × (ByteArray × Unit)))) ++ (((Go.Inc.dictStep (b7a, ((b7ba, (b7bba, (b7bbba, ()))), (b7bbbba, (b7bbbbba, ())))) (b5a, (b5ba, (b5bba, ()))) (13 : Int) ((Go.Inc.num' (-(9223372036854775808 : Int))) :: ((b5a, (b5ba, (b5bba, ()))) :: ([] : List (Int × (Int × (ByteArray × Unit))))))).2).1)) ++ (((Go.Inc.dictStep (b7a, ((b7ba, (b7bba, (b7bbba, ()))), (b7bbbba, (b7bbbbba, ())))) (b5a, (b5ba, (b5bba, ()))) (13 : Int) ((b5a, (b5ba, (b5bba, ()))) :: ((b4a, (b4ba, (b4bba, ()))) :: ([] : List (Int × (Int × (ByteArray × Unit))))))).2).1))) then
              some ((Go.Inc.sameV (((Go.Inc.dictStep (b7a, ((b7ba, (b7bba, (b7bbba, ()))), (b7bbbba, (b7bbbbba, ())))) (b5a, (b5ba, (b5bba, ()))) (13 : Int) ((Go.Inc.num' (-(9223372036854775808 : Int))) :: ((b4a, (b4ba, (b4bba, ()))) :: ([] : List (Int × (Int × (ByteArray × Unit))))))).2).1) ((([] : List (Int × (Int × (ByteArray × Unit)))) ++ (((Go.Inc.dictStep (b7a, ((b7ba, (b7bba, (b7bbba, ()))), (b7bbbba, (b7bbbbba, ())))) (b5a, (b5ba, (b5bba, ()))) (13 : Int) ((Go.Inc.num' (-(9223372036854775808 : Int))) :: ((b5a, (b5ba, (b5bba, ()))) :: ([] : List (Int × (Int × (ByteArray × Unit))))))).2).1)) ++ (((Go.Inc.dictStep (b7a, ((b7ba, (b7bba, (b7bbba, ()))), (b7bbbba, (b7bbbbba, ())))) (b5a, (b5ba, (b5bba, ()))) (13 : Int) ((b5a, (b5ba, (b5bba, ()))) :: ((b4a, (b4ba, (b4bba, ()))) :: ([] : List (Int × (Int × (ByteArray × Unit))))))).2).1))), ())
            else
              none
            else
              none
            else
              none
            else
              none
            else
              bif decide ((((List.length ([] : List (Int × (Int × (ByteArray × Unit))))) + (List.length (((Go.Inc.dictStep (b7a, ((b7ba, (b7bba, (b7bbba, ()))), (b7bbbba, (b7bbbbba, ())))) (b5a, (b5ba, (b5bba, ()))) (13 : Int) ((Go.Inc.num' (-(9223372036854775808 : Int))) :: ((b5a, (b5ba, (b5bba, ()))) :: ([] : List (Int × (Int × (ByteArray × Unit))))))).2).1))) * 32) ≤ 140737488351232) then
              bif decide ((((List.length (([] : List (Int × (Int × (ByteArray × Unit)))) ++ (((Go.Inc.dictStep (b7a, ((b7ba, (b7bba, (b7bbba, ()))), (b7bbbba, (b7bbbbba, ())))) (b5a, (b5ba, (b5bba, ()))) (13 : Int) ((Go.Inc.num' (-(9223372036854775808 : Int))) :: ((b5a, (b5ba, (b5bba, ()))) :: ([] : List (Int × (Int × (ByteArray × Unit))))))).2).1))) + (List.length (((Go.Inc.dictStep (b7a, ((b7ba, (b7bba, (b7bbba, ()))), (b7bbbba, (b7bbbbba, ())))) (b5a, (b5ba, (b5bba, ()))) (13 : Int) ((b5a, (b5ba, (b5bba, ()))) :: ((b4a, (b4ba, (b4bba, ()))) :: ([] : List (Int × (Int × (ByteArray × Unit))))))).2).1))) * 32) ≤ 140737488351232) then
              bif (Go.Inc.okSame2 (((Go.Inc.dictStep (b7a, ((b7ba, (b7bba, (b7bbba, ()))), (b7bbbba, (b7bbbbba, ())))) (b5a, (b5ba, (b5bba, ()))) (13 : Int) ((Go.Inc.num' (-(9223372036854775808 : Int))) :: ((b4a, (b4ba, (b4bba, ()))) :: ([] : List (Int × (Int × (ByteArray × Unit))))))).2).1) ((([] : List (Int × (Int × (ByteArray × Unit)))) ++ (((Go.Inc.dictStep (b7a, ((b7ba, (b7bba, (b7bbba, ()))), (b7bbbba, (b7bbbbba, ())))) (b5a, (b5ba, (b5bba, ()))) (13 : Int) ((Go.Inc.num' (-(9223372036854775808 : Int))) :: ((b5a, (b5ba, (b5bba, ()))) :: ([] : List (Int × (Int × (ByteArray × Unit))))))).2).1)) ++ (((Go.Inc.dictStep (b7a, ((b7ba, (b7bba, (b7bbba, ()))), (b7bbbba, (b7bbbbba, ())))) (b5a, (b5ba, (b5bba, ()))) (13 : Int) ((b5a, (b5ba, (b5bba, ()))) :: ((b4a, (b4ba, (b4bba, ()))) :: ([] : List (Int × (Int × (ByteArray × Unit))))))).2).1))) then
              some ((Go.Inc.sameV (((Go.Inc.dictStep (b7a, ((b7ba, (b7bba, (b7bbba, ()))), (b7bbbba, (b7bbbbba, ())))) (b5a, (b5ba, (b5bba, ()))) (13 : Int) ((Go.Inc.num' (-(9223372036854775808 : Int))) :: ((b4a, (b4ba, (b4bba, ()))) :: ([] : List (Int × (Int × (ByteArray × Unit))))))).2).1) ((([] : List (Int × (Int × (ByteArray × Unit)))) ++ (((Go.Inc.dictStep (b7a, ((b7ba, (b7bba, (b7bbba, ()))), (b7bbbba, (b7bbbbba, ())))) (b5a, (b5ba, (b5bba, ()))) (13 : Int) ((Go.Inc.num' (-(9223372036854775808 : Int))) :: ((b5a, (b5ba, (b5bba, ()))) :: ([] : List (Int × (Int × (ByteArray × Unit))))))).2).1)) ++ (((Go.Inc.dictStep (b7a, ((b7ba, (b7bba, (b7bbba, ()))), (b7bbbba, (b7bbbbba, ())))) (b5a, (b5ba, (b5bba, ()))) (13 : Int) ((b5a, (b5ba, (b5bba, ()))) :: ((b4a, (b4ba, (b4bba, ()))) :: ([] : List (Int × (Int × (ByteArray × Unit))))))).2).1))), ())
            else
              none
            else
              none
            else
              none
            else
              bif decide ((((List.length (((Go.Inc.dictStep (b7a, ((b7ba, (b7bba, (b7bbba, ()))), (b7bbbba, (b7bbbbba, ())))) (b5a, (b5ba, (b5bba, ()))) (13 : Int) ((Go.Inc.num' (-(9223372036854775808 : Int))) :: ((b5a, (b5ba, (b5bba, ()))) :: ([] : List (Int × (Int × (ByteArray × Unit))))))).2).1)) : Nat) : Int) ≥ (2 : Int)) then
              bif ((decide ((0 : Int) ≤ (Go.IntKind.wrap .i64 ((((List.length (((Go.Inc.dictStep (b7a, ((b7ba, (b7bba, (b7bbba, ()))), (b7bbbba, (b7bbbbba, ())))) (b5a, (b5ba, (b5bba, ()))) (13 : Int) ((Go.Inc.num' (-(9223372036854775808 : Int))) :: ((b5a, (b5ba, (b5bba, ()))) :: ([] : List (Int × (Int × (ByteArray × Unit))))))).2).1)) : Nat) : Int) - (2 : Int))))) && (decide ((Go.IntKind.wrap .i64 ((((List.length (((Go.Inc.dictStep (b7a, ((b7ba, (b7bba, (b7bbba, ()))), (b7bbbba, (b7bbbbba, ())))) (b5a, (b5ba, (b5bba, ()))) (13 : Int) ((Go.Inc.num' (-(9223372036854775808 : Int))) :: ((b5a, (b5ba, (b5bba, ()))) :: ([] : List (Int × (Int × (ByteArray × Unit))))))).2).1)) : Nat) : Int) - (2 : Int))) < (((List.length (((Go.Inc.dictStep (b7a, ((b7ba, (b7bba, (b7bbba, ()))), (b7bbbba, (b7bbbbba, ())))) (b5a, (b5ba, (b5bba, ()))) (13 : Int) ((Go.Inc.num' (-(9223372036854775808 : Int))) :: ((b5a, (b5ba, (b5bba, ()))) :: ([] : List (Int × (Int × (ByteArray × Unit))))))).2).1)) : Nat) : Int)))) then
              bif ((((List.getD (((Go.Inc.dictStep (b7a, ((b7ba, (b7bba, (b7bbba, ()))), (b7bbbba, (b7bbbbba, ())))) (b5a, (b5ba, (b5bba, ()))) (13 : Int) ((Go.Inc.num' (-(9223372036854775808 : Int))) :: ((b5a, (b5ba, (b5bba, ()))) :: ([] : List (Int × (Int × (ByteArray × Unit))))))).2).1) (Int.toNat (Go.IntKind.wrap .i64 ((((List.length (((Go.Inc.dictStep (b7a, ((b7ba, (b7bba, (b7bbba, ()))), (b7bbbba, (b7bbbbba, ())))) (b5a, (b5ba, (b5bba, ()))) (13 : Int) ((Go.Inc.num' (-(9223372036854775808 : Int))) :: ((b5a, (b5ba, (b5bba, ()))) :: ([] : List (Int × (Int × (ByteArray × Unit))))))).2).1)) : Nat) : Int) - (2 : Int)))) ((0 : Int), ((0 : Int), (ByteArray.empty, ())))).1) == b5a) && (((((List.getD (((Go.Inc.dictStep (b7a, ((b7ba, (b7bba, (b7bbba, ()))), (b7bbbba, (b7bbbbba, ())))) (b5a, (b5ba, (b5bba, ()))) (13 : Int) ((Go.Inc.num' (-(9223372036854775808 : Int))) :: ((b5a, (b5ba, (b5bba, ()))) :: ([] : List (Int × (Int × (ByteArray × Unit))))))).2).1) (Int.toNat (Go.IntKind.wrap .i64 ((((List.length (((Go.Inc.dictStep (b7a, ((b7ba, (b7bba, (b7bbba, ()))), (b7bbbba, (b7bbbbba, ())))) (b5a, (b5ba, (b5bba, ()))) (13 : Int) ((Go.Inc.num' (-(9223372036854775808 : Int))) :: ((b5a, (b5ba, (b5bba, ()))) :: ([] : List (Int × (Int × (ByteArray × Unit))))))).2).1)) : Nat) : Int) - (2 : Int)))) ((0 : Int), ((0 : Int), (ByteArray.empty, ())))).2).1) == b5ba) && ((((((List.getD (((Go.Inc.dictStep (b7a, ((b7ba, (b7bba, (b7bbba, ()))), (b7bbbba, (b7bbbbba, ())))) (b5a, (b5ba, (b5bba, ()))) (13 : Int) ((Go.Inc.num' (-(9223372036854775808 : Int))) :: ((b5a, (b5ba, (b5bba, ()))) :: ([] : List (Int × (Int × (ByteArray × Unit))))))).2).1) (Int.toNat (Go.IntKind.wrap .i64 ((((List.length (((Go.Inc.dictStep (b7a, ((b7ba, (b7bba, (b7bbba, ()))), (b7bbbba, (b7bbbbba, ())))) (b5a, (b5ba, (b5bba, ()))) (13 : Int) ((Go.Inc.num' (-(9223372036854775808 : Int))) :: ((b5a, (b5ba, (b5bba, ()))) :: ([] : List (Int × (Int × (ByteArray × Unit))))))).2).1)) : Nat) : Int) - (2 : Int)))) ((0 : Int), ((0 : Int), (ByteArray.empty, ())))).2).2).1) == b5bba) && true))) then
              bif decide ((((List.length (((Go.Inc.dictStep (b7a, ((b7ba, (b7bba, (b7bbba, ()))), (b7bbbba, (b7bbbbba, ())))) (b5a, (b5ba, (b5bba, ()))) (13 : Int) ((b5a, (b5ba, (b5bba, ()))) :: ((b4a, (b4ba, (b4bba, ()))) :: ([] : List (Int × (Int × (ByteArray × Unit))))))).2).1)) : Nat) : Int) ≥ (2 : Int)) then
              bif ((decide ((0 : Int) ≤ (2 : Int))) && ((decide ((2 : Int) ≤ (((List.length (((Go.Inc.dictStep (b7a, ((b7ba, (b7bba, (b7bbba, ()))), (b7bbbba, (b7bbbbba, ())))) (b5a, (b5ba, (b5bba, ()))) (13 : Int) ((b5a, (b5ba, (b5bba, ()))) :: ((b4a, (b4ba, (b4bba, ()))) :: ([] : List (Int × (Int × (ByteArray × Unit))))))).2).1)) : Nat) : Int))) && (decide ((((List.length (((Go.Inc.dictStep (b7a, ((b7ba, (b7bba, (b7bbba, ()))), (b7bbbba, (b7bbbbba, ())))) (b5a, (b5ba, (b5bba, ()))) (13 : Int) ((b5a, (b5ba, (b5bba, ()))) :: ((b4a, (b4ba, (b4bba, ()))) :: ([] : List (Int × (Int × (ByteArray × Unit))))))).2).1)) : Nat) : Int) ≤ (((List.length (((Go.Inc.dictStep (b7a, ((b7ba, (b7bba, (b7bbba, ()))), (b7bbbba, (b7bbbbba, ())))) (b5a, (b5ba, (b5bba, ()))) (13 : Int) ((b5a, (b5ba, (b5bba, ()))) :: ((b4a, (b4ba, (b4bba, ()))) :: ([] : List (Int × (Int × (ByteArray × Unit))))))).2).1)) : Nat) : Int))))) then
              bif decide ((((List.length ([] : List (Int × (Int × (ByteArray × Unit))))) + (List.length (((Go.Inc.dictStep (b7a, ((b7ba, (b7bba, (b7bbba, ()))), (b7bbbba, (b7bbbbba, ())))) (b5a, (b5ba, (b5bba, ()))) (13 : Int) ((Go.Inc.num' (-(9223372036854775808 : Int))) :: ((b5a, (b5ba, (b5bba, ()))) :: ([] : List (Int × (Int × (ByteArray × Unit))))))).2).1))) * 32) ≤ 140737488351232) then
              bif decide ((((List.length (([] : List (Int × (Int × (ByteArray × Unit)))) ++ (((Go.Inc.dictStep (b7a, ((b7ba, (b7bba, (b7bbba, ()))), (b7bbbba, (b7bbbbba, ())))) (b5a, (b5ba, (b5bba, ()))) (13 : Int) ((Go.Inc.num' (-(9223372036854775808 : Int))) :: ((b5a, (b5ba, (b5bba, ()))) :: ([] : List (Int × (Int × (ByteArray × Unit))))))).2).1))) + (List.length (Go.Abs.sub (((Go.Inc.dictStep (b7a, ((b7ba, (b7bba, (b7bbba, ()))), (b7bbbba, (b7bbbbba, ())))) (b5a, (b5ba, (b5bba, ()))) (13 : Int) ((b5a, (b5ba, (b5bba, ()))) :: ((b4a, (b4ba, (b4bba, ()))) :: ([] : List (Int × (Int × (ByteArray × Unit))))))).2).1) (2 : Int) (((List.length (((Go.Inc.dictStep (b7a, ((b7ba, (b7bba, (b7bbba, ()))), (b7bbbba, (b7bbbbba, ())))) (b5a, (b5ba, (b5bba, ()))) (13 : Int) ((b5a, (b5ba, (b5bba, ()))) :: ((b4a, (b4ba, (b4bba, ()))) :: ([] : List (Int × (Int × (ByteArray × Unit))))))).2).1)) : Nat) : Int)))) * 32) ≤ 140737488351232) then
              bif (Go.Inc.okSame2 (((Go.Inc.dictStep (b7a, ((b7ba, (b7bba, (b7bbba, ()))), (b7bbbba, (b7bbbbba, ())))) (b5a, (b5ba, (b5bba, ()))) (13 : Int) ((Go.Inc.num' (-(9223372036854775808 : Int))) :: ((b4a, (b4ba, (b4bba, ()))) :: ([] : List (Int × (Int × (ByteArray × Unit))))))).2).1) ((([] : List (Int × (Int × (ByteArray × Unit)))) ++ (((Go.Inc.dictStep (b7a, ((b7ba, (b7bba, (b7bbba, ()))), (b7bbbba, (b7bbbbba, ())))) (b5a, (b5ba, (b5bba, ()))) (13 : Int) ((Go.Inc.num' (-(9223372036854775808 : Int))) :: ((b5a, (b5ba, (b5bba, ()))) :: ([] : List (Int × (Int × (ByteArray × Unit))))))).2).1)) ++ (Go.Abs.sub (((Go.Inc.dictStep (b7a, ((b7ba, (b7bba, (b7bbba, ()))), (b7bbbba, (b7bbbbba, ())))) (b5a, (b5ba, (b5bba, ()))) (13 : Int) ((b5a, (b5ba, (b5bba, ()))) :: ((b4a, (b4ba, (b4bba, ()))) :: ([] : List (Int × (Int × (ByteArray × Unit))))))).2).1) (2 : Int) (((List.length (((Go.Inc.dictStep (b7a, ((b7ba, (b7bba, (b7bbba, ()))), (b7bbbba, (b7bbbbba, ())))) (b5a, (b5ba, (b5bba, ()))) (13 : Int) ((b5a, (b5ba, (b5bba, ()))) :: ((b4a, (b4ba, (b4bba, ()))) :: ([] : List (Int × (Int × (ByteArray × Unit))))))).2).1)) : Nat) : Int)))) then
              some ((Go.Inc.sameV (((Go.Inc.dictStep (b7a, ((b7ba, (b7bba, (b7bbba, ()))), (b7bbbba, (b7bbbbba, ())))) (b5a, (b5ba, (b5bba, ()))) (13 : Int) ((Go.Inc.num' (-(9223372036854775808 : Int))) :: ((b4a, (b4ba, (b4bba, ()))) :: ([] : List (Int × (Int × (ByteArray × Unit))))))).2).1) ((([] : List (Int × (Int × (ByteArray × Unit)))) ++ (((Go.Inc.dictStep (b7a, ((b7ba, (b7bba, (b7bbba, ()))), (b7bbbba, (b7bbbbba, ())))) (b5a, (b5ba, (b5bba, ()))) (13 : Int) ((Go.Inc.num' (-(9223372036854775808 : Int))) :: ((b5a, (b5ba, (b5bba, ()))) :: ([] : List (Int × (Int × (ByteArray × Unit))))))).2).1)) ++ (Go.Abs.sub (((Go.Inc.dictStep (b7a, ((b7ba, (b7bba, (b7bbba, ()))), (b7bbbba, (b7bbbbba, ())))) (b5a, (b5ba, (b5bba, ()))) (13 : Int) ((b5a, (b5ba, (b5bba, ()))) :: ((b4a, (b4ba, (b4bba, ()))) :: ([] : List (Int × (Int × (ByteArray × Unit))))))).2).1) (2 : Int) (((List.length (((Go.Inc.dictStep (b7a, ((b7ba, (b7bba, (b7bbba, ()))), (b7bbbba, (b7bbbbba, ())))) (b5a, (b5ba, (b5bba, ()))) (13 : Int) ((b5a, (b5ba, (b5bba, ()))) :: ((b4a, (b4ba, (b4bba, ()))) :: ([] : List (Int × (Int × (ByteArray × Unit))))))).2).1)) : Nat) : Int)))), ())
            else
              none
            else
              none
            else
              none
            else
              none
            else
              bif decide ((((List.length ([] : List (Int × (Int × (ByteArray × Unit))))) + (List.length (((Go.Inc.dictStep (b7a, ((b7ba, (b7bba, (b7bbba, ()))), (b7bbbba, (b7bbbbba, ())))) (b5a, (b5ba, (b5bba, ()))) (13 : Int) ((Go.Inc.num' (-(9223372036854775808 : Int))) :: ((b5a, (b5ba, (b5bba, ()))) :: ([] : List (Int × (Int × (ByteArray × Unit))))))).2).1))) * 32) ≤ 140737488351232) then
              bif decide ((((List.length (([] : List (Int × (Int × (ByteArray × Unit)))) ++ (((Go.Inc.dictStep (b7a, ((b7ba, (b7bba, (b7bbba, ()))), (b7bbbba, (b7bbbbba, ())))) (b5a, (b5ba, (b5bba, ()))) (13 : Int) ((Go.Inc.num' (-(9223372036854775808 : Int))) :: ((b5a, (b5ba, (b5bba, ()))) :: ([] : List (Int × (Int × (ByteArray × Unit))))))).2).1))) + (List.length (((Go.Inc.dictStep (b7a, ((b7ba, (b7bba, (b7bbba, ()))), (b7bbbba, (b7bbbbba, ())))) (b5a, (b5ba, (b5bba, ()))) (13 : Int) ((b5a, (b5ba, (b5bba, ()))) :: ((b4a, (b4ba, (b4bba, ()))) :: ([] : List (Int × (Int × (ByteArray × Unit))))))).2).1))) * 32) ≤ 140737488351232) then
              bif (Go.Inc.okSame2 (((Go.Inc.dictStep (b7a, ((b7ba, (b7bba, (b7bbba, ()))), (b7bbbba, (b7bbbbba, ())))) (b5a, (b5ba, (b5bba, ()))) (13 : Int) ((Go.Inc.num' (-(9223372036854775808 : Int))) :: ((b4a, (b4ba, (b4bba, ()))) :: ([] : List (Int × (Int × (ByteArray × Unit))))))).2).1) ((([] : List (Int × (Int × (ByteArray × Unit)))) ++ (((Go.Inc.dictStep (b7a, ((b7ba, (b7bba, (b7bbba, ()))), (b7bbbba, (b7bbbbba, ())))) (b5a, (b5ba, (b5bba, ()))) (13 : Int) ((Go.Inc.num' (-(9223372036854775808 : Int))) :: ((b5a, (b5ba, (b5bba, ()))) :: ([] : List (Int × (Int × (ByteArray × Unit))))))).2).1)) ++ (((Go.Inc.dictStep (b7a, ((b7ba, (b7bba, (b7bbba, ()))), (b7bbbba, (b7bbbbba, ())))) (b5a, (b5ba, (b5bba, ()))) (13 : Int) ((b5a, (b5ba, (b5bba, ()))) :: ((b4a, (b4ba, (b4bba, ()))) :: ([] : List (Int × (Int × (ByteArray × Unit))))))).2).1))) then
              some ((Go.Inc.sameV (((Go.Inc.dictStep (b7a, ((b7ba, (b7bba, (b7bbba, ()))), (b7bbbba, (b7bbbbba, ())))) (b5a, (b5ba, (b5bba, ()))) (13 : Int) ((Go.Inc.num' (-(9223372036854775808 : Int))) :: ((b4a, (b4ba, (b4bba, ()))) :: ([] : List (Int × (Int × (ByteArray × Unit))))))).2).1) ((([] : List (Int × (Int × (ByteArray × Unit)))) ++ (((Go.Inc.dictStep (b7a, ((b7ba, (b7bba, (b7bbba, ()))), (b7bbbba, (b7bbbbba, ())))) (b5a, (b5ba, (b5bba, ()))) (13 : Int) ((Go.Inc.num' (-(9223372036854775808 : Int))) :: ((b5a, (b5ba, (b5bba, ()))) :: ([] : List (Int × (Int × (ByteArray × Unit))))))).2).1)) ++ (((Go.Inc.dictStep (b7a, ((b7ba, (b7bba, (b7bbba, ()))), (b7bbbba, (b7bbbbba, ())))) (b5a, (b5ba, (b5bba, ()))) (13 : Int) ((b5a, (b5ba, (b5bba, ()))) :: ((b4a, (b4ba, (b4bba, ()))) :: ([] : List (Int × (Int × (ByteArray × Unit))))))).2).1))), ())
            else
              none
            else
              none
            else
              none
            else
              bif decide ((((List.length ([] : List (Int × (Int × (ByteArray × Unit))))) + (List.length (((Go.Inc.dictStep (b7a, ((b7ba, (b7bba, (b7bbba, ()))), (b7bbbba, (b7bbbbba, ())))) (b5a, (b5ba, (b5bba, ()))) (13 : Int) ((Go.Inc.num' (-(9223372036854775808 : Int))) :: ((b5a, (b5ba, (b5bba, ()))) :: ([] : List (Int × (Int × (ByteArray × Unit))))))).2).1))) * 32) ≤ 140737488351232) then
              bif decide ((((List.length (([] : List (Int × (Int × (ByteArray × Unit)))) ++ (((Go.Inc.dictStep (b7a, ((b7ba, (b7bba, (b7bbba, ()))), (b7bbbba, (b7bbbbba, ())))) (b5a, (b5ba, (b5bba, ()))) (13 : Int) ((Go.Inc.num' (-(9223372036854775808 : Int))) :: ((b5a, (b5ba, (b5bba, ()))) :: ([] : List (Int × (Int × (ByteArray × Unit))))))).2).1))) + (List.length (((Go.Inc.dictStep (b7a, ((b7ba, (b7bba, (b7bbba, ()))), (b7bbbba, (b7bbbbba, ())))) (b5a, (b5ba, (b5bba, ()))) (13 : Int) ((b5a, (b5ba, (b5bba, ()))) :: ((b4a, (b4ba, (b4bba, ()))) :: ([] : List (Int × (Int × (ByteArray × Unit))))))).2).1))) * 32) ≤ 140737488351232) then
              bif (Go.Inc.okSame2 (((Go.Inc.dictStep (b7a, ((b7ba, (b7bba, (b7bbba, ()))), (b7bbbba, (b7bbbbba, ())))) (b5a, (b5ba, (b5bba, ()))) (13 : Int) ((Go.Inc.num' (-(9223372036854775808 : Int))) :: ((b4a, (b4ba, (b4bba, ()))) :: ([] : List (Int × (Int × (ByteArray × Unit))))))).2).1) ((([] : List (Int × (Int × (ByteArray × Unit)))) ++ (((Go.Inc.dictStep (b7a, ((b7ba, (b7bba, (b7bbba, ()))), (b7bbbba, (b7bbbbba, ())))) (b5a, (b5ba, (b5bba, ()))) (13 : Int) ((Go.Inc.num' (-(9223372036854775808 : Int))) :: ((b5a, (b5ba, (b5bba, ()))) :: ([] : List (Int × (Int × (ByteArray × Unit))))))).2).1)) ++ (((Go.Inc.dictStep (b7a, ((b7ba, (b7bba, (b7bbba, ()))), (b7bbbba, (b7bbbbba, ())))) (b5a, (b5ba, (b5bba, ()))) (13 : Int) ((b5a, (b5ba, (b5bba, ()))) :: ((b4a, (b4ba, (b4bba, ()))) :: ([] : List (Int × (Int × (ByteArray × Unit))))))).2).1))) then
              some ((Go.Inc.sameV (((Go.Inc.dictStep (b7a, ((b7ba, (b7bba, (b7bbba, ()))), (b7bbbba, (b7bbbbba, ())))) (b5a, (b5ba, (b5bba, ()))) (13 : Int) ((Go.Inc.num' (-(9223372036854775808 : Int))) :: ((b4a, (b4ba, (b4bba, ()))) :: ([] : List (Int × (Int × (ByteArray × Unit))))))).2).1) ((([] : List (Int × (Int × (ByteArray × Unit)))) ++ (((Go.Inc.dictStep (b7a, ((b7ba, (b7bba, (b7bbba, ()))), (b7bbbba, (b7bbbbba, ())))) (b5a, (b5ba, (b5bba, ()))) (13 : Int) ((Go.Inc.num' (-(9223372036854775808 : Int))) :: ((b5a, (b5ba, (b5bba, ()))) :: ([] : List (Int × (Int × (ByteArray × Unit))))))).2).1)) ++ (((Go.Inc.dictStep (b7a, ((b7ba, (b7bba, (b7bbba, ()))), (b7bbbba, (b7bbbbba, ())))) (b5a, (b5ba, (b5bba, ()))) (13 : Int) ((b5a, (b5ba, (b5bba, ()))) :: ((b4a, (b4ba, (b4bba, ()))) :: ([] : List (Int × (Int × (ByteArray × Unit))))))).2).1))), ())
            else
              none
            else
              none
            else
              none
            else
              none
            else
              bif decide ((((List.length ([] : List (Int × (Int × (ByteArray × Unit))))) + (List.length (((Go.Inc.dictStep (b7a, ((b7ba, (b7bba, (b7bbba, ()))), (b7bbbba, (b7bbbbba, ())))) (b5a, (b5ba, (b5bba, ()))) (13 : Int) ((Go.Inc.num' (-(9223372036854775808 : Int))) :: ((b5a, (b5ba, (b5bba, ()))) :: ([] : List (Int × (Int × (ByteArray × Unit))))))).2).1))) * 32) ≤ 140737488351232) then
              bif decide ((((List.length (([] : List (Int × (Int × (ByteArray × Unit)))) ++ (((Go.Inc.dictStep (b7a, ((b7ba, (b7bba, (b7bbba, ()))), (b7bbbba, (b7bbbbba, ())))) (b5a, (b5ba, (b5bba, ()))) (13 : Int) ((Go.Inc.num' (-(9223372036854775808 : Int))) :: ((b5a, (b5ba, (b5bba, ()))) :: ([] : List (Int × (Int × (ByteArray × Unit))))))).2).1))) + (List.length (((Go.Inc.dictStep (b7a, ((b7ba, (b7bba, (b7bbba, ()))), (b7bbbba, (b7bbbbba, ())))) (b5a, (b5ba, (b5bba, ()))) (13 : Int) ((b5a, (b5ba, (b5bba, ()))) :: ((b4a, (b4ba, (b4bba, ()))) :: ([] : List (Int × (Int × (ByteArray × Unit))))))).2).1))) * 32) ≤ 140737488351232) then
              bif (Go.Inc.okSame2 (((Go.Inc.dictStep (b7a, ((b7ba, (b7bba, (b7bbba, ()))), (b7bbbba, (b7bbbbba, ())))) (b5a, (b5ba, (b5bba, ()))) (13 : Int) ((Go.Inc.num' (-(9223372036854775808 : Int))) :: ((b4a, (b4ba, (b4bba, ()))) :: ([] : List (Int × (Int × (ByteArray × Unit))))))).2).1) ((([] : List (Int × (Int × (ByteArray × Unit)))) ++ (((Go.Inc.dictStep (b7a, ((b7ba, (b7bba, (b7bbba, ()))), (b7bbbba, (b7bbbbba, ())))) (b5a, (b5ba, (b5bba, ()))) (13 : Int) ((Go.Inc.num' (-(9223372036854775808 : Int))) :: ((b5a, (b5ba, (b5bba, ()))) :: ([] : List (Int × (Int × (ByteArray × Unit))))))).2).1)) ++ (((Go.Inc.dictStep (b7a, ((b7ba, (b7bba, (b7bbba, ()))), (b7bbbba, (b7bbbbba, ())))) (b5a, (b5ba, (b5bba, ()))) (13 : Int) ((b5a, (b5ba, (b5bba, ()))) :: ((b4a, (b4ba, (b4bba, ()))) :: ([] : List (Int × (Int × (ByteArray × Unit))))))).2).1))) then
              some ((Go.Inc.sameV (((Go.Inc.dictStep (b7a, ((b7ba, (b7bba, (b7bbba, ()))), (b7bbbba, (b7bbbbba, ())))) (b5a, (b5ba, (b5bba, ()))) (13 : Int) ((Go.Inc.num' (-(9223372036854775808 : Int))) :: ((b4a, (b4ba, (b4bba, ()))) :: ([] : List (Int × (Int × (ByteArray × Unit))))))).2).1) ((([] : List (Int × (Int × (ByteArray × Unit)))) ++ (((Go.Inc.dictStep (b7a, ((b7ba, (b7bba, (b7bbba, ()))), (b7bbbba, (b7bbbbba, ())))) (b5a, (b5ba, (b5bba, ()))) (13 : Int) ((Go.Inc.num' (-(9223372036854775808 : Int))) :: ((b5a, (b5ba, (b5bba, ()))) :: ([] : List (Int × (Int × (ByteArray × Unit))))))).2).1)) ++ (((Go.Inc.dictStep (b7a, ((b7ba, (b7bba, (b7bbba, ()))), (b7bbbba, (b7bbbbba, ())))) (b5a, (b5ba, (b5bba, ()))) (13 : Int) ((b5a, (b5ba, (b5bba, ()))) :: ((b4a, (b4ba, (b4bba, ()))) :: ([] : List (Int × (Int × (ByteArray × Unit))))))).2).1))), ())
            else
              none
            else
              none
            else
              none
            else
              none
            else
              none
            else
              none
            else
              none
            else
              bif (Go.Inc.okDStep (b7a, ((b7ba, (b7bba, (b7bbba, ()))), (b7bbbba, (b7bbbbba, ())))) (b4a, (b4ba, (b4bba, ()))) (13 : Int) ((Go.Inc.num' (-(9223372036854775808 : Int))) :: ((b5a, (b5ba, (b5bba, ()))) :: ([] : List (Int × (Int × (ByteArray × Unit))))))) then
              bif (Go.Inc.okDStep (b7a, ((b7ba, (b7bba, (b7bbba, ()))), (b7bbbba, (b7bbbbba, ())))) (b4a, (b4ba, (b4bba, ()))) (13 : Int) ((Go.Inc.num' (-(9223372036854775808 : Int))) :: ((b4a, (b4ba, (b4bba, ()))) :: ([] : List (Int × (Int × (ByteArray × Unit))))))) then
              bif (Go.Inc.okDStep (b7a, ((b7ba, (b7bba, (b7bbba, ()))), (b7bbbba, (b7bbbbba, ())))) (b4a, (b4ba, (b4bba, ()))) (13 : Int) ((b4a, (b4ba, (b4bba, ()))) :: ((b5a, (b5ba, (b5bba, ()))) :: ([] : List (Int × (Int × (ByteArray × Unit))))))) then
              bif (Go.Inc.okDStep (b7a, ((b7ba, (b7bba, (b7bbba, ()))), (b7bbbba, (b7bbbbba, ())))) (b4a, (b4ba, (b4bba, ()))) (13 : Int) ((b5a, (b5ba, (b5bba, ()))) :: ((b4a, (b4ba, (b4bba, ()))) :: ([] : List (Int × (Int × (ByteArray × Unit))))))) then
              bif (!((((Go.Inc.dictStep (b7a, ((b7ba, (b7bba, (b7bbba, ()))), (b7bbbba, (b7bbbbba, ())))) (b4a, (b4ba, (b4bba, ()))) (13 : Int) ((Go.Inc.num' (-(9223372036854775808 : Int))) :: ((b5a, (b5ba, (b5bba, ()))) :: ([] : List (Int × (Int × (ByteArray × Unit))))))).2).2).1)) then
              some (false, ())
            else
              bif (!((((Go.Inc.dictStep (b7a, ((b7ba, (b7bba, (b7bbba, ()))), (b7bbbba, (b7bbbbba, ())))) (b4a, (b4ba, (b4bba, ()))) (13 : Int) ((Go.Inc.num' (-(9223372036854775808 : Int))) :: ((b4a, (b4ba, (b4bba, ()))) :: ([] : List (Int × (Int × (ByteArray × Unit))))))).2).2).1)) then
              some (false, ())
            else
              bif (!((((Go.Inc.dictStep (b7a, ((b7ba, (b7bba, (b7bbba, ()))), (b7bbbba, (b7bbbbba, ())))) (b4a, (b4ba, (b4bba, ()))) (13 : Int) ((b4a, (b4ba, (b4bba, ()))) :: ((b5a, (b5ba, (b5bba, ()))) :: ([] : List (Int × (Int × (ByteArray × Unit))))))).2).2).1)) then
              some (false, ())
            else
              bif (!((((Go.Inc.dictStep (b7a, ((b7ba, (b7bba, (b7bbba, ()))), (b7bbbba, (b7bbbbba, ())))) (b4a, (b4ba, (b4bba, ()))) (13 : Int) ((b5a, (b5ba, (b5bba, ()))) :: ((b4a, (b4ba, (b4bba, ()))) :: ([] : List (Int × (Int × (ByteArray × Unit))))))).2).2).1)) then
              some (false, ())
            else
              bif (!((b4a == b5a) && ((b4ba == b5ba) && ((b4bba == b5bba) && true)))) then
              bif decide ((((List.length (((Go.Inc.dictStep (b7a, ((b7ba, (b7bba, (b7bbba, ()))), (b7bbbba, (b7bbbbba, ())))) (b4a, (b4ba, (b4bba, ()))) (13 : Int) ((b5a, (b5ba, (b5bba, ()))) :: ((b4a, (b4ba, (b4bba, ()))) :: ([] : List (Int × (Int × (ByteArray × Unit))))))).2).1)) : Nat) : Int) > (0 : Int)) then
              some (false, ())
            else
              bif decide ((((List.length (((Go.Inc.dictStep (b7a, ((b7ba, (b7bba, (b7bbba, ()))), (b7bbbba, (b7bbbbba, ())))) (b4a, (b4ba, (b4bba, ()))) (13 : Int) ((Go.Inc.num' (-(9223372036854775808 : Int))) :: ((b4a, (b4ba, (b4bba, ()))) :: ([] : List (Int × (Int × (ByteArray × Unit))))))).2).1)) : Nat) : Int) ≥ (2 : Int)) then
              bif ((decide ((0 : Int) ≤ (Go.IntKind.wrap .i64 ((((List.length (((Go.Inc.dictStep (b7a, ((b7ba, (b7bba, (b7bbba, ()))), (b7bbbba, (b7bbbbba, ())))) (b4a, (b4ba, (b4bba, ()))) (13 : Int) ((Go.Inc.num' (-(9223372036854775808 : Int))) :: ((b4a, (b4ba, (b4bba, ()))) :: ([] : List (Int × (Int × (ByteArray × Unit))))))).2).1)) : Nat) : Int) - (2 : Int))))) && (decide ((Go.IntKind.wrap .i64 ((((List.length (((Go.Inc.dictStep (b7a, ((b7ba, (b7bba, (b7bbba, ()))), (b7bbbba, (b7bbbbba, ())))) (b4a, (b4ba, (b4bba, ()))) (13 : Int) ((Go.Inc.num' (-(9223372036854775808 : Int))) :: ((b4a, (b4ba, (b4bba, ()))) :: ([] : List (Int × (Int × (ByteArray × Unit))))))).2).1)) : Nat) : Int) - (2 : Int))) < (((List.length (((Go.Inc.dictStep (b7a, ((b7ba, (b7bba, (b7bbba, ()))), (b7bbbba, (b7bbbbba, ())))) (b4a, (b4ba, (b4bba, ()))) (13 : Int) ((Go.Inc.num' (-(9223372036854775808 : Int))) :: ((b4a, (b4ba, (b4bba, ()))) :: ([] : List (Int × (Int × (ByteArray × Unit))))))).2).1)) : Nat) : Int)))) then
              bif ((((List.getD (((Go.Inc.dictStep (b7a, ((b7ba, (b7bba, (b7bbba, ()))), (b7bbbba, (b7bbbbba, ())))) (b4a, (b4ba, (b4bba, ()))) (13 : Int) ((Go.Inc.num' (-(9223372036854775808 : Int))) :: ((b4a, (b4ba, (b4bba, ()))) :: ([] : List (Int × (Int × (ByteArray × Unit))))))).2).1) (Int.toNat (Go.IntKind.wrap .i64 ((((List.length (((Go.Inc.dictStep (b7a, ((b7ba, (b7bba, (b7bbba, ()))), (b7bbbba, (b7bbbbba, ())))) (b4a, (b4ba, (b4bba, ()))) (13 : Int) ((Go.Inc.num' (-(9223372036854775808 : Int))) :: ((b4a, (b4ba, (b4bba, ()))) :: ([] : List (Int × (Int × (ByteArray × Unit))))))).2).1)) : Nat) : Int) - (2 : Int)))) ((0 : Int), ((0 : Int), (ByteArray.empty, ())))).1) == b4a) && (((((List.getD (((Go.Inc.dictStep (b7a, ((b7ba, (b7bba, (b7bbba, ()))), (b7bbbba, (b7bbbbba, ())))) (b4a, (b4ba, (b4bba, ()))) (13 : Int) ((Go.Inc.num' (-(9223372036854775808 : Int))) :: ((b4a, (b4ba, (b4bba, ()))) :: ([] : List (Int × (Int × (ByteArray × Unit))))))).2).1) (Int.toNat (Go.IntKind.wrap .i64 ((((List.length (((Go.Inc.dictStep (b7a, ((b7ba, (b7bba, (b7bbba, ()))), (b7bbbba, (b7bbbbba, ())))) (b4a, (b4ba, (b4bba, ()))) (13 : Int) ((Go.Inc.num' (-(9223372036854775808 : Int))) :: ((b4a, (b4ba, (b4bba, ()))) :: ([] : List (Int × (Int × (ByteArray × Unit))))))).2).1)) : Nat) : Int) - (2 : Int)))) ((0 : Int), ((0 : Int), (ByteArray.empty, ())))).2).1) == b4ba) && ((((((List.getD (((Go.Inc.dictStep (b7a, ((b7ba, (b7bba, (b7bbba, ()))), (b7bbbba, (b7bbbbba, ())))) (b4a, (b4ba, (b4bba, ()))) (13 : Int) ((Go.Inc.num' (-(9223372036854775808 : Int))) :: ((b4a, (b4ba, (b4bba, ()))) :: ([] : List (Int × (Int × (ByteArray × Unit))))))).2).1) (Int.toNat (Go.IntKind.wrap .i64 ((((List.length (((Go.Inc.dictStep (b7a, ((b7ba, (b7bba, (b7bbba, ()))), (b7bbbba, (b7bbbbba, ())))) (b4a, (b4ba, (b4bba, ()))) (13 : Int) ((Go.Inc.num' (-(9223372036854775808 : Int))) :: ((b4a, (b4ba, (b4bba, ()))) :: ([] : List (Int × (Int × (ByteArray × Unit))))))).2).1)) : Nat) : Int) - (2 : Int)))) ((0 : Int), ((0 : Int), (ByteArray.empty, ())))).2).2).1) == b4bba) && true))) then
              bif decide ((((List.length (((Go.Inc.dictStep (b7a, ((b7ba, (b7bba, (b7bbba, ()))), (b7bbbba, (b7bbbbba, ())))) (b4a, (b4ba, (b4bba, ()))) (13 : Int) ((b4a, (b4ba, (b4bba, ()))) :: ((b5a, (b5ba, (b5bba, ()))) :: ([] : List (Int × (Int × (ByteArray × Unit))))))).2).1)) : Nat) : Int) ≥ (2 : Int)) then
              bif ((decide ((0 : Int) ≤ (2 : Int))) && ((decide ((2 : Int) ≤ (((List.length (((Go.Inc.dictStep (b7a, ((b7ba, (b7bba, (b7bbba, ()))), (b7bbbba, (b7bbbbba, ())))) (b4a, (b4ba, (b4bba, ()))) (13 : Int) ((b4a, (b4ba, (b4bba, ()))) :: ((b5a, (b5ba, (b5bba, ()))) :: ([] : List (Int × (Int × (ByteArray × Unit))))))).2).1)) : Nat) : Int))) && (decide ((((List.length (((Go.Inc.dictStep (b7a, ((b7ba, (b7bba, (b7bbba, ()))), (b7bbbba, (b7bbbbba, ())))) (b4a, (b4ba, (b4bba, ()))) (13 : Int) ((b4a, (b4ba, (b4bba, ()))) :: ((b5a, (b5ba, (b5bba, ()))) :: ([] : List (Int × (Int × (ByteArray × Unit))))))).2).1)) : Nat) : Int) ≤ (((List.length (((Go.Inc.dictStep (b7a, ((b7ba, (b7bba, (b7bbba, ()))), (b7bbbba, (b7bbbbba, ())))) (b4a, (b4ba, (b4bba, ()))) (13 : Int) ((b4a, (b4ba, (b4bba, ()))) :: ((b5a, (b5ba, (b5bba, ()))) :: ([] : List (Int × (Int × (ByteArray × Unit))))))).2).1)) : Nat) : Int))))) then
              bif decide ((((List.length ([] : List (Int × (Int × (ByteArray × Unit))))) + (List.length (((Go.Inc.dictStep (b7a, ((b7ba, (b7bba, (b7bbba, ()))), (b7bbbba, (b7bbbbba, ())))) (b4a, (b4ba, (b4bba, ()))) (13 : Int) ((Go.Inc.num' (-(9223372036854775808 : Int))) :: ((b4a, (b4ba, (b4bba, ()))) :: ([] : List (Int × (Int × (ByteArray × Unit))))))).2).1))) * 32) ≤ 140737488351232) then
              bif decide ((((List.length (([] : List (Int × (Int × (ByteArray × Unit)))) ++ (((Go.Inc.dictStep (b7a, ((b7ba, (b7bba, (b7bbba, ()))), (b7bbbba, (b7bbbbba, ())))) (b4a, (b4ba, (b4bba, ()))) (13 : Int) ((Go.Inc.num' (-(9223372036854775808 : Int))) :: ((b4a, (b4ba, (b4bba, ()))) :: ([] : List (Int × (Int × (ByteArray × Unit))))))).2).1))) + (List.length (Go.Abs.sub (((Go.Inc.dictStep (b7a, ((b7ba, (b7bba, (b7bbba, ()))), (b7bbbba, (b7bbbbba, ())))) (b4a, (b4ba, (b4bba, ()))) (13 : Int) ((b4a, (b4ba, (b4bba, ()))) :: ((b5a, (b5ba, (b5bba, ()))) :: ([] : List (Int × (Int × (ByteArray × Unit))))))).2).1) (2 : Int) (((List.length (((Go.Inc.dictStep (b7a, ((b7ba, (b7bba, (b7bbba, ()))), (b7bbbba, (b7bbbbba, ())))) (b4a, (b4ba, (b4bba, ()))) (13 : Int) ((b4a, (b4ba, (b4bba, ()))) :: ((b5a, (b5ba, (b5bba, ()))) :: ([] : List (Int × (Int × (ByteArray × Unit))))))).2).1)) : Nat) : Int)))) * 32) ≤ 140737488351232) then
              bif (Go.Inc.okSame2 (((Go.Inc.dictStep (b7a, ((b7ba, (b7bba, (b7bbba, ()))), (b7bbbba, (b7bbbbba, ())))) (b4a, (b4ba, (b4bba, ()))) (13 : Int) ((Go.Inc.num' (-(9223372036854775808 : Int))) :: ((b5a, (b5ba, (b5bba, ()))) :: ([] : List (Int × (Int × (ByteArray × Unit))))))).2).1) ((([] : List (Int × (Int × (ByteArray × Unit)))) ++ (((Go.Inc.dictStep (b7a, ((b7ba, (b7bba, (b7bbba, ()))), (b7bbbba, (b7bbbbba, ())))) (b4a, (b4ba, (b4bba, ()))) (13 : Int) ((Go.Inc.num' (-(9223372036854775808 : Int))) :: ((b4a, (b4ba, (b4bba, ()))) :: ([] : List (Int × (Int × (ByteArray × Unit))))))).2).1)) ++ (Go.Abs.sub (((Go.Inc.dictStep (b7a, ((b7ba, (b7bba, (b7bbba, ()))), (b7bbbba, (b7bbbbba, ())))) (b4a, (b4ba, (b4bba, ()))) (13 : Int) ((b4a, (b4ba, (b4bba, ()))) :: ((b5a, (b5ba, (b5bba, ()))) :: ([] : List (Int × (Int × (ByteArray × Unit))))))).2).1) (2 : Int) (((List.length (((Go.Inc.dictStep (b7a, ((b7ba, (b7bba, (b7bbba, ()))), (b7bbbba, (b7bbbbba, ())))) (b4a, (b4ba, (b4bba, ()))) (13 : Int) ((b4a, (b4ba, (b4bba, ()))) :: ((b5a, (b5ba, (b5bba, ()))) :: ([] : List (Int × (Int × (ByteArray × Unit))))))).2).1)) : Nat) : Int)))) then
              some ((Go.Inc.sameV (((Go.Inc.dictStep (b7a, ((b7ba, (b7bba, (b7bbba, ()))), (b7bbbba, (b7bbbbba, ())))) (b4a, (b4ba, (b4bba, ()))) (13 : Int) ((Go.Inc.num' (-(9223372036854775808 : Int))) :: ((b5a, (b5ba, (b5bba, ()))) :: ([] : List (Int × (Int × (ByteArray × Unit))))))).2).1) ((([] : List (Int × (Int × (ByteArray × Unit)))) ++ (((Go.Inc.dictStep (b7a, ((b7ba, (b7bba, (b7bbba, ()))), (b7bbbba, (b7bbbbba, ())))) (b4a, (b4ba, (b4bba, ()))) (13 : Int) ((Go.Inc.num' (-(9223372036854775808 : Int))) :: ((b4a, (b4ba, (b4bba, ()))) :: ([] : List (Int × (Int × (ByteArray × Unit))))))).2).1)) ++ (Go.Abs.sub (((Go.Inc.dictStep (b7a, ((b7ba, (b7bba, (b7bbba, ()))), (b7bbbba, (b7bbbbba, ())))) (b4a, (b4ba, (b4bba, ()))) (13 : Int) ((b4a, (b4ba, (b4bba, ()))) :: ((b5a, (b5ba, (b5bba, ()))) :: ([] : List (Int × (Int × (ByteArray × Unit))))))).2).1) (2 : Int) (((List.length (((Go.Inc.dictStep (b7a, ((b7ba, (b7bba, (b7bbba, ()))), (b7bbbba, (b7bbbbba, ())))) (b4a, (b4ba, (b4bba, ()))) (13 : Int) ((b4a, (b4ba, (b4bba, ()))) :: ((b5a, (b5ba, (b5bba, ()))) :: ([] : List (Int × (Int × (ByteArray × Unit))))))).2).1)) : Nat) : Int)))), ())
            else
              none
            else
              none
            else
              none
            else
              none
            else
              bif decide ((((List.length ([] : List (Int × (Int × (ByteArray × Unit))))) + (List.length (((Go.Inc.dictStep (b7a, ((b7ba, (b7bba, (b7bbba, ()))), (b7bbbba, (b7bbbbba, ())))) (b4a, (b4ba, (b4bba, ()))) (13 : Int) ((Go.Inc.num' (-(9223372036854775808 : Int))) :: ((b4a, (b4ba, (b4bba, ()))) :: ([] : List (Int × (Int × (ByteArray × Unit))))))).2).1))) * 32) ≤ 140737488351232) then
              bif decide ((((List.length (([] : List (Int × (Int × (ByteArray × Unit)))) ++ (((Go.Inc.dictStep (b7a, ((b7ba, (b7bba, (b7bbba, ()))), (b7bbbba, (b7bbbbba, ())))) (b4a, (b4ba, (b4bba, ()))) (13 : Int) ((Go.Inc.num' (-(9223372036854775808 : Int))) :: ((b4a, (b4ba, (b4bba, ()))) :: ([] : List (Int × (Int × (ByteArray × Unit))))))).2).1))) + (List.length (((Go.Inc.dictStep (b7a, ((b7ba, (b7bba, (b7bbba, ()))), (b7bbbba, (b7bbbbba, ())))) (b4a, (b4ba, (b4bba, ()))) (13 : Int) ((b4a, (b4ba, (b4bba, ()))) :: ((b5a, (b5ba, (b5bba, ()))) :: ([] : List (Int × (Int × (ByteArray × Unit))))))).2).1))) * 32) ≤ 140737488351232) then
              bif (Go.Inc.okSame2 (((Go.Inc.dictStep (b7a, ((b7ba, (b7bba, (b7bbba, ()))), (b7bbbba, (b7bbbbba, ())))) (b4a, (b4ba, (b4bba, ()))) (13 : Int) ((Go.Inc.num' (-(9223372036854775808 : Int))) :: ((b5a, (b5ba, (b5bba, ()))) :: ([] : List (Int × (Int × (ByteArray × Unit))))))).2).1) ((([] : List (Int × (Int × (ByteArray × Unit)))) ++ (((Go.Inc.dictStep (b7a, ((b7ba, (b7bba, (b7bbba, ()))), (b7bbbba, (b7bbbbba, ())))) (b4a, (b4ba, (b4bba, ()))) (13 : Int) ((Go.Inc.num' (-(9223372036854775808 : Int))) :: ((b4a, (b4ba, (b4bba, ()))) :: ([] : List (Int × (Int × (ByteArray × Unit))))))).2).1)) ++ (((Go.Inc.dictStep (b7a, ((b7ba, (b7bba, (b7bbba, ()))), (b7bbbba, (b7bbbbba, ())))) (b4a, (b4ba, (b4bba, ()))) (13 : Int) ((b4a, (b4ba, (b4bba, ()))) :: ((b5a, (b5ba, (b5bba, ()))) :: ([] : List (Int × (Int × (ByteArray × Unit))))))).2).1))) then
              some ((Go.Inc.sameV (((Go.Inc.dictStep (b7a, ((b7ba, (b7bba, (b7bbba, ()))), (b7bbbba, (b7bbbbba, ())))) (b4a, (b4ba, (b4bba, ()))) (13 : Int) ((Go.Inc.num' (-(9223372036854775808 : Int))) :: ((b5a, (b5ba, (b5bba, ()))) :: ([] : List (Int × (Int × (ByteArray × Unit))))))).2).1) ((([] : List (Int × (Int × (ByteArray × Unit)))) ++ (((Go.Inc.dictStep (b7a, ((b7ba, (b7bba, (b7bbba, ()))), (b7bbbba, (b7bbbbba, ())))) (b4a, (b4ba, (b4bba, ()))) (13 : Int) ((Go.Inc.num' (-(9223372036854775808 : Int))) :: ((b4a, (b4ba, (b4bba, ()))) :: ([] : List (Int × (Int × (ByteArray × Unit))))))).2).1)) ++ (((Go.Inc.dictStep (b7a, ((b7ba, (b7bba, (b7bbba, ()))), (b7bbbba, (b7bbbbba, ())))) (b4a, (b4ba, (b4bba, ()))) (13 : Int) ((b4a, (b4ba, (b4bba, ()))) :: ((b5a, (b5ba, (b5bba, ()))) :: ([] : List (Int × (Int × (ByteArray × Unit))))))).2).1))), ())
            else
              none
            else
              none
            else
              none
            else
              bif decide ((((List.length ([] : List (Int × (Int × (ByteArray × Unit))))) + (List.length (((Go.Inc.dictStep (b7a, ((b7ba, (b7bba, (b7bbba, ()))), (b7bbbba, (b7bbbbba, ())))) (b4a, (b4ba, (b4bba, ()))) (13 : Int) ((Go.Inc.num' (-(9223372036854775808 : Int))) :: ((b4a, (b4ba, (b4bba, ()))) :: ([] : List (Int × (Int × (ByteArray × Unit))))))).2).1))) * 32) ≤ 140737488351232) then
              bif decide ((((List.length (([] : List (Int × (Int × (ByteArray × Unit)))) ++ (((Go.Inc.dictStep (b7a, ((b7ba, (b7bba, (b7bbba, ()))), (b7bbbba, (b7bbbbba, ())))) (b4a, (b4ba, (b4bba, ()))) (13 : Int) ((Go.Inc.num' (-(9223372036854775808 : Int))) :: ((b4a, (b4ba, (b4bba, ()))) :: ([] : List (Int × (Int × (ByteArray × Unit))))))).2).1))) + (List.length (((Go.Inc.dictStep (b7a, ((b7ba, (b7bba, (b7bbba, ()))), (b7bbbba, (b7bbbbba, ())))) (b4a, (b4ba, (b4bba, ()))) (13 : Int) ((b4a, (b4ba, (b4bba, ()))) :: ((b5a, (b5ba, (b5bba, ()))) :: ([] : List (Int × (Int × (ByteArray × Unit))))))).2).1))) * 32) ≤ 140737488351232) then
              bif (Go.Inc.okSame2 (((Go.Inc.dictStep (b7a, ((b7ba, (b7bba, (b7bbba, ()))), (b7bbbba, (b7bbbbba, ())))) (b4a, (b4ba, (b4bba, ()))) (13 : Int) ((Go.Inc.num' (-(9223372036854775808 : Int))) :: ((b5a, (b5ba, (b5bba, ()))) :: ([] : List (Int × (Int × (ByteArray × Unit))))))).2).1) ((([] : List (Int × (Int × (ByteArray × Unit)))) ++ (((Go.Inc.dictStep (b7a, ((b7ba, (b7bba, (b7bbba, ()))), (b7bbbba, (b7bbbbba, ())))) (b4a, (b4ba, (b4bba, ()))) (13 : Int) ((Go.Inc.num' (-(9223372036854775808 : Int))) :: ((b4a, (b4ba, (b4bba, ()))) :: ([] : List (Int × (Int × (ByteArray × Unit))))))).2).1)) ++ (((Go.Inc.dictStep (b7a, ((b7ba, (b7bba, (b7bbba, ()))), (b7bbbba, (b7bbbbba, ())))) (b4a, (b4ba, (b4bba, ()))) (13 : Int) ((b4a, (b4ba, (b4bba, ()))) :: ((b5a, (b5ba, (b5bba, ()))) :: ([] : List (Int × (Int × (ByteArray × Unit))))))).2).1))) then
              some ((Go.Inc.sameV (((Go.Inc.dictStep (b7a, ((b7ba, (b7bba, (b7bbba, ()))), (b7bbbba, (b7bbbbba, ())))) (b4a, (b4ba, (b4bba, ()))) (13 : Int) ((Go.Inc.num' (-(9223372036854775808 : Int))) :: ((b5a, (b5ba, (b5bba, ()))) :: ([] : List (Int × (Int × (ByteArray × Unit))))))).2).1) ((([] : List (Int × (Int × (ByteArray × Unit)))) ++ (((Go.Inc.dictStep (b7a, ((b7ba, (b7bba, (b7bbba, ()))), (b7bbbba, (b7bbbbba, ())))) (b4a, (b4ba, (b4bba, ()))) (13 : Int) ((Go.Inc.num' (-(9223372036854775808 : Int))) :: ((b4a, (b4ba, (b4bba, ()))) :: ([] : List (Int × (Int × (ByteArray × Unit))))))).2).1)) ++ (((Go.Inc.dictStep (b7a, ((b7ba, (b7bba, (b7bbba, ()))), (b7bbbba, (b7bbbbba, ())))) (b4a, (b4ba, (b4bba, ()))) (13 : Int) ((b4a, (b4ba, (b4bba, ()))) :: ((b5a, (b5ba, (b5bba, ()))) :: ([] : List (Int × (Int × (ByteArray × Unit))))))).2).1))), ())
            else
              none
            else
              none
            else
              none
            else
              none
            else
              bif decide ((((List.length ([] : List (Int × (Int × (ByteArray × Unit))))) + (List.length (((Go.Inc.dictStep (b7a, ((b7ba, (b7bba, (b7bbba, ()))), (b7bbbba, (b7bbbbba, ())))) (b4a, (b4ba, (b4bba, ()))) (13 : Int) ((Go.Inc.num' (-(9223372036854775808 : Int))) :: ((b4a, (b4ba, (b4bba, ()))) :: ([] : List (Int × (Int × (ByteArray × Unit))))))).2).1))) * 32) ≤ 140737488351232) then
              bif decide ((((List.length (([] : List (Int × (Int × (ByteArray × Unit)))) ++ (((Go.Inc.dictStep (b7a, ((b7ba, (b7bba, (b7bbba, ()))), (b7bbbba, (b7bbbbba, ())))) (b4a, (b4ba, (b4bba, ()))) (13 : Int) ((Go.Inc.num' (-(9223372036854775808 : Int))) :: ((b4a, (b4ba, (b4bba, ()))) :: ([] : List (Int × (Int × (ByteArray × Unit))))))).2).1))) + (List.length (((Go.Inc.dictStep (b7a, ((b7ba, (b7bba, (b7bbba, ()))), (b7bbbba, (b7bbbbba, ())))) (b4a, (b4ba, (b4bba, ()))) (13 : Int) ((b4a, (b4ba, (b4bba, ()))) :: ((b5a, (b5ba, (b5bba, ()))) :: ([] : List (Int × (Int × (ByteArray × Unit))))))).2).1))) * 32) ≤ 140737488351232) then
              bif (Go.Inc.okSame2 (((Go.Inc.dictStep (b7a, ((b7ba, (b7bba, (b7bbba, ()))), (b7bbbba, (b7bbbbba, ())))) (b4a, (b4ba, (b4bba, ()))) (13 : Int) ((Go.Inc.num' (-(9223372036854775808 : Int))) :: ((b5a, (b5ba, (b5bba, ()))) :: ([] : List (Int × (Int × (ByteArray × Unit))))))).2).1) ((([] : List (Int × (Int × (ByteArray × Unit)))) ++ (((Go.Inc.dictStep (b7a, ((b7ba, (b7bba, (b7bbba, ()))), (b7bbbba, (b7bbbbba, ())))) (b4a, (b4ba, (b4bba, ()))) (13 : Int) ((Go.Inc.num' (-(9223372036854775808 : Int))) :: ((b4a, (b4ba, (b4bba, ()))) :: ([] : List (Int × (Int × (ByteArray × Unit))))))).2).1)) ++ (((Go.Inc.dictStep (b7a, ((b7ba, (b7bba, (b7bbba, ()))), (b7bbbba, (b7bbbbba, ())))) (b4a, (b4ba, (b4bba, ()))) (13 : Int) ((b4a, (b4ba, (b4bba, ()))) :: ((b5a, (b5ba, (b5bba, ()))) :: ([] : List (Int × (Int × (ByteArray × Unit))))))).2).1))) then
              some ((Go.Inc.sameV (((Go.Inc.dictStep (b7a, ((b7ba, (b7bba, (b7bbba, ()))), (b7bbbba, (b7bbbbba, ())))) (b4a, (b4ba, (b4bba, ()))) (13 : Int) ((Go.Inc.num' (-(9223372036854775808 : Int))) :: ((b5a, (b5ba, (b5bba, ()))) :: ([] : List (Int × (Int × (ByteArray × Unit))))))).2).1) ((([] : List (Int × (Int × (ByteArray × Unit)))) ++ (((Go.Inc.dictStep (b7a, ((b7ba, (b7bba, (b7bbba, ()))), (b7bbbba, (b7bbbbba, ())))) (b4a, (b4ba, (b4bba, ()))) (13 : Int) ((Go.Inc.num' (-(9223372036854775808 : Int))) :: ((b4a, (b4ba, (b4bba, ()))) :: ([] : List (Int × (Int × (ByteArray × Unit))))))).2).1)) ++ (((Go.Inc.dictStep (b7a, ((b7ba, (b7bba, (b7bbba, ()))), (b7bbbba, (b7bbbbba, ())))) (b4a, (b4ba, (b4bba, ()))) (13 : Int) ((b4a, (b4ba, (b4bba, ()))) :: ((b5a, (b5ba, (b5bba, ()))) :: ([] : List (Int × (Int × (ByteArray × Unit))))))).2).1))), ())
            else
              none
            else
              none
            else
              none
            else
              bif decide ((((List.length (((Go.Inc.dictStep (b7a, ((b7ba, (b7bba, (b7bbba, ()))), (b7bbbba, (b7bbbbba, ())))) (b4a, (b4ba, (b4bba, ()))) (13 : Int) ((Go.Inc.num' (-(9223372036854775808 : Int))) :: ((b4a, (b4ba, (b4bba, ()))) :: ([] : List (Int × (Int × (ByteArray × Unit))))))).2).1)) : Nat) : Int) ≥ (2 : Int)) then
              bif ((decide ((0 : Int) ≤ (Go.IntKind.wrap .i64 ((((List.length (((Go.Inc.dictStep (b7a, ((b7ba, (b7bba, (b7bbba, ()))), (b7bbbba, (b7bbbbba, ())))) (b4a, (b4ba, (b4bba, ()))) (13 : Int) ((Go.Inc.num' (-(9223372036854775808 : Int))) :: ((b4a, (b4ba, (b4bba, ()))) :: ([] : List (Int × (Int × (ByteArray × Unit))))))).2).1)) : Nat) : Int) - (2 : Int))))) && (decide ((Go.IntKind.wrap .i64 ((((List.length (((Go.Inc.dictStep (b7a, ((b7ba, (b7bba, (b7bbba, ()))), (b7bbbba, (b7bbbbba, ())))) (b4a, (b4ba, (b4bba, ()))) (13 : Int) ((Go.Inc.num' (-(9223372036854775808 : Int))) :: ((b4a, (b4ba, (b4bba, ()))) :: ([] : List (Int × (Int × (ByteArray × Unit))))))).2).1)) : Nat) : Int) - (2 : Int))) < (((List.length (((Go.Inc.dictStep (b7a, ((b7ba, (b7bba, (b7bbba, ()))), (b7bbbba, (b7bbbbba, ())))) (b4a, (b4ba, (b4bba, ()))) (13 : Int) ((Go.Inc.num' (-(9223372036854775808 : Int))) :: ((b4a, (b4ba, (b4bba, ()))) :: ([] : List (Int × (Int × (ByteArray × Unit))))))).2).1)) : Nat) : Int)))) then
              bif ((((List.getD (((Go.Inc.dictStep (b7a, ((b7ba, (b7bba, (b7bbba, ()))), (b7bbbba, (b7bbbbba, ())))) (b4a, (b4ba, (b4bba, ()))) (13 : Int) ((Go.Inc.num' (-(9223372036854775808 : Int))) :: ((b4a, (b4ba, (b4bba, ()))) :: ([] : List (Int × (Int × (ByteArray × Unit))))))).2).1) (Int.toNat (Go.IntKind.wrap .i64 ((((List.length (((Go.Inc.dictStep (b7a, ((b7ba, (b7bba, (b7bbba, ()))), (b7bbbba, (b7bbbbba, ())))) (b4a, (b4ba, (b4bba, ()))) (13 : Int) ((Go.Inc.num' (-(9223372036854775808 : Int))) :: ((b4a, (b4ba, (b4bba, ()))) :: ([] : List (Int × (Int × (ByteArray × Unit))))))).2).1)) : Nat) : Int) - (2 : Int)))) ((0 : Int), ((0 : Int), (ByteArray.empty, ())))).1) == b4a) && (((((List.getD (((Go.Inc.dictStep (b7a, ((b7ba, (b7bba, (b7bbba, ()))), (b7bbbba, (b7bbbbba, ())))) (b4a, (b4ba, (b4bba, ()))) (13 : Int) ((Go.Inc.num' (-(9223372036854775808 : Int))) :: ((b4a, (b4ba, (b4bba, ()))) :: ([] : List (Int × (Int × (ByteArray × Unit))))))).2).1) (Int.toNat (Go.IntKind.wrap .i64 ((((List.length (((Go.Inc.dictStep (b7a, ((b7ba, (b7bba, (b7bbba, ()))), (b7bbbba, (b7bbbbba, ())))) (b4a, (b4ba, (b4bba, ()))) (13 : Int) ((Go.Inc.num' (-(9223372036854775808 : Int))) :: ((b4a, (b4ba, (b4bba, ()))) :: ([] : List (Int × (Int × (ByteArray × Unit))))))).2).1)) : Nat) : Int) - (2 : Int)))) ((0 : Int), ((0 : Int), (ByteArray.empty, ())))).2).1) == b4ba) && ((((((List.getD (((Go.Inc.dictStep (b7a, ((b7ba, (b7bba, (b7bbba, ()))), (b7bbbba, (b7bbbbba, ())))) (b4a, (b4ba, (b4bba, ()))) (13 : Int) ((Go.Inc.num' (-(9223372036854775808 : Int))) :: ((b4a, (b4ba, (b4bba, ()))) :: ([] : List (Int × (Int × (ByteArray × Unit))))))).2).1) (Int.toNat (Go.IntKind.wrap .i64 ((((List.length (((Go.Inc.dictStep (b7a, ((b7ba, (b7bba, (b7bbba, ()))), (b7bbbba, (b7bbbbba, ())))) (b4a, (b4ba, (b4bba, ()))) (13 : Int) ((Go.Inc.num' (-(9223372036854775808 : Int))) :: ((b4a, (b4ba, (b4bba, ()))) :: ([] : List (Int × (Int × (ByteArray × Unit))))))).2).1)) : Nat) : Int) - (2 : Int)))) ((0 : Int), ((0 : Int), (ByteArray.empty, ())))).2).2).1) == b4bba) && true))) then
              bif decide ((((List.length (((Go.Inc.dictStep (b7a, ((b7ba, (b7bba, (b7bbba, ()))), (b7bbbba, (b7bbbbba, ())))) (b4a, (b4ba, (b4bba, ()))) (13 : Int) ((b4a, (b4ba, (b4bba, ()))) :: ((b5a, (b5ba, (b5bba, ()))) :: ([] : List (Int × (Int × (ByteArray × Unit))))))).2).1)) : Nat) : Int) ≥ (2 : Int)) then
              bif ((decide ((0 : Int) ≤ (2 : Int))) && ((decide ((2 : Int) ≤ (((List.length (((Go.Inc.dictStep (b7a, ((b7ba, (b7bba, (b7bbba, ()))), (b7bbbba, (b7bbbbba, ())))) (b4a, (b4ba, (b4bba, ()))) (13 : Int) ((b4a, (b4ba, (b4bba, ()))) :: ((b5a, (b5ba, (b5bba, ()))) :: ([] : List (Int × (Int × (ByteArray × Unit))))))).2).1)) : Nat) : Int))) && (decide ((((List.length (((Go.Inc.dictStep (b7a, ((b7ba, (b7bba, (b7bbba, ()))), (b7bbbba, (b7bbbbba, ())))) (b4a, (b4ba, (b4bba, ()))) (13 : Int) ((b4a, (b4ba, (b4bba, ()))) :: ((b5a, (b5ba, (b5bba, ()))) :: ([] : List (Int × (Int × (ByteArray × Unit))))))).2).1)) : Nat) : Int) ≤ (((List.length (((Go.Inc.dictStep (b7a, ((b7ba, (b7bba, (b7bbba, ()))), (b7bbbba, (b7bbbbba, ())))) (b4a, (b4ba, (b4bba, ()))) (13 : Int) ((b4a, (b4ba, (b4bba, ()))) :: ((b5a, (b5ba, (b5bba, ()))) :: ([] : List (Int × (Int × (ByteArray × Unit))))))).2).1)) : Nat) : Int))))) then
              bif decide ((((List.length ([] : List (Int × (Int × (ByteArray × Unit))))) + (List.length (((Go.Inc.dictStep (b7a, ((b7ba, (b7bba, (b7bbba, ()))), (b7bbbba, (b7bbbbba, ())))) (b4a, (b4ba, (b4bba, ()))) (13 : Int) ((Go.Inc.num' (-(9223372036854775808 : Int))) :: ((b4a, (b4ba, (b4bba, ()))) :: ([] : List (Int × (Int × (ByteArray × Unit))))))).2).1))) * 32) ≤ 140737488351232) then
              bif decide ((((List.length (([] : List (Int × (Int × (ByteArray × Unit)))) ++ (((Go.Inc.dictStep (b7a, ((b7ba, (b7bba, (b7bbba, ()))), (b7bbbba, (b7bbbbba, ())))) (b4a, (b4ba, (b4bba, ()))) (13 : Int) ((Go.Inc.num' (-(9223372036854775808 : Int))) :: ((b4a, (b4ba, (b4bba, ()))) :: ([] : List (Int × (Int × (ByteArray × Unit))))))).2).1))) + (List.length (Go.Abs.sub (((Go.Inc.dictStep (b7a, ((b7ba, (b7bba, (b7bbba, ()))), (b7bbbba, (b7bbbbba, ())))) (b4a, (b4ba, (b4bba, ()))) (13 : Int) ((b4a, (b4ba, (b4bba, ()))) :: ((b5a, (b5ba, (b5bba, ()))) :: ([] : List (Int × (Int × (ByteArray × Unit))))))).2).1) (2 : Int) (((List.length (((Go.Inc.dictStep (b7a, ((b7ba, (b7bba, (b7bbba, ()))), (b7bbbba, (b7bbbbba, ())))) (b4a, (b4ba, (b4bba, ()))) (13 : Int) ((b4a, (b4ba, (b4bba, ()))) :: ((b5a, (b5ba, (b5bba, ()))) :: ([] : List (Int × (Int × (ByteArray × Unit))))))).2).1)) : Nat) : Int)))) * 32) ≤ 140737488351232) then
              bif (Go.Inc.okSame2 (((Go.Inc.dictStep (b7a, ((b7ba, (b7bba, (b7bbba, ()))), (b7bbbba, (b7bbbbba, ())))) (b4a, (b4ba, (b4bba, ()))) (13 : Int) ((Go.Inc.num' (-(9223372036854775808 : Int))) :: ((b5a, (b5ba, (b5bba, ()))) :: ([] : List (Int × (Int × (ByteArray × Unit))))))).2).1) ((([] : List (Int × (Int × (ByteArray × Unit)))) ++ (((Go.Inc.dictStep (b7a, ((b7ba, (b7bba, (b7bbba, ()))), (b7bbbba, (b7bbbbba, ())))) (b4a, (b4ba, (b4bba, ()))) (13 : Int) ((Go.Inc.num' (-(9223372036854775808 : Int))) :: ((b4a, (b4ba, (b4bba, ()))) :: ([] : List (Int × (Int × (ByteArray × Unit))))))).2).1)) ++ (Go.Abs.sub (((Go.Inc.dictStep (b7a, ((b7ba, (b7bba, (b7bbba, ()))), (b7bbbba, (b7bbbbba, ())))) (b4a, (b4ba, (b4bba, ()))) (13 : Int) ((b4a, (b4ba, (b4bba, ()))) :: ((b5a, (b5ba, (b5bba, ()))) :: ([] : List (Int × (Int × (ByteArray × Unit))))))).2).1) (2 : Int) (((List.length (((Go.Inc.dictStep (b7a, ((b7ba, (b7bba, (b7bbba, ()))), (b7bbbba, (b7bbbbba, ())))) (b4a, (b4ba, (b4bba, ()))) (13 : Int) ((b4a, (b4ba, (b4bba, ()))) :: ((b5a, (b5ba, (b5bba, ()))) :: ([] : List (Int × (Int × (ByteArray × Unit))))))).2).1)) : Nat) : Int)))) then
              some ((Go.Inc.sameV (((Go.Inc.dictStep (b7a, ((b7ba, (b7bba, (b7bbba, ()))), (b7bbbba, (b7bbbbba, ())))) (b4a, (b4ba, (b4bba, ()))) (13 : Int) ((Go.Inc.num' (-(9223372036854775808 : Int))) :: ((b5a, (b5ba, (b5bba, ()))) :: ([] : List (Int × (Int × (ByteArray × Unit))))))).2).1) ((([] : List (Int × (Int × (ByteArray × Unit)))) ++ (((Go.Inc.dictStep (b7a, ((b7ba, (b7bba, (b7bbba, ()))), (b7bbbba, (b7bbbbba, ())))) (b4a, (b4ba, (b4bba, ()))) (13 : Int) ((Go.Inc.num' (-(9223372036854775808 : Int))) :: ((b4a, (b4ba, (b4bba, ()))) :: ([] : List (Int × (Int × (ByteArray × Unit))))))).2).1)) ++ (Go.Abs.sub (((Go.Inc.dictStep (b7a, ((b7ba, (b7bba, (b7bbba, ()))), (b7bbbba, (b7bbbbba, ())))) (b4a, (b4ba, (b4bba, ()))) (13 : Int) ((b4a, (b4ba, (b4bba, ()))) :: ((b5a, (b5ba, (b5bba, ()))) :: ([] : List (Int × (Int × (ByteArray × Unit))))))).2).1) (2 : Int) (((List.length (((Go.Inc.dictStep (b7a, ((b7ba, (b7bba, (b7bbba, ()))), (b7bbbba, (b7bbbbba, ())))) (b4a, (b4ba, (b4bba, ()))) (13 : Int) ((b4a, (b4ba, (b4bba, ()))) :: ((b5a, (b5ba, (b5bba, ()))) :: ([] : List (Int × (Int × (ByteArray × Unit))))))).2).1)) : Nat) : Int)))), ())
            else
              none
            else
              none
            else
              none
            else
              none
            else
              bif decide ((((List.length ([] : List (Int × (Int × (ByteArray × Unit))))) + (List.length (((Go.Inc.dictStep (b7a, ((b7ba, (b7bba, (b7bbba, ()))), (b7bbbba, (b7bbbbba, ())))) (b4a, (b4ba, (b4bba, ()))) (13 : Int) ((Go.Inc.num' (-(9223372036854775808 : Int))) :: ((b4a, (b4ba, (b4bba, ()))) :: ([] : List (Int × (Int × (ByteArray × Unit))))))).2).1))) * 32) ≤ 140737488351232) then
              bif decide ((((List.length (([] : List (Int × (Int × (ByteArray × Unit)))) ++ (((Go.Inc.dictStep (b7a, ((b7ba, (b7bba, (b7bbba, ()))), (b7bbbba, (b7bbbbba, ())))) (b4a, (b4ba, (b4bba, ()))) (13 : Int) ((Go.Inc.num' (-(9223372036854775808 : Int))) :: ((b4a, (b4ba, (b4bba, ()))) :: ([] : List (Int × (Int × (ByteArray × Unit))))))).2).1))) + (List.length (((Go.Inc.dictStep (b7a, ((b7ba, (b7bba, (b7bbba, ()))), (b7bbbba, (b7bbbbba, ())))) (b4a, (b4ba, (b4bba, ()))) (13 : Int) ((b4a, (b4ba, (b4bba, ()))) :: ((b5a, (b5ba, (b5bba, ()))) :: ([] : List (Int × (Int × (ByteArray × Unit))))))).2).1))) * 32) ≤ 140737488351232) then
              bif (Go.Inc.okSame2 (((Go.Inc.dictStep (b7a, ((b7ba, (b7bba, (b7bbba, ()))), (b7bbbba, (b7bbbbba, ())))) (b4a, (b4ba, (b4bba, ()))) (13 : Int) ((Go.Inc.num' (-(9223372036854775808 : Int))) :: ((b5a, (b5ba, (b5bba, ()))) :: ([] : List (Int × (Int × (ByteArray × Unit))))))).2).1) ((([] : List (Int × (Int × (ByteArray × Unit)))) ++ (((Go.Inc.dictStep (b7a, ((b7ba, (b7bba, (b7bbba, ()))), (b7bbbba, (b7bbbbba, ())))) (b4a, (b4ba, (b4bba, ()))) (13 : Int) ((Go.Inc.num' (-(9223372036854775808 : Int))) :: ((b4a, (b4ba, (b4bba, ()))) :: ([] : List (Int × (Int × (ByteArray × Unit))))))).2).1)) ++ (((Go.Inc.dictStep (b7a, ((b7ba, (b7bba, (b7bbba, ()))), (b7bbbba, (b7bbbbba, ())))) (b4a, (b4ba, (b4bba, ()))) (13 : Int) ((b4a, (b4ba, (b4bba, ()))) :: ((b5a, (b5ba, (b5bba, ()))) :: ([] : List (Int × (Int × (ByteArray × Unit))))))).2).1))) then
              some ((Go.Inc.sameV (((Go.Inc.dictStep (b7a, ((b7ba, (b7bba, (b7bbba, ()))), (b7bbbba, (b7bbbbba, ())))) (b4a, (b4ba, (b4bba, ()))) (13 : Int) ((Go.Inc.num' (-(9223372036854775808 : Int))) :: ((b5a, (b5ba, (b5bba, ()))) :: ([] : List (Int × (Int × (ByteArray × Unit))))))).2).1) ((([] : List (Int × (Int × (ByteArray × Unit)))) ++ (((Go.Inc.dictStep (b7a, ((b7ba, (b7bba, (b7bbba, ()))), (b7bbbba, (b7bbbbba, ())))) (b4a, (b4ba, (b4bba, ()))) (13 : Int) ((Go.Inc.num' (-(9223372036854775808 : Int))) :: ((b4a, (b4ba, (b4bba, ()))) :: ([] : List (Int × (Int × (ByteArray × Unit))))))).2).1)) ++ (((Go.Inc.dictStep (b7a, ((b7ba, (b7bba, (b7bbba, ()))), (b7bbbba, (b7bbbbba, ())))) (b4a, (b4ba, (b4bba, ()))) (13 : Int) ((b4a, (b4ba, (b4bba, ()))) :: ((b5a, (b5ba, (b5bba, ()))) :: ([] : List (Int × (Int × (ByteArray × Unit))))))).2).1))), ())
            else
              none
            else
              none
            else
              none
            else
              bif decide ((((List.length ([] : List (Int × (Int × (ByteArray × Unit))))) + (List.length (((Go.Inc.dictStep (b7a, ((b7ba, (b7bba, (b7bbba, ()))), (b7bbbba, (b7bbbbba, ())))) (b4a, (b4ba, (b4bba, ()))) (13 : Int) ((Go.Inc.num' (-(9223372036854775808 : Int))) :: ((b4a, (b4ba, (b4bba, ()))) :: ([] : List (Int × (Int × (ByteArray × Unit))))))).2).1))) * 32) ≤ 140737488351232) then
              bif decide ((((List.length (([] : List (Int × (Int × (ByteArray × Unit)))) ++ (((Go.Inc.dictStep (b7a, ((b7ba, (b7bba, (b7bbba, ()))), (b7bbbba, (b7bbbbba, ())))) (b4a, (b4ba, (b4bba, ()))) (13 : Int) ((Go.Inc.num' (-(9223372036854775808 : Int))) :: ((b4a, (b4ba, (b4bba, ()))) :: ([] : List (Int × (Int × (ByteArray × Unit))))))).2).1))) + (List.length (((Go.Inc.dictStep (b7a, ((b7ba, (b7bba, (b7bbba, ()))), (b7bbbba, (b7bbbbba, ())))) (b4a, (b4ba, (b4bba, ()))) (13 : Int) ((b4a, (b4ba, (b4bba, ()))) :: ((b5a, (b5ba, (b5bba, ()))) :: ([] : List (Int × (Int × (ByteArray × Unit))))))).2).1))) * 32) ≤ 140737488351232) then
              bif (Go.Inc.okSame2 (((Go.Inc.dictStep (b7a, ((b7ba, (b7bba, (b7bbba, ()))), (b7bbbba, (b7bbbbba, ())))) (b4a, (b4ba, (b4bba, ()))) (13 : Int) ((Go.Inc.num' (-(9223372036854775808 : Int))) :: ((b5a, (b5ba, (b5bba, ()))) :: ([] : List (Int × (Int × (ByteArray × Unit))))))).2).1) ((([] : List (Int × (Int × (ByteArray × Unit)))) ++ (((Go.Inc.dictStep (b7a, ((b7ba, (b7bba, (b7bbba, ()))), (b7bbbba, (b7bbbbba, ())))) (b4a, (b4ba, (b4bba, ()))) (13 : Int) ((Go.Inc.num' (-(9223372036854775808 : Int))) :: ((b4a, (b4ba, (b4bba, ()))) :: ([] : List (Int × (Int × (ByteArray × Unit))))))).2).1)) ++ (((Go.Inc.dictStep (b7a, ((b7ba, (b7bba, (b7bbba, ()))), (b7bbbba, (b7bbbbba, ())))) (b4a, (b4ba, (b4bba, ()))) (13 : Int) ((b4a, (b4ba, (b4bba, ()))) :: ((b5a, (b5ba, (b5bba, ()))) :: ([] : List (Int × (Int × (ByteArray × Unit))))))).2).1))) then
              some ((Go.Inc.sameV (((Go.Inc.dictStep (b7a, ((b7ba, (b7bba, (b7bbba, ()))), (b7bbbba, (b7bbbbba, ())))) (b4a, (b4ba, (b4bba, ()))) (13 : Int) ((Go.Inc.num' (-(9223372036854775808 : Int))) :: ((b5a, (b5ba, (b5bba, ()))) :: ([] : List (Int × (Int × (ByteArray × Unit))))))).2).1) ((([] : List (Int × (Int × (ByteArray × Unit)))) ++ (((Go.Inc.dictStep (b7a, ((b7ba, (b7bba, (b7bbba, ()))), (b7bbbba, (b7bbbbba, ())))) (b4a, (b4ba, (b4bba, ()))) (13 : Int) ((Go.Inc.num' (-(9223372036854775808 : Int))) :: ((b4a, (b4ba, (b4bba, ()))) :: ([] : List (Int × (Int × (ByteArray × Unit))))))).2).1)) ++ (((Go.Inc.dictStep (b7a, ((b7ba, (b7bba, (b7bbba, ()))), (b7bbbba, (b7bbbbba, ())))) (b4a, (b4ba, (b4bba, ()))) (13 : Int) ((b4a, (b4ba, (b4bba, ()))) :: ((b5a, (b5ba, (b5bba, ()))) :: ([] : List (Int × (Int × (ByteArray × Unit))))))).2).1))), ())
            else
              none
            else
              none
            else
              none
            else
              none
            else
              bif decide ((((List.length ([] : List (Int × (Int × (ByteArray × Unit))))) + (List.length (((Go.Inc.dictStep (b7a, ((b7ba, (b7bba, (b7bbba, ()))), (b7bbbba, (b7bbbbba, ())))) (b4a, (b4ba, (b4bba, ()))) (13 : Int) ((Go.Inc.num' (-(9223372036854775808 : Int))) :: ((b4a, (b4ba, (b4bba, ()))) :: ([] : List (Int × (Int × (ByteArray × Unit))))))).2).1))) * 32) ≤ 140737488351232) then
              bif decide ((((List.length (([] : List (Int × (Int × (ByteArray × Unit)))) ++ (((Go.Inc.dictStep (b7a, ((b7ba, (b7bba, (b7bbba, ()))), (b7bbbba, (b7bbbbba, ())))) (b4a, (b4ba, (b4bba, ()))) (13 : Int) ((Go.Inc.num' (-(9223372036854775808 : Int))) :: ((b4a, (b4ba, (b4bba, ()))) :: ([] : List (Int × (Int × (ByteArray × Unit))))))).2).1))) + (List.length (((Go.Inc.dictStep (b7a, ((b7ba, (b7bba, (b7bbba, ()))), (b7bbbba, (b7bbbbba, ())))) (b4a, (b4ba, (b4bba, ()))) (13 : Int) ((b4a, (b4ba, (b4bba, ()))) :: ((b5a, (b5ba, (b5bba, ()))) :: ([] : List (Int × (Int × (ByteArray × Unit))))))).2).1))) * 32) ≤ 140737488351232) then
              bif (Go.Inc.okSame2 (((Go.Inc.dictStep (b7a, ((b7ba, (b7bba, (b7bbba, ()))), (b7bbbba, (b7bbbbba, ())))) (b4a, (b4ba, (b4bba, ()))) (13 : Int) ((Go.Inc.num' (-(9223372036854775808 : Int))) :: ((b5a, (b5ba, (b5bba, ()))) :: ([] : List (Int × (Int × (ByteArray × Unit))))))).2).1) ((([] : List (Int × (Int × (ByteArray × Unit)))) ++ (((Go.Inc.dictStep (b7a, ((b7ba, (b7bba, (b7bbba, ()))), (b7bbbba, (b7bbbbba, ())))) (b4a, (b4ba, (b4bba, ()))) (13 : Int) ((Go.Inc.num' (-(9223372036854775808 : Int))) :: ((b4a, (b4ba, (b4bba, ()))) :: ([] : List (Int × (Int × (ByteArray × Unit))))))).2).1)) ++ (((Go.Inc.dictStep (b7a, ((b7ba, (b7bba, (b7bbba, ()))), (b7bbbba, (b7bbbbba, ())))) (b4a, (b4ba, (b4bba, ()))) (13 : Int) ((b4a, (b4ba, (b4bba, ()))) :: ((b5a, (b5ba, (b5bba, ()))) :: ([] : List (Int × (Int × (ByteArray × Unit))))))).2).1))) then
              some ((Go.Inc.sameV (((Go.Inc.dictStep (b7a, ((b7ba, (b7bba, (b7bbba, ()))), (b7bbbba, (b7bbbbba, ())))) (b4a, (b4ba, (b4bba, ()))) (13 : Int) ((Go.Inc.num' (-(9223372036854775808 : Int))) :: ((b5a, (b5ba, (b5bba, ()))) :: ([] : List (Int × (Int × (ByteArray × Unit))))))).2).1) ((([] : List (Int × (Int × (ByteArray × Unit)))) ++ (((Go.Inc.dictStep (b7a, ((b7ba, (b7bba, (b7bbba, ()))), (b7bbbba, (b7bbbbba, ())))) (b4a, (b4ba, (b4bba, ()))) (13 : Int) ((Go.Inc.num' (-(9223372036854775808 : Int))) :: ((b4a, (b4ba, (b4bba, ()))) :: ([] : List (Int × (Int × (ByteArray × Unit))))))).2).1)) ++ (((Go.Inc.dictStep (b7a, ((b7ba, (b7bba, (b7bbba, ()))), (b7bbbba, (b7bbbbba, ())))) (b4a, (b4ba, (b4bba, ()))) (13 : Int) ((b4a, (b4ba, (b4bba, ()))) :: ((b5a, (b5ba, (b5bba, ()))) :: ([] : List (Int × (Int × (ByteArray × Unit))))))).2).1))), ())
            else
              none
            else
              none
            else
              none
            else
              none
            else
              none
            else
              none
            else
              none)
              N p1.1 p1.2.1 p1.2.2.1 p2.1 p2.2.1 p2.2.2.1 (((Go.Inc.dictNew (10 : Int)).1).1) (((((Go.Inc.dictNew (10 : Int)).1).2).1).1) ((((((Go.Inc.dictNew (10 : Int)).1).2).1).2).1) (((((((Go.Inc.dictNew (10 : Int)).1).2).1).2).2).1) (((((Go.Inc.dictNew (10 : Int)).1).2).2).1) ((((((Go.Inc.dictNew (10 : Int)).1).2).2).2).1) p0 (((List.length p0) : Nat) : Int) (0 : Int)
            else
              none
        else
          none
  else
    none
theorem loops4 (N : Nat) : loopsOk C4 (L4 N) Go.Proofs.Tryd.f4 := ⟨trivial, ⟨⟨trivial, ⟨⟨trivial, trivial⟩, trivial⟩⟩, ⟨⟨trivial, ⟨⟨trivial, trivial⟩, trivial⟩⟩, ⟨trivial, ⟨⟨trivial, ⟨loopOk_of H4_7 N (fun K n v => W4_7 N (fun b4a b4ba b4bba b5a b5ba b5bba b7a b7ba b7bba b7bbba b7bbbba b7bbbbba => K (.exit 0) (encH [(8, (.bx 4 0)), (9, (.pr (.i .i64) (.pr (.i .i64) (.pr .st .un)))), (10, (.bx 5 0)), (11, (.pr (.i .i64) (.pr (.i .i64) (.pr .st .un)))), (14, (.bx 7 0)), (15, (.pr (.i .i64) (.pr (.i .i64) (.pr (.i .i64) (.pr .st (.pr (.i .i64) (.pr (.sl (.pr (.int .i64) (.pr (.int .i64) (.pr .str .un))) .no) .un)))))))] ((), ((b4a, (b4ba, (b4bba, ()))), ((), ((b5a, (b5ba, (b5bba, ()))), ((), ((b7a, (b7ba, (b7bba, (b7bbba, (b7bbbba, (b7bbbbba, ())))))), ())))))))) n v.2.1.1 v.2.1.2.1 v.2.1.2.2.1 v.2.2.2.1.1 v.2.2.2.1.2.1 v.2.2.2.1.2.2.1 v.2.2.2.2.2.1.1 v.2.2.2.2.2.1.2.1 v.2.2.2.2.2.1.2.2.1 v.2.2.2.2.2.1.2.2.2.1 v.2.2.2.2.2.1.2.2.2.2.1 v.2.2.2.2.2.1.2.2.2.2.2.1 v.2.2.2.2.2.2.1 v.2.2.2.2.2.2.2.1 v.2.2.2.2.2.2.2.2.1) (by kernel_rfl) (fun K v => by kernel_rfl) (fun K v => by kernel_rfl) (fun K n v => by kernel_rfl), ⟨trivial, ⟨⟨trivial, trivial⟩, ⟨⟨trivial, ⟨trivial, ⟨trivial, ⟨trivial, trivial⟩⟩⟩⟩, trivial⟩⟩⟩⟩⟩, ⟨⟨trivial, ⟨trivial, trivial⟩⟩, ⟨trivial, ⟨trivial, ⟨trivial, ⟨trivial, ⟨trivial, ⟨⟨trivial, ⟨⟨trivial, trivial⟩, trivial⟩⟩, ⟨⟨trivial, ⟨trivial, trivial⟩⟩, ⟨trivial, trivial⟩⟩⟩⟩⟩⟩⟩⟩⟩⟩⟩⟩⟩⟩
theorem runs4 (N : Nat) (x : S4.ta.den) : run C4 S4 (L4 N) Go.Proofs.Tryd.f4 x = F4 N x.1 x.2.1 x.2.2.1 := by kernel_rfl


end Go.L17
