/- The walks of package reg and its statements. Printed by a program of this session. -/
import Derived.Test.YtmodjpjeepobpaaDoorW0
set_option linter.unusedVariables false
set_option maxRecDepth 100000
namespace Go.L13
open Go Go.Abs Go.Inc

/-! ### 41: incognito/value.IsWord -/
def W41_4 {β : Type} (N : Nat) (x0 : Bool → Option β) (x1 : Unit → Option β) : Nat → ByteArray → Int → Int → Option β
  | 0, _, _, _ => none
  | n + 1, t0, t23, t24 =>
  bif decide (t24 < t23) then
    bif ((decide ((0 : Int) ≤ t24)) && (decide (t24 < (((ByteArray.size t0) : Nat) : Int)))) then
      bif decide ((((UInt8.toNat (List.getD (Array.toList (ByteArray.data t0)) (Int.toNat t24) (0 : UInt8))) : Nat) : Int) ≥ (97 : Int)) then
        bif decide ((((UInt8.toNat (List.getD (Array.toList (ByteArray.data t0)) (Int.toNat t24) (0 : UInt8))) : Nat) : Int) ≤ (122 : Int)) then
          W41_4 N x0 x1 n t0 t23 (Go.IntKind.wrap .i64 (t24 + (1 : Int)))
        else
          bif decide ((((UInt8.toNat (List.getD (Array.toList (ByteArray.data t0)) (Int.toNat t24) (0 : UInt8))) : Nat) : Int) ≥ (48 : Int)) then
            bif decide ((((UInt8.toNat (List.getD (Array.toList (ByteArray.data t0)) (Int.toNat t24) (0 : UInt8))) : Nat) : Int) ≤ (57 : Int)) then
              W41_4 N x0 x1 n t0 t23 (Go.IntKind.wrap .i64 (t24 + (1 : Int)))
            else
              bif (!((((UInt8.toNat (List.getD (Array.toList (ByteArray.data t0)) (Int.toNat t24) (0 : UInt8))) : Nat) : Int) == (95 : Int))) then
              x0 false
            else
              W41_4 N x0 x1 n t0 t23 (Go.IntKind.wrap .i64 (t24 + (1 : Int)))
          else
            bif (!((((UInt8.toNat (List.getD (Array.toList (ByteArray.data t0)) (Int.toNat t24) (0 : UInt8))) : Nat) : Int) == (95 : Int))) then
              x0 false
            else
              W41_4 N x0 x1 n t0 t23 (Go.IntKind.wrap .i64 (t24 + (1 : Int)))
      else
        bif decide ((((UInt8.toNat (List.getD (Array.toList (ByteArray.data t0)) (Int.toNat t24) (0 : UInt8))) : Nat) : Int) ≥ (48 : Int)) then
          bif decide ((((UInt8.toNat (List.getD (Array.toList (ByteArray.data t0)) (Int.toNat t24) (0 : UInt8))) : Nat) : Int) ≤ (57 : Int)) then
            W41_4 N x0 x1 n t0 t23 (Go.IntKind.wrap .i64 (t24 + (1 : Int)))
          else
            bif (!((((UInt8.toNat (List.getD (Array.toList (ByteArray.data t0)) (Int.toNat t24) (0 : UInt8))) : Nat) : Int) == (95 : Int))) then
              x0 false
            else
              W41_4 N x0 x1 n t0 t23 (Go.IntKind.wrap .i64 (t24 + (1 : Int)))
        else
          bif (!((((UInt8.toNat (List.getD (Array.toList (ByteArray.data t0)) (Int.toNat t24) (0 : UInt8))) : Nat) : Int) == (95 : Int))) then
            x0 false
          else
            W41_4 N x0 x1 n t0 t23 (Go.IntKind.wrap .i64 (t24 + (1 : Int)))
    else
      none
  else
    x1 ()
def L41 (N : Nat) : Loops (Bool × Unit) := fun k ρ K => match Nat.beq k 4 with
  | true => (match adH ρ H41_4.hd with
    | some v => W41_4 N (fun t2 => K .ret (encH [(4, .bo)] (t2, ()))) (fun _ => K (.exit 0) (encH [] ())) N v.1 v.2.1 v.2.2.1
    | none => none)
  | false => none
def F41 (N : Nat) (p0 : ByteArray) : Option (Bool × Unit) :=
  bif ((ByteArray.toList p0) == (ByteArray.toList (strL []))) then
    some (false, ())
  else
    bif decide ((((ByteArray.size p0) : Nat) : Int) > (40 : Int)) then
      some (false, ())
    else
      bif ((decide ((0 : Int) ≤ (0 : Int))) && (decide ((0 : Int) < (((ByteArray.size p0) : Nat) : Int)))) then
        bif decide ((((UInt8.toNat (List.getD (Array.toList (ByteArray.data p0)) (Int.toNat (0 : Int)) (0 : UInt8))) : Nat) : Int) < (97 : Int)) then
          some (false, ())
        else
          bif ((decide ((0 : Int) ≤ (0 : Int))) && (decide ((0 : Int) < (((ByteArray.size p0) : Nat) : Int)))) then
            bif decide ((((UInt8.toNat (List.getD (Array.toList (ByteArray.data p0)) (Int.toNat (0 : Int)) (0 : UInt8))) : Nat) : Int) > (122 : Int)) then
              some (false, ())
            else
              W41_4 N
              (fun t2 =>
                some (t2, ()))
              (fun (_ : Unit) =>
                some (true, ()))
              N p0 (((ByteArray.size p0) : Nat) : Int) (0 : Int)
          else
            none
      else
        none
theorem loops41 (N : Nat) : loopsOk C41 (L41 N) Go.Proofs.Tryd.f41 := ⟨trivial, ⟨⟨trivial, ⟨⟨trivial, trivial⟩, trivial⟩⟩, ⟨⟨trivial, ⟨loopOk_of H41_4 N (fun K n v => W41_4 N (fun t2 => K .ret (encH [(4, .bo)] (t2, ()))) (fun _ => K (.exit 0) (encH [] ())) n v.1 v.2.1 v.2.2.1) (by kernel_rfl) (fun K v => by kernel_rfl) (fun K v => by kernel_rfl) (fun K n v => by kernel_rfl), ⟨trivial, ⟨⟨trivial, trivial⟩, ⟨⟨trivial, ⟨trivial, ⟨trivial, ⟨⟨trivial, trivial⟩, trivial⟩⟩⟩⟩, trivial⟩⟩⟩⟩⟩, ⟨trivial, trivial⟩⟩⟩⟩
theorem runs41 (N : Nat) (x : S41.ta.den) : run C41 S41 (L41 N) Go.Proofs.Tryd.f41 x = F41 N x.1 := by kernel_rfl

/-! ### 42: incognito/sign.domain -/
def L42 (_ : Nat) : Loops (Int × Unit) := fun _ _ _ => none
def F42 (N : Nat) (p0 : Int) : Option (Int × Unit) :=
  bif (p0 == (118 : Int)) then
    some ((2 : Int), ())
  else
    bif (p0 == (102 : Int)) then
      some ((3 : Int), ())
    else
      bif (p0 == (111 : Int)) then
        some ((4 : Int), ())
      else
        some ((5 : Int), ())
theorem loops42 (N : Nat) : loopsOk C42 (L42 N) Go.Proofs.Tryd.f42 := ⟨trivial, ⟨⟨trivial, ⟨trivial, ⟨⟨trivial, trivial⟩, ⟨trivial, ⟨⟨trivial, trivial⟩, ⟨trivial, ⟨⟨trivial, trivial⟩, trivial⟩⟩⟩⟩⟩⟩⟩, ⟨trivial, trivial⟩⟩⟩
theorem runs42 (N : Nat) (x : S42.ta.den) : run C42 S42 (L42 N) Go.Proofs.Tryd.f42 x = F42 N x.1 := by kernel_rfl

/-! ### 34: incognito/sign.Args -/
def W34_6 {β : Type} (N : Nat) (x1 : (List Int) → Option β) : Nat → Int → Int → ByteArray → Int → Bool → (List Int) → Int → Int → Option β
  | 0, _, _, _, _, _, _, _, _ => none
  | n + 1, b6a, b6ba, b6bba, b6bbba, b6bbbba, t8, t20, t21 =>
  bif decide (t21 < t20) then
    bif ((decide ((0 : Int) ≤ t21)) && (decide (t21 < (((ByteArray.size b6bba) : Nat) : Int)))) then
      bif decide ((((List.length t8) + (List.length ((Go.Inc.domain (((UInt8.toNat (List.getD (Array.toList (ByteArray.data b6bba)) (Int.toNat t21) (0 : UInt8))) : Nat) : Int)) :: ([] : List Int)))) * 8) ≤ 140737488351232) then
        W34_6 N x1 n b6a b6ba b6bba b6bbba b6bbbba (t8 ++ ((Go.Inc.domain (((UInt8.toNat (List.getD (Array.toList (ByteArray.data b6bba)) (Int.toNat t21) (0 : UInt8))) : Nat) : Int)) :: ([] : List Int))) t20 (Go.IntKind.wrap .i64 (t21 + (1 : Int)))
      else
        none
    else
      none
  else
    x1 t8
def L34 (N : Nat) : Loops ((List Int) × Bool × Unit) := fun k ρ K => match Nat.beq k 6 with
  | true => (match adH ρ H34_6.hd with
    | some v => W34_6 N (fun t8 => K (.exit 0) (encH [(16, (.sl (.int .i64) (.own 31)))] (t8, ()))) N v.2.1.1 v.2.1.2.1 v.2.1.2.2.1 v.2.1.2.2.2.1 v.2.1.2.2.2.2.1 v.2.2.1 v.2.2.2.1 v.2.2.2.2.1
    | none => none)
  | false => none
def F34 (N : Nat) (p0 : Int) (p1 : Int) : Option ((List Int) × Bool × Unit) :=
  bif (!(((Go.Inc.findGo p0 p1).2).1)) then
    some (([] : List Int), (false, ()))
  else
    W34_6 N
      (fun t8 =>
        some (t8, (true, ())))
      N (((Go.Inc.findGo p0 p1).1).1) ((((Go.Inc.findGo p0 p1).1).2).1) (((((Go.Inc.findGo p0 p1).1).2).2).1) ((((((Go.Inc.findGo p0 p1).1).2).2).2).1) (((((((Go.Inc.findGo p0 p1).1).2).2).2).2).1) ([] : List Int) (((ByteArray.size (((((Go.Inc.findGo p0 p1).1).2).2).1)) : Nat) : Int) (0 : Int)
theorem loops34 (N : Nat) : loopsOk C34 (L34 N) Go.Proofs.Tryd.f34 := ⟨trivial, ⟨trivial, ⟨⟨trivial, ⟨⟨trivial, trivial⟩, trivial⟩⟩, ⟨trivial, ⟨⟨trivial, ⟨loopOk_of H34_6 N (fun K n v => W34_6 N (fun t8 => K (.exit 0) (encH [(16, (.sl (.int .i64) (.own 31)))] (t8, ()))) n v.2.1.1 v.2.1.2.1 v.2.1.2.2.1 v.2.1.2.2.2.1 v.2.1.2.2.2.2.1 v.2.2.1 v.2.2.2.1 v.2.2.2.2.1) (by kernel_rfl) (fun K v => by kernel_rfl) (fun K v => by kernel_rfl) (fun K n v => by kernel_rfl), ⟨trivial, ⟨⟨trivial, trivial⟩, ⟨⟨trivial, trivial⟩, trivial⟩⟩⟩⟩⟩, ⟨trivial, trivial⟩⟩⟩⟩⟩⟩
theorem runs34 (N : Nat) (x : S34.ta.den) : run C34 S34 (L34 N) Go.Proofs.Tryd.f34 x = F34 N x.1 x.2.1 := by kernel_rfl

/-! ### 24: (*incognito/reg.cell).write -/
def L24 (_ : Nat) : Loops (HS.den X24.hout) := fun _ _ _ => none
def F24 (N : Nat) (t1 : List (Int × Int × ByteArray × Unit)) (b1000a : Int) (b1000ba : Int) (b1000bba : Int) (b1000bbba : ByteArray) (b1000bbbba : Int) (b1000bbbbba : List (Int × Int × ByteArray × Unit)) : Option (HS.den X24.hout) :=
  bif ((decide ((0 : Int) ≤ (0 : Int))) && (decide ((0 : Int) < (((List.length t1) : Nat) : Int)))) then
    some (([] : List (Int × (Int × (ByteArray × Unit)))), ((b1000a, ((List.getD t1 (Int.toNat (0 : Int)) ((0 : Int), ((0 : Int), (ByteArray.empty, ())))).1, (((List.getD t1 (Int.toNat (0 : Int)) ((0 : Int), ((0 : Int), (ByteArray.empty, ())))).2).1, ((((List.getD t1 (Int.toNat (0 : Int)) ((0 : Int), ((0 : Int), (ByteArray.empty, ())))).2).2).1, (b1000bbbba, (b1000bbbbba, ())))))), ()))
  else
    none
theorem loops24 (N : Nat) : loopsOk C24 (L24 N) Go.Proofs.Tryd.f24 := ⟨trivial, ⟨trivial, ⟨trivial, trivial⟩⟩⟩
theorem runs24 (N : Nat) (x : HS.den X24.hin) : runX C24 X24 (L24 N) Go.Proofs.Tryd.f24 x = F24 N x.2.1 x.2.2.1.1 x.2.2.1.2.1 x.2.2.1.2.2.1 x.2.2.1.2.2.2.1 x.2.2.1.2.2.2.2.1 x.2.2.1.2.2.2.2.2.1 := by kernel_rfl

/-! ### 26: (*incognito/reg.cell).swap -/
def L26 (_ : Nat) : Loops (HS.den X26.hout) := fun _ _ _ => none
def F26 (N : Nat) (t1 : List (Int × Int × ByteArray × Unit)) (b1000a : Int) (b1000ba : Int) (b1000bba : Int) (b1000bbba : ByteArray) (b1000bbbba : Int) (b1000bbbbba : List (Int × Int × ByteArray × Unit)) : Option (HS.den X26.hout) :=
  bif ((decide ((0 : Int) ≤ (0 : Int))) && (decide ((0 : Int) < (((List.length t1) : Nat) : Int)))) then
    bif (!((b1000ba == ((List.getD t1 (Int.toNat (0 : Int)) ((0 : Int), ((0 : Int), (ByteArray.empty, ())))).1)) && ((b1000bba == (((List.getD t1 (Int.toNat (0 : Int)) ((0 : Int), ((0 : Int), (ByteArray.empty, ())))).2).1)) && ((b1000bbba == ((((List.getD t1 (Int.toNat (0 : Int)) ((0 : Int), ((0 : Int), (ByteArray.empty, ())))).2).2).1)) && true)))) then
      some ((((3 : Int), ((0 : Int), (ByteArray.empty, ()))) :: ([] : List (Int × (Int × (ByteArray × Unit))))), ((b1000a, (b1000ba, (b1000bba, (b1000bbba, (b1000bbbba, (b1000bbbbba, ())))))), ()))
    else
      bif ((decide ((0 : Int) ≤ (1 : Int))) && (decide ((1 : Int) < (((List.length t1) : Nat) : Int)))) then
        some ((((3 : Int), ((1 : Int), (ByteArray.empty, ()))) :: ([] : List (Int × (Int × (ByteArray × Unit))))), ((b1000a, ((List.getD t1 (Int.toNat (1 : Int)) ((0 : Int), ((0 : Int), (ByteArray.empty, ())))).1, (((List.getD t1 (Int.toNat (1 : Int)) ((0 : Int), ((0 : Int), (ByteArray.empty, ())))).2).1, ((((List.getD t1 (Int.toNat (1 : Int)) ((0 : Int), ((0 : Int), (ByteArray.empty, ())))).2).2).1, (b1000bbbba, (b1000bbbbba, ())))))), ()))
      else
        none
  else
    none
theorem loops26 (N : Nat) : loopsOk C26 (L26 N) Go.Proofs.Tryd.f26 := ⟨trivial, ⟨⟨trivial, ⟨⟨trivial, trivial⟩, trivial⟩⟩, ⟨trivial, ⟨trivial, trivial⟩⟩⟩⟩
theorem runs26 (N : Nat) (x : HS.den X26.hin) : runX C26 X26 (L26 N) Go.Proofs.Tryd.f26 x = F26 N x.2.1 x.2.2.1.1 x.2.2.1.2.1 x.2.2.1.2.2.1 x.2.2.1.2.2.2.1 x.2.2.1.2.2.2.2.1 x.2.2.1.2.2.2.2.2.1 := by kernel_rfl

/-! ### 50: cmp.isNaN[int] -/
def L50 (_ : Nat) : Loops (Bool × Unit) := fun _ _ _ => none
def F50 (N : Nat) (p0 : Int) : Option (Bool × Unit) :=
  some ((p0 != p0), ())
theorem loops50 (N : Nat) : loopsOk C50 (L50 N) Go.Proofs.Tryd.f50 := ⟨trivial, ⟨trivial, trivial⟩⟩
theorem runs50 (N : Nat) (x : S50.ta.den) : run C50 S50 (L50 N) Go.Proofs.Tryd.f50 x = F50 N x.1 := by kernel_rfl

/-! ### 44: cmp.Compare[int] -/
def L44 (_ : Nat) : Loops (Int × Unit) := fun _ _ _ => none
def F44 (N : Nat) (p0 : Int) (p1 : Int) : Option (Int × Unit) :=
  bif decide (p0 < p1) then
    some ((-(1 : Int)), ())
  else
    bif decide (p0 > p1) then
      some ((1 : Int), ())
    else
      some ((0 : Int), ())
theorem loops44 (N : Nat) : loopsOk C44 (L44 N) Go.Proofs.Tryd.f44 := ⟨trivial, ⟨trivial, ⟨trivial, ⟨⟨trivial, ⟨⟨⟨trivial, ⟨⟨trivial, trivial⟩, trivial⟩⟩, ⟨trivial, trivial⟩⟩, trivial⟩⟩, ⟨⟨trivial, ⟨⟨trivial, trivial⟩, trivial⟩⟩, ⟨⟨trivial, ⟨⟨trivial, trivial⟩, trivial⟩⟩, ⟨⟨trivial, ⟨⟨trivial, trivial⟩, trivial⟩⟩, ⟨trivial, trivial⟩⟩⟩⟩⟩⟩⟩⟩
theorem runs44 (N : Nat) (x : S44.ta.den) : run C44 S44 (L44 N) Go.Proofs.Tryd.f44 x = F44 N x.1 x.2.1 := by kernel_rfl

/-! ### 35: incognito/value.Compare -/
def L35 (_ : Nat) : Loops (Int × Unit) := fun _ _ _ => none
def F35 (N : Nat) (p0 : Int × Int × ByteArray × Unit) (p1 : Int × Int × ByteArray × Unit) : Option (Int × Unit) :=
  some ((Go.Inc.orI ((Go.Inc.cmpI p0.1 p1.1) :: ((Go.Inc.cmpI p0.2.1 p1.2.1) :: ((Go.Abs.cmpS p0.2.2.1 p1.2.2.1) :: ([] : List Int))))), ())
theorem loops35 (N : Nat) : loopsOk C35 (L35 N) Go.Proofs.Tryd.f35 := ⟨trivial, ⟨trivial, trivial⟩⟩
theorem runs35 (N : Nat) (x : S35.ta.den) : run C35 S35 (L35 N) Go.Proofs.Tryd.f35 x = F35 N x.1 x.2.1 := by kernel_rfl

/-! ### 9: incognito/incognitolaw13.great -/
def W9_7 {β : Type} (N : Nat) (x0 : Bool → Option β) (x3 : (List ((Int × Int × ByteArray × Unit) × Int × (List (Int × Int × ByteArray × Unit)) × Unit)) → (List ((Int × Int × ByteArray × Unit) × Int × (List (Int × Int × ByteArray × Unit)) × Unit)) → Int → Int → Option β) : Nat → (List ((Int × Int × ByteArray × Unit) × Int × (List (Int × Int × ByteArray × Unit)) × Unit)) → (List ((Int × Int × ByteArray × Unit) × Int × (List (Int × Int × ByteArray × Unit)) × Unit)) → Int → Int → (List (Int × Int × ByteArray × Unit)) → Int → Int → Option β
  | 0, _, _, _, _, _, _, _ => none
  | n + 1, t0, t7, t8, t9, t25, t26, t27 =>
  bif decide (t27 < t26) then
    bif ((decide ((0 : Int) ≤ t27)) && (decide (t27 < (((List.length t25) : Nat) : Int)))) then
      bif decide ((((ByteArray.size ((((List.getD t25 (Int.toNat t27) ((0 : Int), ((0 : Int), (ByteArray.empty, ())))).2).2).1)) : Nat) : Int) > (100 : Int)) then
        x0 true
      else
        W9_7 N x0 x3 n t0 t7 t8 t9 t25 t26 (Go.IntKind.wrap .i64 (t27 + (1 : Int)))
    else
      none
  else
    x3 t0 t7 t8 t9
def W9_2 {β : Type} (N : Nat) (x0 : Bool → Option β) (x1 : (List ((Int × Int × ByteArray × Unit) × Int × (List (Int × Int × ByteArray × Unit)) × Unit)) → Option β) : Nat → (List ((Int × Int × ByteArray × Unit) × Int × (List (Int × Int × ByteArray × Unit)) × Unit)) → (List ((Int × Int × ByteArray × Unit) × Int × (List (Int × Int × ByteArray × Unit)) × Unit)) → Int → Int → Option β
  | 0, _, _, _, _ => none
  | n + 1, t0, t7, t8, t9 =>
  bif decide (t9 < t8) then
    bif ((decide ((0 : Int) ≤ t9)) && (decide (t9 < (((List.length t7) : Nat) : Int)))) then
      bif decide ((((List.length ((((List.getD t7 (Int.toNat t9) (((0 : Int), ((0 : Int), (ByteArray.empty, ()))), ((0 : Int), ([], ())))).2).2).1)) : Nat) : Int) > (10 : Int)) then
        x0 true
      else
        bif decide ((((ByteArray.size (((((List.getD t7 (Int.toNat t9) (((0 : Int), ((0 : Int), (ByteArray.empty, ()))), ((0 : Int), ([], ())))).1).2).2).1)) : Nat) : Int) > (100 : Int)) then
          x0 true
        else
          W9_7 N
            (fun t2 =>
              x0 t2)
            (fun t0 t7 t8 t9 =>
              W9_2 N x0 x1 n t0 t7 t8 (Go.IntKind.wrap .i64 (t9 + (1 : Int))))
            N t0 t7 t8 t9 ((((List.getD t7 (Int.toNat t9) (((0 : Int), ((0 : Int), (ByteArray.empty, ()))), ((0 : Int), ([], ())))).2).2).1) (((List.length ((((List.getD t7 (Int.toNat t9) (((0 : Int), ((0 : Int), (ByteArray.empty, ()))), ((0 : Int), ([], ())))).2).2).1)) : Nat) : Int) (0 : Int)
    else
      none
  else
    x1 t0
def L9 (N : Nat) : Loops (Bool × Unit) := fun k ρ K => match Nat.beq k 7 with
  | true => (match adH ρ H9_7.hd with
    | some v => W9_7 N (fun t2 => K .ret (encH [(4, .bo)] (t2, ()))) (fun t0 t7 t8 t9 => K (.exit 2) (encH [(0, (.sl (.pr (.pr (.int .i64) (.pr (.int .i64) (.pr .str .un))) (.pr (.int .i64) (.pr (.sl (.pr (.int .i64) (.pr (.int .i64) (.pr .str .un)))) .un))) .no)), (14, (.sl (.pr (.pr (.int .i64) (.pr (.int .i64) (.pr .str .un))) (.pr (.int .i64) (.pr (.sl (.pr (.int .i64) (.pr (.int .i64) (.pr .str .un)))) .un))) .no)), (16, (.i .i64)), (18, (.i .i64))] (t0, (t7, (t8, (t9, ())))))) N v.1 v.2.1 v.2.2.1 v.2.2.2.1 v.2.2.2.2.1 v.2.2.2.2.2.1 v.2.2.2.2.2.2.1
    | none => none)
  | false => match Nat.beq k 2 with
  | true => (match adH ρ H9_2.hd with
    | some v => W9_2 N (fun t2 => K .ret (encH [(4, .bo)] (t2, ()))) (fun t0 => K (.exit 0) (encH [(0, (.sl (.pr (.pr (.int .i64) (.pr (.int .i64) (.pr .str .un))) (.pr (.int .i64) (.pr (.sl (.pr (.int .i64) (.pr (.int .i64) (.pr .str .un)))) .un))) .no))] (t0, ()))) N v.1 v.2.1 v.2.2.1 v.2.2.2.1
    | none => none)
  | false => none
def F9 (N : Nat) (p0 : List ((Int × Int × ByteArray × Unit) × Int × (List (Int × Int × ByteArray × Unit)) × Unit)) : Option (Bool × Unit) :=
  W9_2 N
    (fun t2 =>
      some (t2, ()))
    (fun t0 =>
      some (decide ((((List.length t0) : Nat) : Int) > (40 : Int)), ()))
    N p0 p0 (((List.length p0) : Nat) : Int) (0 : Int)
theorem loops9 (N : Nat) : loopsOk C9 (L9 N) Go.Proofs.Tryd.f9 := ⟨trivial, ⟨⟨trivial, ⟨loopOk_of H9_2 N (fun K n v => W9_2 N (fun t2 => K .ret (encH [(4, .bo)] (t2, ()))) (fun t0 => K (.exit 0) (encH [(0, (.sl (.pr (.pr (.int .i64) (.pr (.int .i64) (.pr .str .un))) (.pr (.int .i64) (.pr (.sl (.pr (.int .i64) (.pr (.int .i64) (.pr .str .un)))) .un))) .no))] (t0, ()))) n v.1 v.2.1 v.2.2.1 v.2.2.2.1) (by kernel_rfl) (fun K v => by kernel_rfl) (fun K v => by kernel_rfl) (fun K n v => by kernel_rfl), ⟨trivial, ⟨⟨trivial, trivial⟩, ⟨⟨trivial, ⟨⟨trivial, ⟨⟨trivial, trivial⟩, trivial⟩⟩, ⟨trivial, ⟨loopOk_of H9_7 N (fun K n v => W9_7 N (fun t2 => K .ret (encH [(4, .bo)] (t2, ()))) (fun t0 t7 t8 t9 => K (.exit 2) (encH [(0, (.sl (.pr (.pr (.int .i64) (.pr (.int .i64) (.pr .str .un))) (.pr (.int .i64) (.pr (.sl (.pr (.int .i64) (.pr (.int .i64) (.pr .str .un)))) .un))) .no)), (14, (.sl (.pr (.pr (.int .i64) (.pr (.int .i64) (.pr .str .un))) (.pr (.int .i64) (.pr (.sl (.pr (.int .i64) (.pr (.int .i64) (.pr .str .un)))) .un))) .no)), (16, (.i .i64)), (18, (.i .i64))] (t0, (t7, (t8, (t9, ())))))) n v.1 v.2.1 v.2.2.1 v.2.2.2.1 v.2.2.2.2.1 v.2.2.2.2.2.1 v.2.2.2.2.2.2.1) (by kernel_rfl) (fun K v => by kernel_rfl) (fun K v => by kernel_rfl) (fun K n v => by kernel_rfl), ⟨trivial, ⟨⟨trivial, trivial⟩, ⟨⟨trivial, ⟨trivial, ⟨⟨trivial, trivial⟩, trivial⟩⟩⟩, trivial⟩⟩⟩⟩⟩⟩⟩, trivial⟩⟩⟩⟩⟩, ⟨trivial, trivial⟩⟩⟩
theorem runs9 (N : Nat) (x : S9.ta.den) : run C9 S9 (L9 N) Go.Proofs.Tryd.f9 x = F9 N x.1 := by kernel_rfl

/-! ### 10: incognito/incognitoref13.Same -/
def L10 (_ : Nat) : Loops (Bool × Unit) := fun _ _ _ => none
def F10 (N : Nat) (p0 : Int × (Int × Int × ByteArray × Unit) × Int × (List (Int × Int × ByteArray × Unit)) × Unit) (p1 : Int × (Int × Int × ByteArray × Unit) × Int × (List (Int × Int × ByteArray × Unit)) × Unit) : Option (Bool × Unit) :=
  bif (p0.1 == p1.1) then
    bif ((p0.2.1.1 == p1.2.1.1) && ((p0.2.1.2.1 == p1.2.1.2.1) && ((p0.2.1.2.2.1 == p1.2.1.2.2.1) && true))) then
      bif (p0.2.2.1 == p1.2.2.1) then
        bif (Go.Inc.okSame2 p0.2.2.2.1 p1.2.2.2.1) then
          some ((Go.Inc.sameV p0.2.2.2.1 p1.2.2.2.1), ())
        else
          none
      else
        some (false, ())
    else
      some (false, ())
  else
    some (false, ())
theorem loops10 (N : Nat) : loopsOk C10 (L10 N) Go.Proofs.Tryd.f10 := ⟨trivial, ⟨trivial, trivial⟩⟩
theorem runs10 (N : Nat) (x : S10.ta.den) : run C10 S10 (L10 N) Go.Proofs.Tryd.f10 x = F10 N x.1 x.2.1 := by kernel_rfl

/-! ### 38: incognito/incognitoref07.IsWord -/
def W38_2 {β : Type} (N : Nat) (x0 : Bool → Option β) (x1 : ByteArray → Option β) : Nat → ByteArray → Int → Option β
  | 0, _, _ => none
  | n + 1, t0, t3 =>
  bif decide (t3 < (((ByteArray.size t0) : Nat) : Int)) then
    bif ((decide ((0 : Int) ≤ t3)) && (decide (t3 < (((ByteArray.size t0) : Nat) : Int)))) then
      bif (Go.Inc.ok8 (((UInt8.toNat (List.getD (Array.toList (ByteArray.data t0)) (Int.toNat t3) (0 : UInt8))) : Nat) : Int) (t3 == (0 : Int))) then
        bif (!(Go.Inc.letterGo (((UInt8.toNat (List.getD (Array.toList (ByteArray.data t0)) (Int.toNat t3) (0 : UInt8))) : Nat) : Int) (t3 == (0 : Int)))) then
          x0 false
        else
          W38_2 N x0 x1 n t0 (Go.IntKind.wrap .i64 (t3 + (1 : Int)))
      else
        none
    else
      none
  else
    x1 t0
def L38 (N : Nat) : Loops (Bool × Unit) := fun k ρ K => match Nat.beq k 2 with
  | true => (match adH ρ H38_2.hd with
    | some v => W38_2 N (fun t2 => K .ret (encH [(4, .bo)] (t2, ()))) (fun t0 => K (.exit 0) (encH [(0, .st)] (t0, ()))) N v.1 v.2.1
    | none => none)
  | false => none
def F38 (N : Nat) (p0 : ByteArray) : Option (Bool × Unit) :=
  W38_2 N
    (fun t2 =>
      some (t2, ()))
    (fun t0 =>
      bif decide ((((ByteArray.size t0) : Nat) : Int) ≥ (1 : Int)) then
        some (decide ((((ByteArray.size t0) : Nat) : Int) ≤ (40 : Int)), ())
      else
        some (false, ()))
    N p0 (0 : Int)
theorem loops38 (N : Nat) : loopsOk C38 (L38 N) Go.Proofs.Tryd.f38 := ⟨trivial, ⟨⟨trivial, ⟨loopOk_of H38_2 N (fun K n v => W38_2 N (fun t2 => K .ret (encH [(4, .bo)] (t2, ()))) (fun t0 => K (.exit 0) (encH [(0, .st)] (t0, ()))) n v.1 v.2.1) (by kernel_rfl) (fun K v => by kernel_rfl) (fun K v => by kernel_rfl) (fun K n v => by kernel_rfl), ⟨⟨trivial, ⟨trivial, trivial⟩⟩, ⟨⟨trivial, ⟨⟨trivial, trivial⟩, trivial⟩⟩, trivial⟩⟩⟩⟩, ⟨trivial, trivial⟩⟩⟩
theorem runs38 (N : Nat) (x : S38.ta.den) : run C38 S38 (L38 N) Go.Proofs.Tryd.f38 x = F38 N x.1 := by kernel_rfl

/-! ### 37: incognito/incognitoref09.Takes -/
def L37 (_ : Nat) : Loops (Bool × Unit) := fun _ _ _ => none
def F37 (N : Nat) (p0 : Int) (p1 : Int × Int × ByteArray × Unit) : Option (Bool × Unit) :=
  bif decide (p0 ≥ (0 : Int)) then
    bif decide (p0 ≤ (4 : Int)) then
      bif (Go.Inc.okV p1) then
        some ((Go.Inc.name p1), ())
      else
        none
    else
      bif (p0 == (5 : Int)) then
        bif (Go.Inc.okV p1) then
          bif (Go.Inc.right p1) then
            bif (p1.1 == (1 : Int)) then
              some (true, ())
            else
              bif (p0 == (6 : Int)) then
              bif (Go.Inc.okV p1) then
              bif (Go.Inc.right p1) then
              some ((p1.1 == (3 : Int)), ())
            else
              some (false, ())
            else
              none
            else
              some (false, ())
          else
            bif (p0 == (6 : Int)) then
              bif (Go.Inc.okV p1) then
              bif (Go.Inc.right p1) then
              some ((p1.1 == (3 : Int)), ())
            else
              some (false, ())
            else
              none
            else
              some (false, ())
        else
          none
      else
        bif (p0 == (6 : Int)) then
          bif (Go.Inc.okV p1) then
            bif (Go.Inc.right p1) then
              some ((p1.1 == (3 : Int)), ())
            else
              some (false, ())
          else
            none
        else
          some (false, ())
  else
    bif (p0 == (5 : Int)) then
      bif (Go.Inc.okV p1) then
        bif (Go.Inc.right p1) then
          bif (p1.1 == (1 : Int)) then
            some (true, ())
          else
            bif (p0 == (6 : Int)) then
              bif (Go.Inc.okV p1) then
              bif (Go.Inc.right p1) then
              some ((p1.1 == (3 : Int)), ())
            else
              some (false, ())
            else
              none
            else
              some (false, ())
        else
          bif (p0 == (6 : Int)) then
            bif (Go.Inc.okV p1) then
              bif (Go.Inc.right p1) then
              some ((p1.1 == (3 : Int)), ())
            else
              some (false, ())
            else
              none
          else
            some (false, ())
      else
        none
    else
      bif (p0 == (6 : Int)) then
        bif (Go.Inc.okV p1) then
          bif (Go.Inc.right p1) then
            some ((p1.1 == (3 : Int)), ())
          else
            some (false, ())
        else
          none
      else
        some (false, ())
theorem loops37 (N : Nat) : loopsOk C37 (L37 N) Go.Proofs.Tryd.f37 := ⟨trivial, ⟨⟨trivial, ⟨⟨trivial, trivial⟩, trivial⟩⟩, ⟨trivial, trivial⟩⟩⟩
theorem runs37 (N : Nat) (x : S37.ta.den) : run C37 S37 (L37 N) Go.Proofs.Tryd.f37 x = F37 N x.1 x.2.1 := by kernel_rfl

/-! ### 29: incognito/incognitoref13.Yes -/
def L29 (_ : Nat) : Loops ((Int × Int × ByteArray × Unit) × Unit) := fun _ _ _ => none
def F29 (N : Nat) (p0 : Bool) : Option ((Int × Int × ByteArray × Unit) × Unit) :=
  bif p0 then
    some (((3 : Int), ((1 : Int), (ByteArray.empty, ()))), ())
  else
    some (((3 : Int), ((0 : Int), (ByteArray.empty, ()))), ())
theorem loops29 (N : Nat) : loopsOk C29 (L29 N) Go.Proofs.Tryd.f29 := ⟨trivial, ⟨⟨trivial, ⟨⟨trivial, trivial⟩, trivial⟩⟩, ⟨trivial, trivial⟩⟩⟩
theorem runs29 (N : Nat) (x : S29.ta.den) : run C29 S29 (L29 N) Go.Proofs.Tryd.f29 x = F29 N x.1 := by kernel_rfl

/-! ### 15: incognito/incognitoref13.Out -/
def L15 (_ : Nat) : Loops ((List (Int × Int × ByteArray × Unit)) × Unit) := fun _ _ _ => none
def F15 (N : Nat) (p0 : Int) (p1 : List ((Int × Int × ByteArray × Unit) × Int × (List (Int × Int × ByteArray × Unit)) × Unit)) (p2 : (Int × Int × ByteArray × Unit) × Int × (List (Int × Int × ByteArray × Unit)) × Unit) : Option ((List (Int × Int × ByteArray × Unit)) × Unit) :=
  bif (Go.Inc.okRPast p0 p1) then
    bif (p2.2.1 == (2 : Int)) then
      some (((Go.Inc.regKept p0 p1) :: ([] : List (Int × (Int × (ByteArray × Unit))))), ())
    else
      bif (p2.2.1 == (3 : Int)) then
        bif ((decide ((0 : Int) ≤ (0 : Int))) && (decide ((0 : Int) < (((List.length p2.2.2.1) : Nat) : Int)))) then
          some (((Go.Inc.yesV ((((Go.Inc.regKept p0 p1).1) == ((List.getD p2.2.2.1 (Int.toNat (0 : Int)) ((0 : Int), ((0 : Int), (ByteArray.empty, ())))).1)) && (((((Go.Inc.regKept p0 p1).2).1) == (((List.getD p2.2.2.1 (Int.toNat (0 : Int)) ((0 : Int), ((0 : Int), (ByteArray.empty, ())))).2).1)) && ((((((Go.Inc.regKept p0 p1).2).2).1) == ((((List.getD p2.2.2.1 (Int.toNat (0 : Int)) ((0 : Int), ((0 : Int), (ByteArray.empty, ())))).2).2).1)) && true)))) :: ([] : List (Int × (Int × (ByteArray × Unit))))), ())
        else
          none
      else
        some (([] : List (Int × (Int × (ByteArray × Unit)))), ())
  else
    none
theorem loops15 (N : Nat) : loopsOk C15 (L15 N) Go.Proofs.Tryd.f15 := ⟨trivial, ⟨trivial, ⟨⟨trivial, ⟨trivial, ⟨⟨trivial, trivial⟩, ⟨trivial, ⟨⟨trivial, trivial⟩, trivial⟩⟩⟩⟩⟩, ⟨trivial, trivial⟩⟩⟩⟩
theorem runs15 (N : Nat) (x : S15.ta.den) : run C15 S15 (L15 N) Go.Proofs.Tryd.f15 x = F15 N x.1 x.2.1 x.2.2.1 := by kernel_rfl

/-! ### 3: incognito/incognitolaw13.RegPlays -/
def W3_12 {β : Type} (N : Nat) (x0 : Bool → Option β) (x1 : Unit → Option β) : Nat → Int → Int → Int → Int → ByteArray → Int → (List (Int × Int × ByteArray × Unit)) → (List ((Int × Int × ByteArray × Unit) × Int × (List (Int × Int × ByteArray × Unit)) × Unit)) → (List ((Int × Int × ByteArray × Unit) × Int × (List (Int × Int × ByteArray × Unit)) × Unit)) → Int → Int → Option β
  | 0, _, _, _, _, _, _, _, _, _, _, _ => none
  | n + 1, t0, b5a, b5ba, b5bba, b5bbba, b5bbbba, b5bbbbba, t7, t42, t43, t44 =>
  bif decide (t44 < t43) then
    bif ((decide ((0 : Int) ≤ t44)) && (decide (t44 < (((List.length t42) : Nat) : Int)))) then
      bif (Go.Inc.okQStep (b5a, ((b5ba, (b5bba, (b5bbba, ()))), (b5bbbba, (b5bbbbba, ())))) ((List.getD t42 (Int.toNat t44) (((0 : Int), ((0 : Int), (ByteArray.empty, ()))), ((0 : Int), ([], ())))).1) (((List.getD t42 (Int.toNat t44) (((0 : Int), ((0 : Int), (ByteArray.empty, ()))), ((0 : Int), ([], ())))).2).1) ((((List.getD t42 (Int.toNat t44) (((0 : Int), ((0 : Int), (ByteArray.empty, ()))), ((0 : Int), ([], ())))).2).2).1)) then
        bif (Go.Inc.okMay t0 (List.getD t42 (Int.toNat t44) (((0 : Int), ((0 : Int), (ByteArray.empty, ()))), ((0 : Int), ([], ()))))) then
          bif (!(((((Go.Inc.regStep (b5a, ((b5ba, (b5bba, (b5bbba, ()))), (b5bbbba, (b5bbbbba, ())))) ((List.getD t42 (Int.toNat t44) (((0 : Int), ((0 : Int), (ByteArray.empty, ()))), ((0 : Int), ([], ())))).1) (((List.getD t42 (Int.toNat t44) (((0 : Int), ((0 : Int), (ByteArray.empty, ()))), ((0 : Int), ([], ())))).2).1) ((((List.getD t42 (Int.toNat t44) (((0 : Int), ((0 : Int), (ByteArray.empty, ()))), ((0 : Int), ([], ())))).2).2).1)).2).2).1) == (Go.Inc.mayD t0 (List.getD t42 (Int.toNat t44) (((0 : Int), ((0 : Int), (ByteArray.empty, ()))), ((0 : Int), ([], ()))))))) then
            x0 false
          else
            bif (!((((Go.Inc.regStep (b5a, ((b5ba, (b5bba, (b5bbba, ()))), (b5bbbba, (b5bbbbba, ())))) ((List.getD t42 (Int.toNat t44) (((0 : Int), ((0 : Int), (ByteArray.empty, ()))), ((0 : Int), ([], ())))).1) (((List.getD t42 (Int.toNat t44) (((0 : Int), ((0 : Int), (ByteArray.empty, ()))), ((0 : Int), ([], ())))).2).1) ((((List.getD t42 (Int.toNat t44) (((0 : Int), ((0 : Int), (ByteArray.empty, ()))), ((0 : Int), ([], ())))).2).2).1)).2).2).1)) then
              bif decide ((((List.length (((Go.Inc.regStep (b5a, ((b5ba, (b5bba, (b5bbba, ()))), (b5bbbba, (b5bbbbba, ())))) ((List.getD t42 (Int.toNat t44) (((0 : Int), ((0 : Int), (ByteArray.empty, ()))), ((0 : Int), ([], ())))).1) (((List.getD t42 (Int.toNat t44) (((0 : Int), ((0 : Int), (ByteArray.empty, ()))), ((0 : Int), ([], ())))).2).1) ((((List.getD t42 (Int.toNat t44) (((0 : Int), ((0 : Int), (ByteArray.empty, ()))), ((0 : Int), ([], ())))).2).2).1)).2).1)) : Nat) : Int) > (0 : Int)) then
              x0 false
            else
              bif (Go.Inc.okSS ((Go.Inc.regStep (b5a, ((b5ba, (b5bba, (b5bbba, ()))), (b5bbbba, (b5bbbbba, ())))) ((List.getD t42 (Int.toNat t44) (((0 : Int), ((0 : Int), (ByteArray.empty, ()))), ((0 : Int), ([], ())))).1) (((List.getD t42 (Int.toNat t44) (((0 : Int), ((0 : Int), (ByteArray.empty, ()))), ((0 : Int), ([], ())))).2).1) ((((List.getD t42 (Int.toNat t44) (((0 : Int), ((0 : Int), (ByteArray.empty, ()))), ((0 : Int), ([], ())))).2).2).1)).1) ((0 : Int), (((0 : Int), ((0 : Int), (ByteArray.empty, ()))), ((0 : Int), (([] : List (Int × (Int × (ByteArray × Unit)))), ()))))) then
              bif (!(Go.Inc.sameS ((Go.Inc.regStep (b5a, ((b5ba, (b5bba, (b5bbba, ()))), (b5bbbba, (b5bbbbba, ())))) ((List.getD t42 (Int.toNat t44) (((0 : Int), ((0 : Int), (ByteArray.empty, ()))), ((0 : Int), ([], ())))).1) (((List.getD t42 (Int.toNat t44) (((0 : Int), ((0 : Int), (ByteArray.empty, ()))), ((0 : Int), ([], ())))).2).1) ((((List.getD t42 (Int.toNat t44) (((0 : Int), ((0 : Int), (ByteArray.empty, ()))), ((0 : Int), ([], ())))).2).2).1)).1) ((0 : Int), (((0 : Int), ((0 : Int), (ByteArray.empty, ()))), ((0 : Int), (([] : List (Int × (Int × (ByteArray × Unit)))), ())))))) then
              x0 false
            else
              W3_12 N x0 x1 n t0 b5a b5ba b5bba b5bbba b5bbbba b5bbbbba t7 t42 t43 (Go.IntKind.wrap .i64 (t44 + (1 : Int)))
            else
              none
            else
              bif (Go.Inc.okRPast1 t0 t7 (List.getD t42 (Int.toNat t44) (((0 : Int), ((0 : Int), (ByteArray.empty, ()))), ((0 : Int), ([], ()))))) then
              bif (Go.Inc.okSame2 (((Go.Inc.regStep (b5a, ((b5ba, (b5bba, (b5bbba, ()))), (b5bbbba, (b5bbbbba, ())))) ((List.getD t42 (Int.toNat t44) (((0 : Int), ((0 : Int), (ByteArray.empty, ()))), ((0 : Int), ([], ())))).1) (((List.getD t42 (Int.toNat t44) (((0 : Int), ((0 : Int), (ByteArray.empty, ()))), ((0 : Int), ([], ())))).2).1) ((((List.getD t42 (Int.toNat t44) (((0 : Int), ((0 : Int), (ByteArray.empty, ()))), ((0 : Int), ([], ())))).2).2).1)).2).1) (Go.Inc.regOut t0 t7 (List.getD t42 (Int.toNat t44) (((0 : Int), ((0 : Int), (ByteArray.empty, ()))), ((0 : Int), ([], ())))))) then
              bif (!(Go.Inc.sameV (((Go.Inc.regStep (b5a, ((b5ba, (b5bba, (b5bbba, ()))), (b5bbbba, (b5bbbbba, ())))) ((List.getD t42 (Int.toNat t44) (((0 : Int), ((0 : Int), (ByteArray.empty, ()))), ((0 : Int), ([], ())))).1) (((List.getD t42 (Int.toNat t44) (((0 : Int), ((0 : Int), (ByteArray.empty, ()))), ((0 : Int), ([], ())))).2).1) ((((List.getD t42 (Int.toNat t44) (((0 : Int), ((0 : Int), (ByteArray.empty, ()))), ((0 : Int), ([], ())))).2).2).1)).2).1) (Go.Inc.regOut t0 t7 (List.getD t42 (Int.toNat t44) (((0 : Int), ((0 : Int), (ByteArray.empty, ()))), ((0 : Int), ([], ()))))))) then
              x0 false
            else
              bif decide ((((List.length t7) + (List.length ((List.getD t42 (Int.toNat t44) (((0 : Int), ((0 : Int), (ByteArray.empty, ()))), ((0 : Int), ([], ())))) :: ([] : List ((Int × (Int × (ByteArray × Unit))) × (Int × ((List (Int × (Int × (ByteArray × Unit)))) × Unit))))))) * 64) ≤ 140737488351232) then
              bif (Go.Inc.okRPast t0 (t7 ++ ((List.getD t42 (Int.toNat t44) (((0 : Int), ((0 : Int), (ByteArray.empty, ()))), ((0 : Int), ([], ())))) :: ([] : List ((Int × (Int × (ByteArray × Unit))) × (Int × ((List (Int × (Int × (ByteArray × Unit)))) × Unit))))))) then
              bif (Go.Inc.okSS ((Go.Inc.regStep (b5a, ((b5ba, (b5bba, (b5bbba, ()))), (b5bbbba, (b5bbbbba, ())))) ((List.getD t42 (Int.toNat t44) (((0 : Int), ((0 : Int), (ByteArray.empty, ()))), ((0 : Int), ([], ())))).1) (((List.getD t42 (Int.toNat t44) (((0 : Int), ((0 : Int), (ByteArray.empty, ()))), ((0 : Int), ([], ())))).2).1) ((((List.getD t42 (Int.toNat t44) (((0 : Int), ((0 : Int), (ByteArray.empty, ()))), ((0 : Int), ([], ())))).2).2).1)).1) (Go.Inc.regState t0 (t7 ++ ((List.getD t42 (Int.toNat t44) (((0 : Int), ((0 : Int), (ByteArray.empty, ()))), ((0 : Int), ([], ())))) :: ([] : List ((Int × (Int × (ByteArray × Unit))) × (Int × ((List (Int × (Int × (ByteArray × Unit)))) × Unit)))))))) then
              bif (!(Go.Inc.sameS ((Go.Inc.regStep (b5a, ((b5ba, (b5bba, (b5bbba, ()))), (b5bbbba, (b5bbbbba, ())))) ((List.getD t42 (Int.toNat t44) (((0 : Int), ((0 : Int), (ByteArray.empty, ()))), ((0 : Int), ([], ())))).1) (((List.getD t42 (Int.toNat t44) (((0 : Int), ((0 : Int), (ByteArray.empty, ()))), ((0 : Int), ([], ())))).2).1) ((((List.getD t42 (Int.toNat t44) (((0 : Int), ((0 : Int), (ByteArray.empty, ()))), ((0 : Int), ([], ())))).2).2).1)).1) (Go.Inc.regState t0 (t7 ++ ((List.getD t42 (Int.toNat t44) (((0 : Int), ((0 : Int), (ByteArray.empty, ()))), ((0 : Int), ([], ())))) :: ([] : List ((Int × (Int × (ByteArray × Unit))) × (Int × ((List (Int × (Int × (ByteArray × Unit)))) × Unit))))))))) then
              x0 false
            else
              W3_12 N x0 x1 n t0 (((Go.Inc.regStep (b5a, ((b5ba, (b5bba, (b5bbba, ()))), (b5bbbba, (b5bbbbba, ())))) ((List.getD t42 (Int.toNat t44) (((0 : Int), ((0 : Int), (ByteArray.empty, ()))), ((0 : Int), ([], ())))).1) (((List.getD t42 (Int.toNat t44) (((0 : Int), ((0 : Int), (ByteArray.empty, ()))), ((0 : Int), ([], ())))).2).1) ((((List.getD t42 (Int.toNat t44) (((0 : Int), ((0 : Int), (ByteArray.empty, ()))), ((0 : Int), ([], ())))).2).2).1)).1).1) (((((Go.Inc.regStep (b5a, ((b5ba, (b5bba, (b5bbba, ()))), (b5bbbba, (b5bbbbba, ())))) ((List.getD t42 (Int.toNat t44) (((0 : Int), ((0 : Int), (ByteArray.empty, ()))), ((0 : Int), ([], ())))).1) (((List.getD t42 (Int.toNat t44) (((0 : Int), ((0 : Int), (ByteArray.empty, ()))), ((0 : Int), ([], ())))).2).1) ((((List.getD t42 (Int.toNat t44) (((0 : Int), ((0 : Int), (ByteArray.empty, ()))), ((0 : Int), ([], ())))).2).2).1)).1).2).1).1) ((((((Go.Inc.regStep (b5a, ((b5ba, (b5bba, (b5bbba, ()))), (b5bbbba, (b5bbbbba, ())))) ((List.getD t42 (Int.toNat t44) (((0 : Int), ((0 : Int), (ByteArray.empty, ()))), ((0 : Int), ([], ())))).1) (((List.getD t42 (Int.toNat t44) (((0 : Int), ((0 : Int), (ByteArray.empty, ()))), ((0 : Int), ([], ())))).2).1) ((((List.getD t42 (Int.toNat t44) (((0 : Int), ((0 : Int), (ByteArray.empty, ()))), ((0 : Int), ([], ())))).2).2).1)).1).2).1).2).1) (((((((Go.Inc.regStep (b5a, ((b5ba, (b5bba, (b5bbba, ()))), (b5bbbba, (b5bbbbba, ())))) ((List.getD t42 (Int.toNat t44) (((0 : Int), ((0 : Int), (ByteArray.empty, ()))), ((0 : Int), ([], ())))).1) (((List.getD t42 (Int.toNat t44) (((0 : Int), ((0 : Int), (ByteArray.empty, ()))), ((0 : Int), ([], ())))).2).1) ((((List.getD t42 (Int.toNat t44) (((0 : Int), ((0 : Int), (ByteArray.empty, ()))), ((0 : Int), ([], ())))).2).2).1)).1).2).1).2).2).1) (((((Go.Inc.regStep (b5a, ((b5ba, (b5bba, (b5bbba, ()))), (b5bbbba, (b5bbbbba, ())))) ((List.getD t42 (Int.toNat t44) (((0 : Int), ((0 : Int), (ByteArray.empty, ()))), ((0 : Int), ([], ())))).1) (((List.getD t42 (Int.toNat t44) (((0 : Int), ((0 : Int), (ByteArray.empty, ()))), ((0 : Int), ([], ())))).2).1) ((((List.getD t42 (Int.toNat t44) (((0 : Int), ((0 : Int), (ByteArray.empty, ()))), ((0 : Int), ([], ())))).2).2).1)).1).2).2).1) ((((((Go.Inc.regStep (b5a, ((b5ba, (b5bba, (b5bbba, ()))), (b5bbbba, (b5bbbbba, ())))) ((List.getD t42 (Int.toNat t44) (((0 : Int), ((0 : Int), (ByteArray.empty, ()))), ((0 : Int), ([], ())))).1) (((List.getD t42 (Int.toNat t44) (((0 : Int), ((0 : Int), (ByteArray.empty, ()))), ((0 : Int), ([], ())))).2).1) ((((List.getD t42 (Int.toNat t44) (((0 : Int), ((0 : Int), (ByteArray.empty, ()))), ((0 : Int), ([], ())))).2).2).1)).1).2).2).2).1) (t7 ++ ((List.getD t42 (Int.toNat t44) (((0 : Int), ((0 : Int), (ByteArray.empty, ()))), ((0 : Int), ([], ())))) :: ([] : List ((Int × (Int × (ByteArray × Unit))) × (Int × ((List (Int × (Int × (ByteArray × Unit)))) × Unit)))))) t42 t43 (Go.IntKind.wrap .i64 (t44 + (1 : Int)))
            else
              none
            else
              none
            else
              none
            else
              none
            else
              none
        else
          none
      else
        none
    else
      none
  else
    x1 ()
def L3 (N : Nat) : Loops (Bool × Unit) := fun k ρ K => match Nat.beq k 12 with
  | true => (match adH ρ H3_12.hd with
    | some v => W3_12 N (fun t4 => K .ret (encH [(8, .bo)] (t4, ()))) (fun _ => K (.exit 0) (encH [] ())) N v.1 v.2.2.1.1 v.2.2.1.2.1 v.2.2.1.2.2.1 v.2.2.1.2.2.2.1 v.2.2.1.2.2.2.2.1 v.2.2.1.2.2.2.2.2.1 v.2.2.2.1 v.2.2.2.2.1 v.2.2.2.2.2.1 v.2.2.2.2.2.2.1
    | none => none)
  | false => none
def F3 (N : Nat) (p0 : Int) (p1 : List ((Int × Int × ByteArray × Unit) × Int × (List (Int × Int × ByteArray × Unit)) × Unit)) : Option (Bool × Unit) :=
  bif (!((((Go.Inc.regNew p0).2).1) == (Go.Inc.regOwn p0))) then
    some (false, ())
  else
    bif (!(((Go.Inc.regNew p0).2).1)) then
      bif (Go.Inc.okSS ((Go.Inc.regNew p0).1) ((0 : Int), (((0 : Int), ((0 : Int), (ByteArray.empty, ()))), ((0 : Int), (([] : List (Int × (Int × (ByteArray × Unit)))), ()))))) then
        bif (Go.Inc.sameS ((Go.Inc.regNew p0).1) ((0 : Int), (((0 : Int), ((0 : Int), (ByteArray.empty, ()))), ((0 : Int), (([] : List (Int × (Int × (ByteArray × Unit)))), ()))))) then
          some (true, ())
        else
          some ((Go.Inc.regNew p0).2)
      else
        none
    else
      bif (Go.Inc.okDs p1) then
        bif (Go.Inc.greatD p1) then
          bif (Go.Inc.okSS ((Go.Inc.regNew p0).1) ((0 : Int), (((0 : Int), ((0 : Int), (ByteArray.empty, ()))), ((0 : Int), (([] : List (Int × (Int × (ByteArray × Unit)))), ()))))) then
            bif (Go.Inc.sameS ((Go.Inc.regNew p0).1) ((0 : Int), (((0 : Int), ((0 : Int), (ByteArray.empty, ()))), ((0 : Int), (([] : List (Int × (Int × (ByteArray × Unit)))), ()))))) then
              some (true, ())
            else
              some ((Go.Inc.regNew p0).2)
          else
            none
        else
          bif (Go.Inc.okSS ((Go.Inc.regNew p0).1) (Go.Inc.regState p0 ([] : List ((Int × (Int × (ByteArray × Unit))) × (Int × ((List (Int × (Int × (ByteArray × Unit)))) × Unit)))))) then
            bif (!(Go.Inc.sameS ((Go.Inc.regNew p0).1) (Go.Inc.regState p0 ([] : List ((Int × (Int × (ByteArray × Unit))) × (Int × ((List (Int × (Int × (ByteArray × Unit)))) × Unit))))))) then
              some (false, ())
            else
              W3_12 N
              (fun t4 =>
                some (t4, ()))
              (fun (_ : Unit) =>
                some (true, ()))
              N p0 (((Go.Inc.regNew p0).1).1) (((((Go.Inc.regNew p0).1).2).1).1) ((((((Go.Inc.regNew p0).1).2).1).2).1) (((((((Go.Inc.regNew p0).1).2).1).2).2).1) (((((Go.Inc.regNew p0).1).2).2).1) ((((((Go.Inc.regNew p0).1).2).2).2).1) ([] : List ((Int × (Int × (ByteArray × Unit))) × (Int × ((List (Int × (Int × (ByteArray × Unit)))) × Unit)))) p1 (((List.length p1) : Nat) : Int) (0 : Int)
          else
            none
      else
        none
theorem loops3 (N : Nat) : loopsOk C3 (L3 N) Go.Proofs.Tryd.f3 := ⟨trivial, ⟨⟨trivial, ⟨⟨trivial, trivial⟩, trivial⟩⟩, ⟨trivial, ⟨⟨trivial, ⟨⟨trivial, trivial⟩, trivial⟩⟩, ⟨⟨trivial, ⟨⟨trivial, trivial⟩, trivial⟩⟩, ⟨trivial, ⟨⟨trivial, ⟨⟨trivial, trivial⟩, trivial⟩⟩, ⟨⟨trivial, ⟨loopOk_of H3_12 N (fun K n v => W3_12 N (fun t4 => K .ret (encH [(8, .bo)] (t4, ()))) (fun _ => K (.exit 0) (encH [] ())) n v.1 v.2.2.1.1 v.2.2.1.2.1 v.2.2.1.2.2.1 v.2.2.1.2.2.2.1 v.2.2.1.2.2.2.2.1 v.2.2.1.2.2.2.2.2.1 v.2.2.2.1 v.2.2.2.2.1 v.2.2.2.2.2.1 v.2.2.2.2.2.2.1) (by kernel_rfl) (fun K v => by kernel_rfl) (fun K v => by kernel_rfl) (fun K n v => by kernel_rfl), ⟨trivial, ⟨⟨trivial, trivial⟩, ⟨⟨trivial, ⟨trivial, ⟨⟨trivial, ⟨⟨trivial, trivial⟩, trivial⟩⟩, ⟨⟨trivial, ⟨⟨⟨trivial, ⟨⟨trivial, trivial⟩, trivial⟩⟩, trivial⟩, trivial⟩⟩, ⟨⟨trivial, ⟨⟨trivial, trivial⟩, trivial⟩⟩, ⟨trivial, ⟨trivial, ⟨trivial, ⟨⟨trivial, trivial⟩, trivial⟩⟩⟩⟩⟩⟩⟩⟩⟩, trivial⟩⟩⟩⟩⟩, ⟨trivial, trivial⟩⟩⟩⟩⟩⟩⟩⟩⟩
theorem runs3 (N : Nat) (x : S3.ta.den) : run C3 S3 (L3 N) Go.Proofs.Tryd.f3 x = F3 N x.1 x.2.1 := by kernel_rfl


end Go.L13
