/- The walks of package reg and its statements. Printed by a program of this session. -/
import Derived.Test.YtmodjpjeepobpaaDoorW0
set_option linter.unusedVariables false
set_option maxRecDepth 100000
namespace Go.L13
open Go Go.Abs Go.Inc

/-! ### 41: incognito/value.IsWord -/
def W41_4 {β : Type} (N : Nat) (x0 : Bool → Option β) (x1 : Unit → Option β) : Nat → ByteArray → Int → Int → Option β
  | 0, _, _, _ => none
  | n + 1, t0, t23, t24 =>
  bif decide (t24 < t23) then
    bif ((decide ((0 : Int) ≤ t24)) && (decide (t24 < (((ByteArray.size t0) : Nat) : Int)))) then
      bif decide ((((UInt8.toNat (List.getD (Array.toList (ByteArray.data t0)) (Int.toNat t24) (0 : UInt8))) : Nat) : Int) ≥ (97 : Int)) then
        bif decide ((((UInt8.toNat (List.getD (Array.toList (ByteArray.data t0)) (Int.toNat t24) (0 : UInt8))) : Nat) : Int) ≤ (122 : Int)) then
          W41_4 N x0 x1 n t0 t23 (Go.IntKind.wrap .i64 (t24 + (1 : Int)))
        else
          bif decide ((((UInt8.toNat (List.getD (Array.toList (ByteArray.data t0)) (Int.toNat t24) (0 : UInt8))) : Nat) : Int) ≥ (48 : Int)) then
            bif decide ((((UInt8.toNat (List.getD (Array.toList (ByteArray.data t0)) (Int.toNat t24) (0 : UInt8))) : Nat) : Int) ≤ (57 : Int)) then
              W41_4 N x0 x1 n t0 t23 (Go.IntKind.wrap .i64 (t24 + (1 : Int)))
            else
              bif (!((((UInt8.toNat (List.getD (Array.toList (ByteArray.data t0)) (Int.toNat t24) (0 : UInt8))) : Nat) : Int) == (95 : Int))) then
              x0 false
            else
              W41_4 N x0 x1 n t0 t23 (Go.IntKind.wrap .i64 (t24 + (1 : Int)))
          else
            bif (!((((UInt8.toNat (List.getD (Array.toList (ByteArray.data t0)) (Int.toNat t24) (0 : UInt8))) : Nat) : Int) == (95 : Int))) then
              x0 false
            else
              W41_4 N x0 x1 n t0 t23 (Go.IntKind.wrap .i64 (t24 + (1 : Int)))
      else
        bif decide ((((UInt8.toNat (List.getD (Array.toList (ByteArray.data t0)) (Int.toNat t24) (0 : UInt8))) : Nat) : Int) ≥ (48 : Int)) then
          bif decide ((((UInt8.toNat (List.getD (Array.toList (ByteArray.data t0)) (Int.toNat t24) (0 : UInt8))) : Nat) : Int) ≤ (57 : Int)) then
            W41_4 N x0 x1 n t0 t23 (Go.IntKind.wrap .i64 (t24 + (1 : Int)))
          else
            bif (!((((UInt8.toNat (List.getD (Array.toList (ByteArray.data t0)) (Int.toNat t24) (0 : UInt8))) : Nat) : Int) == (95 : Int))) then
              x0 false
            else
              W41_4 N x0 x1 n t0 t23 (Go.IntKind.wrap .i64 (t24 + (1 : Int)))
        else
          bif (!((((UInt8.toNat (List.getD (Array.toList (ByteArray.data t0)) (Int.toNat t24) (0 : UInt8))) : Nat) : Int) == (95 : Int))) then
            x0 false
          else
            W41_4 N x0 x1 n t0 t23 (Go.IntKind.wrap .i64 (t24 + (1 : Int)))
    else
      none
  else
    x1 ()
def L41 (N : Nat) : Loops (Bool × Unit) := fun k ρ K => match Nat.beq k 4 with
  | true => (match adH ρ H41_4.hd with
    | some v => W41_4 N (fun t2 => K .ret (encH [(4, .bo)] (t2, ()))) (fun _ => K (.exit 0) (encH [] ())) N v.1 v.2.1 v.2.2.1
    | none => none)
  | false => none
def F41 (N : Nat) (p0 : ByteArray) : Option (Bool × Unit) :=
  bif ((ByteArray.toList p0) == (ByteArray.toList (strL []))) then
    some (false, ())
  else
    bif decide ((((ByteArray.size p0) : Nat) : Int) > (40 : Int)) then
      some (false, ())
    else
      bif ((decide ((0 : Int) ≤ (0 : Int))) && (decide ((0 : Int) < (((ByteArray.size p0) : Nat) : Int)))) then
        bif decide ((((UInt8.toNat (List.getD (Array.toList (ByteArray.data p0)) (Int.toNat (0 : Int)) (0 : UInt8))) : Nat) : Int) < (97 : Int)) then
          some (false, ())
        else
          bif ((decide ((0 : Int) ≤ (0 : Int))) && (decide ((0 : Int) < (((ByteArray.size p0) : Nat) : Int)))) then
            bif decide ((((UInt8.toNat (List.getD (Array.toList (ByteArray.data p0)) (Int.toNat (0 : Int)) (0 : UInt8))) : Nat) : Int) > (122 : Int)) then
              some (false, ())
            else
              W41_4 N
              (fun t2 =>
                some (t2, ()))
              (fun (_ : Unit) =>
                some (true, ()))
              N p0 (((ByteArray.size p0) : Nat) : Int) (0 : Int)
          else
            none
      else
        none
theorem loops41 (N : Nat) : loopsOk C41 (L41 N) Go.Proofs.Tryd.f41 := ⟨trivial, ⟨⟨trivial, ⟨⟨trivial, trivial⟩, trivial⟩⟩, ⟨⟨trivial, ⟨loopOk_of H41_4 N (fun K n v => W41_4 N (fun t2 => K .ret (encH [(4, .bo)] (t2, ()))) (fun _ => K (.exit 0) (encH [] ())) n v.1 v.2.1 v.2.2.1) (by kernel_rfl) (fun K v => by kernel_rfl) (fun K v => by kernel_rfl) (fun K n v => by kernel_rfl), ⟨trivial, ⟨⟨trivial, trivial⟩, ⟨⟨trivial, ⟨trivial, ⟨trivial, ⟨⟨trivial, trivial⟩, trivial⟩⟩⟩⟩, trivial⟩⟩⟩⟩⟩, ⟨trivial, trivial⟩⟩⟩⟩
theorem runs41 (N : Nat) (x : S41.ta.den) : run C41 S41 (L41 N) Go.Proofs.Tryd.f41 x = F41 N x.1 := by kernel_rfl

/-! ### 33: incognito/value.Right -/
def L33 (_ : Nat) : Loops (Bool × Unit) := fun _ _ _ => none
def F33 (N : Nat) (p0 : Int × Int × ByteArray × Unit) : Option (Bool × Unit) :=
  bif (p0.1 == (0 : Int)) then
    some (((p0.1 == (0 : Int)) && ((p0.2.1 == (0 : Int)) && ((p0.2.2.1 == ByteArray.empty) && true))), ())
  else
    bif (p0.1 == (1 : Int)) then
      some (((ByteArray.toList p0.2.2.1) == (ByteArray.toList (strL []))), ())
    else
      bif (p0.1 == (2 : Int)) then
        bif (p0.2.1 == (0 : Int)) then
          bif (Go.Inc.okS p0.2.2.1) then
            some ((Go.Inc.isWord p0.2.2.1), ())
          else
            none
        else
          some (false, ())
      else
        bif ((p0.1 == (3 : Int)) && ((p0.2.1 == (1 : Int)) && ((p0.2.2.1 == ByteArray.empty) && true))) then
          some (true, ())
        else
          some (((p0.1 == (3 : Int)) && ((p0.2.1 == (0 : Int)) && ((p0.2.2.1 == ByteArray.empty) && true))), ())
theorem loops33 (N : Nat) : loopsOk C33 (L33 N) Go.Proofs.Tryd.f33 := ⟨trivial, ⟨⟨trivial, ⟨trivial, ⟨⟨trivial, trivial⟩, ⟨trivial, ⟨⟨trivial, trivial⟩, ⟨trivial, ⟨⟨trivial, trivial⟩, trivial⟩⟩⟩⟩⟩⟩⟩, ⟨trivial, trivial⟩⟩⟩
theorem runs33 (N : Nat) (x : S33.ta.den) : run C33 S33 (L33 N) Go.Proofs.Tryd.f33 x = F33 N x.1 := by kernel_rfl

/-! ### 40: incognito/sign.find$1 -/
def L40 (_ : Nat) : Loops (HS.den X40.hout) := fun _ _ _ => none
def F40 (N : Nat) (t0a : Int) (t0ba : Int) (t0bba : ByteArray) (t0bbba : Int) (t0bbbba : Bool) (b1000a : Int) (b1001a : Int) : Option (HS.den X40.hout) :=
  bif (t0a == b1000a) then
    some ((t0ba == b1001a), ((b1000a, ()), ((b1001a, ()), ())))
  else
    some (false, ((b1000a, ()), ((b1001a, ()), ())))
theorem loops40 (N : Nat) : loopsOk C40 (L40 N) Go.Proofs.Tryd.f40 := ⟨trivial, ⟨trivial, trivial⟩⟩
theorem runs40 (N : Nat) (x : HS.den X40.hin) : runX C40 X40 (L40 N) Go.Proofs.Tryd.f40 x = F40 N x.1.1 x.1.2.1 x.1.2.2.1 x.1.2.2.2.1 x.1.2.2.2.2.1 x.2.2.2.1.1 x.2.2.2.2.1.1 := by kernel_rfl

/-! ### 42: incognito/sign.domain -/
def L42 (_ : Nat) : Loops (Int × Unit) := fun _ _ _ => none
def F42 (N : Nat) (p0 : Int) : Option (Int × Unit) :=
  bif (p0 == (118 : Int)) then
    some ((2 : Int), ())
  else
    bif (p0 == (102 : Int)) then
      some ((3 : Int), ())
    else
      bif (p0 == (111 : Int)) then
        some ((4 : Int), ())
      else
        some ((5 : Int), ())
theorem loops42 (N : Nat) : loopsOk C42 (L42 N) Go.Proofs.Tryd.f42 := ⟨trivial, ⟨⟨trivial, ⟨trivial, ⟨⟨trivial, trivial⟩, ⟨trivial, ⟨⟨trivial, trivial⟩, ⟨trivial, ⟨⟨trivial, trivial⟩, trivial⟩⟩⟩⟩⟩⟩⟩, ⟨trivial, trivial⟩⟩⟩
theorem runs42 (N : Nat) (x : S42.ta.den) : run C42 S42 (L42 N) Go.Proofs.Tryd.f42 x = F42 N x.1 := by kernel_rfl

/-! ### 24x: (*incognito/reg.cell).write -/
def L24x (_ : Nat) : Loops (HS.den X24x.hout) := fun _ _ _ => none
def F24x (N : Nat) (t1 : List (Int × Int × ByteArray × Unit)) (b1000a : Int) (b1000ba : Int) (b1000bba : Int) (b1000bbba : ByteArray) (b1000bbbba : Int) (b1000bbbbba : List (Int × Int × ByteArray × Unit)) : Option (HS.den X24x.hout) :=
  bif ((decide ((0 : Int) ≤ (0 : Int))) && (decide ((0 : Int) < (((List.length t1) : Nat) : Int)))) then
    some (0, ((b1000a, ((List.getD t1 (Int.toNat (0 : Int)) ((0 : Int), ((0 : Int), (ByteArray.empty, ())))).1, (((List.getD t1 (Int.toNat (0 : Int)) ((0 : Int), ((0 : Int), (ByteArray.empty, ())))).2).1, ((((List.getD t1 (Int.toNat (0 : Int)) ((0 : Int), ((0 : Int), (ByteArray.empty, ())))).2).2).1, (b1000bbbba, (b1000bbbbba, ())))))), (([] : List (Int × (Int × (ByteArray × Unit)))), ())))
  else
    none
theorem loops24x (N : Nat) : loopsOk C24x (L24x N) Go.Proofs.Tryd.f24 := ⟨trivial, ⟨trivial, ⟨trivial, trivial⟩⟩⟩
theorem runs24x (N : Nat) (x : HS.den X24x.hin) : runX C24x X24x (L24x N) Go.Proofs.Tryd.f24 x = F24x N x.2.1 x.2.2.1.1 x.2.2.1.2.1 x.2.2.1.2.2.1 x.2.2.1.2.2.2.1 x.2.2.1.2.2.2.2.1 x.2.2.1.2.2.2.2.2.1 := by kernel_rfl

/-! ### 26: (*incognito/reg.cell).swap -/
def L26 (_ : Nat) : Loops (HS.den X26.hout) := fun _ _ _ => none
def F26 (N : Nat) (t1 : List (Int × Int × ByteArray × Unit)) (b1000a : Int) (b1000ba : Int) (b1000bba : Int) (b1000bbba : ByteArray) (b1000bbbba : Int) (b1000bbbbba : List (Int × Int × ByteArray × Unit)) : Option (HS.den X26.hout) :=
  bif ((decide ((0 : Int) ≤ (0 : Int))) && (decide ((0 : Int) < (((List.length t1) : Nat) : Int)))) then
    bif (!((b1000ba == ((List.getD t1 (Int.toNat (0 : Int)) ((0 : Int), ((0 : Int), (ByteArray.empty, ())))).1)) && ((b1000bba == (((List.getD t1 (Int.toNat (0 : Int)) ((0 : Int), ((0 : Int), (ByteArray.empty, ())))).2).1)) && ((b1000bbba == ((((List.getD t1 (Int.toNat (0 : Int)) ((0 : Int), ((0 : Int), (ByteArray.empty, ())))).2).2).1)) && true)))) then
      some ((((3 : Int), ((0 : Int), (ByteArray.empty, ()))) :: ([] : List (Int × (Int × (ByteArray × Unit))))), ((b1000a, (b1000ba, (b1000bba, (b1000bbba, (b1000bbbba, (b1000bbbbba, ())))))), ()))
    else
      bif ((decide ((0 : Int) ≤ (1 : Int))) && (decide ((1 : Int) < (((List.length t1) : Nat) : Int)))) then
        some ((((3 : Int), ((1 : Int), (ByteArray.empty, ()))) :: ([] : List (Int × (Int × (ByteArray × Unit))))), ((b1000a, ((List.getD t1 (Int.toNat (1 : Int)) ((0 : Int), ((0 : Int), (ByteArray.empty, ())))).1, (((List.getD t1 (Int.toNat (1 : Int)) ((0 : Int), ((0 : Int), (ByteArray.empty, ())))).2).1, ((((List.getD t1 (Int.toNat (1 : Int)) ((0 : Int), ((0 : Int), (ByteArray.empty, ())))).2).2).1, (b1000bbbba, (b1000bbbbba, ())))))), ()))
      else
        none
  else
    none
theorem loops26 (N : Nat) : loopsOk C26 (L26 N) Go.Proofs.Tryd.f26 := ⟨trivial, ⟨⟨trivial, ⟨⟨trivial, trivial⟩, trivial⟩⟩, ⟨trivial, ⟨trivial, trivial⟩⟩⟩⟩
theorem runs26 (N : Nat) (x : HS.den X26.hin) : runX C26 X26 (L26 N) Go.Proofs.Tryd.f26 x = F26 N x.2.1 x.2.2.1.1 x.2.2.1.2.1 x.2.2.1.2.2.1 x.2.2.1.2.2.2.1 x.2.2.1.2.2.2.2.1 x.2.2.1.2.2.2.2.2.1 := by kernel_rfl

/-! ### 43: cmp.Or[int] -/
def W43_3 {β : Type} (N : Nat) (x0 : Int → Option β) (x1 : Int → Option β) : Nat → Int → (List Int) → Int → Int → Option β
  | 0, _, _, _, _ => none
  | n + 1, t3, t6, t7, t8 =>
  bif decide (t8 < t7) then
    bif ((decide ((0 : Int) ≤ t8)) && (decide (t8 < (((List.length t6) : Nat) : Int)))) then
      bif ((List.getD t6 (Int.toNat t8) (0 : Int)) != t3) then
        x0 (List.getD t6 (Int.toNat t8) (0 : Int))
      else
        W43_3 N x0 x1 n t3 t6 t7 (Go.IntKind.wrap .i64 (t8 + (1 : Int)))
    else
      none
  else
    x1 t3
def L43 (N : Nat) : Loops (Int × Unit) := fun k ρ K => match Nat.beq k 3 with
  | true => (match adH ρ H43_3.hd with
    | some v => W43_3 N (fun t2 => K .ret (encH [(4, (.i .i64))] (t2, ()))) (fun t3 => K (.exit 0) (encH [(6, (.i .i64))] (t3, ()))) N v.1 v.2.1 v.2.2.1 v.2.2.2.1
    | none => none)
  | false => none
def F43 (N : Nat) (p0 : List Int) : Option (Int × Unit) :=
  W43_3 N
    (fun t2 =>
      some (t2, ()))
    (fun t3 =>
      some (t3, ()))
    N (0 : Int) p0 (((List.length p0) : Nat) : Int) (0 : Int)
theorem loops43 (N : Nat) : loopsOk C43 (L43 N) Go.Proofs.Tryd.f43 := ⟨trivial, ⟨trivial, ⟨⟨trivial, ⟨loopOk_of H43_3 N (fun K n v => W43_3 N (fun t2 => K .ret (encH [(4, (.i .i64))] (t2, ()))) (fun t3 => K (.exit 0) (encH [(6, (.i .i64))] (t3, ()))) n v.1 v.2.1 v.2.2.1 v.2.2.2.1) (by kernel_rfl) (fun K v => by kernel_rfl) (fun K v => by kernel_rfl) (fun K n v => by kernel_rfl), ⟨trivial, ⟨⟨trivial, trivial⟩, ⟨⟨trivial, ⟨trivial, ⟨⟨trivial, trivial⟩, trivial⟩⟩⟩, trivial⟩⟩⟩⟩⟩, ⟨trivial, trivial⟩⟩⟩⟩
theorem runs43 (N : Nat) (x : S43.ta.den) : run C43 S43 (L43 N) Go.Proofs.Tryd.f43 x = F43 N x.1 := by kernel_rfl

/-! ### 44: cmp.Compare[int] -/
def L44 (_ : Nat) : Loops (Int × Unit) := fun _ _ _ => none
def F44 (N : Nat) (p0 : Int) (p1 : Int) : Option (Int × Unit) :=
  bif decide (p0 < p1) then
    some ((-(1 : Int)), ())
  else
    bif decide (p0 > p1) then
      some ((1 : Int), ())
    else
      some ((0 : Int), ())
theorem loops44 (N : Nat) : loopsOk C44 (L44 N) Go.Proofs.Tryd.f44 := ⟨trivial, ⟨trivial, ⟨trivial, ⟨⟨trivial, ⟨⟨⟨trivial, ⟨⟨trivial, trivial⟩, trivial⟩⟩, ⟨trivial, trivial⟩⟩, trivial⟩⟩, ⟨⟨trivial, ⟨⟨trivial, trivial⟩, trivial⟩⟩, ⟨⟨trivial, ⟨⟨trivial, trivial⟩, trivial⟩⟩, ⟨⟨trivial, ⟨⟨trivial, trivial⟩, trivial⟩⟩, ⟨trivial, trivial⟩⟩⟩⟩⟩⟩⟩⟩
theorem runs44 (N : Nat) (x : S44.ta.den) : run C44 S44 (L44 N) Go.Proofs.Tryd.f44 x = F44 N x.1 x.2.1 := by kernel_rfl

/-! ### 51: cmp.isNaN[int64] -/
def L51 (_ : Nat) : Loops (Bool × Unit) := fun _ _ _ => none
def F51 (N : Nat) (p0 : Int) : Option (Bool × Unit) :=
  some ((p0 != p0), ())
theorem loops51 (N : Nat) : loopsOk C51 (L51 N) Go.Proofs.Tryd.f51 := ⟨trivial, ⟨trivial, trivial⟩⟩
theorem runs51 (N : Nat) (x : S51.ta.den) : run C51 S51 (L51 N) Go.Proofs.Tryd.f51 x = F51 N x.1 := by kernel_rfl

/-! ### 35: incognito/value.Compare -/
def L35 (_ : Nat) : Loops (Int × Unit) := fun _ _ _ => none
def F35 (N : Nat) (p0 : Int × Int × ByteArray × Unit) (p1 : Int × Int × ByteArray × Unit) : Option (Int × Unit) :=
  some ((Go.Inc.orI ((Go.Inc.cmpI p0.1 p1.1) :: ((Go.Inc.cmpI p0.2.1 p1.2.1) :: ((Go.Abs.cmpS p0.2.2.1 p1.2.2.1) :: ([] : List Int))))), ())
theorem loops35 (N : Nat) : loopsOk C35 (L35 N) Go.Proofs.Tryd.f35 := ⟨trivial, ⟨trivial, trivial⟩⟩
theorem runs35 (N : Nat) (x : S35.ta.den) : run C35 S35 (L35 N) Go.Proofs.Tryd.f35 x = F35 N x.1 x.2.1 := by kernel_rfl

/-! ### 27x: (*incognito/reg.cell).raise -/
def L27x (_ : Nat) : Loops (HS.den X27x.hout) := fun _ _ _ => none
def F27x (N : Nat) (t1 : List (Int × Int × ByteArray × Unit)) (b1000a : Int) (b1000ba : Int) (b1000bba : Int) (b1000bbba : ByteArray) (b1000bbbba : Int) (b1000bbbbba : List (Int × Int × ByteArray × Unit)) : Option (HS.den X27x.hout) :=
  bif ((b1000ba == (0 : Int)) && ((b1000bba == (0 : Int)) && ((b1000bbba == ByteArray.empty) && true))) then
    bif ((decide ((0 : Int) ≤ (0 : Int))) && (decide ((0 : Int) < (((List.length t1) : Nat) : Int)))) then
      some (0, ((b1000a, ((List.getD t1 (Int.toNat (0 : Int)) ((0 : Int), ((0 : Int), (ByteArray.empty, ())))).1, (((List.getD t1 (Int.toNat (0 : Int)) ((0 : Int), ((0 : Int), (ByteArray.empty, ())))).2).1, ((((List.getD t1 (Int.toNat (0 : Int)) ((0 : Int), ((0 : Int), (ByteArray.empty, ())))).2).2).1, (b1000bbbba, (b1000bbbbba, ())))))), (([] : List (Int × (Int × (ByteArray × Unit)))), ())))
    else
      none
  else
    bif ((decide ((0 : Int) ≤ (0 : Int))) && (decide ((0 : Int) < (((List.length t1) : Nat) : Int)))) then
      bif decide ((Go.Inc.cmpV (List.getD t1 (Int.toNat (0 : Int)) ((0 : Int), ((0 : Int), (ByteArray.empty, ())))) (b1000ba, (b1000bba, (b1000bbba, ())))) > (0 : Int)) then
        bif ((decide ((0 : Int) ≤ (0 : Int))) && (decide ((0 : Int) < (((List.length t1) : Nat) : Int)))) then
          some (0, ((b1000a, ((List.getD t1 (Int.toNat (0 : Int)) ((0 : Int), ((0 : Int), (ByteArray.empty, ())))).1, (((List.getD t1 (Int.toNat (0 : Int)) ((0 : Int), ((0 : Int), (ByteArray.empty, ())))).2).1, ((((List.getD t1 (Int.toNat (0 : Int)) ((0 : Int), ((0 : Int), (ByteArray.empty, ())))).2).2).1, (b1000bbbba, (b1000bbbbba, ())))))), (([] : List (Int × (Int × (ByteArray × Unit)))), ())))
        else
          none
      else
        some (0, ((b1000a, (b1000ba, (b1000bba, (b1000bbba, (b1000bbbba, (b1000bbbbba, ())))))), (([] : List (Int × (Int × (ByteArray × Unit)))), ())))
    else
      none
theorem loops27x (N : Nat) : loopsOk C27x (L27x N) Go.Proofs.Tryd.f27 := ⟨trivial, ⟨⟨trivial, ⟨trivial, trivial⟩⟩, ⟨trivial, trivial⟩⟩⟩
theorem runs27x (N : Nat) (x : HS.den X27x.hin) : runX C27x X27x (L27x N) Go.Proofs.Tryd.f27 x = F27x N x.2.1 x.2.2.1.1 x.2.2.1.2.1 x.2.2.1.2.2.1 x.2.2.1.2.2.2.1 x.2.2.1.2.2.2.2.1 x.2.2.1.2.2.2.2.2.1 := by kernel_rfl

/-! ### 12x: incognito/reg.Step -/
def L12x (_ : Nat) : Loops (HS.den X12x.hout) := fun _ _ _ => none
def F12x (N : Nat) (t0a : Int) (t0baa : Int) (t0baba : Int) (t0babba : ByteArray) (t0bba : Int) (t0bbba : List (Int × Int × ByteArray × Unit)) (t1a : Int) (t1ba : Int) (t1bba : ByteArray) (t2 : Int) (t3 : List (Int × Int × ByteArray × Unit)) : Option (HS.den X12x.hout) :=
  bif (!(((Go.Inc.regNew t0a).2).1)) then
    some (((0 : Int), (((0 : Int), ((0 : Int), (ByteArray.empty, ()))), ((0 : Int), (([] : List (Int × (Int × (ByteArray × Unit)))), ())))), (0, (false, (([] : List (Int × (Int × (ByteArray × Unit)))), ()))))
  else
    bif (Go.Inc.okT (0 : Int) (t1a, (t1ba, (t1bba, ())))) then
      bif (!(Go.Inc.takes (0 : Int) (t1a, (t1ba, (t1bba, ()))))) then
        some (((0 : Int), (((0 : Int), ((0 : Int), (ByteArray.empty, ()))), ((0 : Int), (([] : List (Int × (Int × (ByteArray × Unit)))), ())))), (0, (false, (([] : List (Int × (Int × (ByteArray × Unit)))), ()))))
      else
        bif (Go.Inc.okF t0a t2 t3) then
          bif (!(Go.Inc.fits t0a t2 t3)) then
            some (((0 : Int), (((0 : Int), ((0 : Int), (ByteArray.empty, ()))), ((0 : Int), (([] : List (Int × (Int × (ByteArray × Unit)))), ())))), (0, (false, (([] : List (Int × (Int × (ByteArray × Unit)))), ()))))
          else
            bif (t2 == (2 : Int)) then
              some (((((Go.Inc.cellX (Go.Inc.cellRead t3 (t0a, (t0baa, (t0baba, (t0babba, (t0bba, (t0bbba, ())))))))).2).1).1, ((((((Go.Inc.cellX (Go.Inc.cellRead t3 (t0a, (t0baa, (t0baba, (t0babba, (t0bba, (t0bbba, ())))))))).2).1).2).1, ((((((Go.Inc.cellX (Go.Inc.cellRead t3 (t0a, (t0baa, (t0baba, (t0babba, (t0bba, (t0bbba, ())))))))).2).1).2).2).1, (((((((Go.Inc.cellX (Go.Inc.cellRead t3 (t0a, (t0baa, (t0baba, (t0babba, (t0bba, (t0bbba, ())))))))).2).1).2).2).2).1, ()))), ((((((Go.Inc.cellX (Go.Inc.cellRead t3 (t0a, (t0baa, (t0baba, (t0babba, (t0bba, (t0bbba, ())))))))).2).1).2).2).2).2)), ((Go.Inc.cellX (Go.Inc.cellRead t3 (t0a, (t0baa, (t0baba, (t0babba, (t0bba, (t0bbba, ())))))))).1, (true, ((Go.Inc.cellX (Go.Inc.cellRead t3 (t0a, (t0baa, (t0baba, (t0babba, (t0bba, (t0bbba, ())))))))).2).2)))
            else
              bif (t2 == (3 : Int)) then
              bif (Go.Inc.okCell 2 t3) then
              some (((((Go.Inc.cellX (Go.Inc.cellSwap t3 (t0a, (t0baa, (t0baba, (t0babba, (t0bba, (t0bbba, ())))))))).2).1).1, ((((((Go.Inc.cellX (Go.Inc.cellSwap t3 (t0a, (t0baa, (t0baba, (t0babba, (t0bba, (t0bbba, ())))))))).2).1).2).1, ((((((Go.Inc.cellX (Go.Inc.cellSwap t3 (t0a, (t0baa, (t0baba, (t0babba, (t0bba, (t0bbba, ())))))))).2).1).2).2).1, (((((((Go.Inc.cellX (Go.Inc.cellSwap t3 (t0a, (t0baa, (t0baba, (t0babba, (t0bba, (t0bbba, ())))))))).2).1).2).2).2).1, ()))), ((((((Go.Inc.cellX (Go.Inc.cellSwap t3 (t0a, (t0baa, (t0baba, (t0babba, (t0bba, (t0bbba, ())))))))).2).1).2).2).2).2)), ((Go.Inc.cellX (Go.Inc.cellSwap t3 (t0a, (t0baa, (t0baba, (t0babba, (t0bba, (t0bbba, ())))))))).1, (true, ((Go.Inc.cellX (Go.Inc.cellSwap t3 (t0a, (t0baa, (t0baba, (t0babba, (t0bba, (t0bbba, ())))))))).2).2)))
            else
              none
            else
              bif (t0a == (9 : Int)) then
              bif (Go.Inc.okCell 1 t3) then
              some (((((Go.Inc.cellX (Go.Inc.cellRaise t3 (t0a, (t0baa, (t0baba, (t0babba, (t0bba, (t0bbba, ())))))))).2).1).1, ((((((Go.Inc.cellX (Go.Inc.cellRaise t3 (t0a, (t0baa, (t0baba, (t0babba, (t0bba, (t0bbba, ())))))))).2).1).2).1, ((((((Go.Inc.cellX (Go.Inc.cellRaise t3 (t0a, (t0baa, (t0baba, (t0babba, (t0bba, (t0bbba, ())))))))).2).1).2).2).1, (((((((Go.Inc.cellX (Go.Inc.cellRaise t3 (t0a, (t0baa, (t0baba, (t0babba, (t0bba, (t0bbba, ())))))))).2).1).2).2).2).1, ()))), ((((((Go.Inc.cellX (Go.Inc.cellRaise t3 (t0a, (t0baa, (t0baba, (t0babba, (t0bba, (t0bbba, ())))))))).2).1).2).2).2).2)), ((Go.Inc.cellX (Go.Inc.cellRaise t3 (t0a, (t0baa, (t0baba, (t0babba, (t0bba, (t0bbba, ())))))))).1, (true, ((Go.Inc.cellX (Go.Inc.cellRaise t3 (t0a, (t0baa, (t0baba, (t0babba, (t0bba, (t0bbba, ())))))))).2).2)))
            else
              none
            else
              bif (Go.Inc.okCell 1 t3) then
              some (((((Go.Inc.cellX (Go.Inc.cellWrite t3 (t0a, (t0baa, (t0baba, (t0babba, (t0bba, (t0bbba, ())))))))).2).1).1, ((((((Go.Inc.cellX (Go.Inc.cellWrite t3 (t0a, (t0baa, (t0baba, (t0babba, (t0bba, (t0bbba, ())))))))).2).1).2).1, ((((((Go.Inc.cellX (Go.Inc.cellWrite t3 (t0a, (t0baa, (t0baba, (t0babba, (t0bba, (t0bbba, ())))))))).2).1).2).2).1, (((((((Go.Inc.cellX (Go.Inc.cellWrite t3 (t0a, (t0baa, (t0baba, (t0babba, (t0bba, (t0bbba, ())))))))).2).1).2).2).2).1, ()))), ((((((Go.Inc.cellX (Go.Inc.cellWrite t3 (t0a, (t0baa, (t0baba, (t0babba, (t0bba, (t0bbba, ())))))))).2).1).2).2).2).2)), ((Go.Inc.cellX (Go.Inc.cellWrite t3 (t0a, (t0baa, (t0baba, (t0babba, (t0bba, (t0bbba, ())))))))).1, (true, ((Go.Inc.cellX (Go.Inc.cellWrite t3 (t0a, (t0baa, (t0baba, (t0babba, (t0bba, (t0bbba, ())))))))).2).2)))
            else
              none
        else
          none
    else
      none
theorem loops12x (N : Nat) : loopsOk C12x (L12x N) Go.Proofs.Tryd.f12 := ⟨trivial, ⟨trivial, ⟨⟨trivial, ⟨⟨trivial, trivial⟩, trivial⟩⟩, ⟨trivial, ⟨trivial, ⟨⟨trivial, ⟨trivial, ⟨trivial, ⟨trivial, ⟨trivial, ⟨trivial, trivial⟩⟩⟩⟩⟩⟩, ⟨trivial, ⟨trivial, trivial⟩⟩⟩⟩⟩⟩⟩⟩
theorem runs12x (N : Nat) (x : HS.den X12x.hin) : runX C12x X12x (L12x N) Go.Proofs.Tryd.f12 x = F12x N x.1.1 x.1.2.1.1 x.1.2.1.2.1 x.1.2.1.2.2.1 x.1.2.2.1 x.1.2.2.2.1 x.2.1.1 x.2.1.2.1 x.2.1.2.2.1 x.2.2.1 x.2.2.2.1 := by kernel_rfl

/-! ### 9: incognito/incognitolaw13.great -/
def W9_7 {β : Type} (N : Nat) (x0 : Bool → Option β) (x3 : (List ((Int × Int × ByteArray × Unit) × Int × (List (Int × Int × ByteArray × Unit)) × Unit)) → (List ((Int × Int × ByteArray × Unit) × Int × (List (Int × Int × ByteArray × Unit)) × Unit)) → Int → Int → Option β) : Nat → (List ((Int × Int × ByteArray × Unit) × Int × (List (Int × Int × ByteArray × Unit)) × Unit)) → (List ((Int × Int × ByteArray × Unit) × Int × (List (Int × Int × ByteArray × Unit)) × Unit)) → Int → Int → (List (Int × Int × ByteArray × Unit)) → Int → Int → Option β
  | 0, _, _, _, _, _, _, _ => none
  | n + 1, t0, t7, t8, t9, t25, t26, t27 =>
  bif decide (t27 < t26) then
    bif ((decide ((0 : Int) ≤ t27)) && (decide (t27 < (((List.length t25) : Nat) : Int)))) then
      bif decide ((((ByteArray.size ((((List.getD t25 (Int.toNat t27) ((0 : Int), ((0 : Int), (ByteArray.empty, ())))).2).2).1)) : Nat) : Int) > (100 : Int)) then
        x0 true
      else
        W9_7 N x0 x3 n t0 t7 t8 t9 t25 t26 (Go.IntKind.wrap .i64 (t27 + (1 : Int)))
    else
      none
  else
    x3 t0 t7 t8 t9
def W9_2 {β : Type} (N : Nat) (x0 : Bool → Option β) (x1 : (List ((Int × Int × ByteArray × Unit) × Int × (List (Int × Int × ByteArray × Unit)) × Unit)) → Option β) : Nat → (List ((Int × Int × ByteArray × Unit) × Int × (List (Int × Int × ByteArray × Unit)) × Unit)) → (List ((Int × Int × ByteArray × Unit) × Int × (List (Int × Int × ByteArray × Unit)) × Unit)) → Int → Int → Option β
  | 0, _, _, _, _ => none
  | n + 1, t0, t7, t8, t9 =>
  bif decide (t9 < t8) then
    bif ((decide ((0 : Int) ≤ t9)) && (decide (t9 < (((List.length t7) : Nat) : Int)))) then
      bif decide ((((List.length ((((List.getD t7 (Int.toNat t9) (((0 : Int), ((0 : Int), (ByteArray.empty, ()))), ((0 : Int), ([], ())))).2).2).1)) : Nat) : Int) > (10 : Int)) then
        x0 true
      else
        bif decide ((((ByteArray.size (((((List.getD t7 (Int.toNat t9) (((0 : Int), ((0 : Int), (ByteArray.empty, ()))), ((0 : Int), ([], ())))).1).2).2).1)) : Nat) : Int) > (100 : Int)) then
          x0 true
        else
          W9_7 N
            (fun t2 =>
              x0 t2)
            (fun t0 t7 t8 t9 =>
              W9_2 N x0 x1 n t0 t7 t8 (Go.IntKind.wrap .i64 (t9 + (1 : Int))))
            N t0 t7 t8 t9 ((((List.getD t7 (Int.toNat t9) (((0 : Int), ((0 : Int), (ByteArray.empty, ()))), ((0 : Int), ([], ())))).2).2).1) (((List.length ((((List.getD t7 (Int.toNat t9) (((0 : Int), ((0 : Int), (ByteArray.empty, ()))), ((0 : Int), ([], ())))).2).2).1)) : Nat) : Int) (0 : Int)
    else
      none
  else
    x1 t0
def L9 (N : Nat) : Loops (Bool × Unit) := fun k ρ K => match Nat.beq k 7 with
  | true => (match adH ρ H9_7.hd with
    | some v => W9_7 N (fun t2 => K .ret (encH [(4, .bo)] (t2, ()))) (fun t0 t7 t8 t9 => K (.exit 2) (encH [(0, (.sl (.pr (.pr (.int .i64) (.pr (.int .i64) (.pr .str .un))) (.pr (.int .i64) (.pr (.sl (.pr (.int .i64) (.pr (.int .i64) (.pr .str .un)))) .un))) .no)), (14, (.sl (.pr (.pr (.int .i64) (.pr (.int .i64) (.pr .str .un))) (.pr (.int .i64) (.pr (.sl (.pr (.int .i64) (.pr (.int .i64) (.pr .str .un)))) .un))) .no)), (16, (.i .i64)), (18, (.i .i64))] (t0, (t7, (t8, (t9, ())))))) N v.1 v.2.1 v.2.2.1 v.2.2.2.1 v.2.2.2.2.1 v.2.2.2.2.2.1 v.2.2.2.2.2.2.1
    | none => none)
  | false => match Nat.beq k 2 with
  | true => (match adH ρ H9_2.hd with
    | some v => W9_2 N (fun t2 => K .ret (encH [(4, .bo)] (t2, ()))) (fun t0 => K (.exit 0) (encH [(0, (.sl (.pr (.pr (.int .i64) (.pr (.int .i64) (.pr .str .un))) (.pr (.int .i64) (.pr (.sl (.pr (.int .i64) (.pr (.int .i64) (.pr .str .un)))) .un))) .no))] (t0, ()))) N v.1 v.2.1 v.2.2.1 v.2.2.2.1
    | none => none)
  | false => none
def F9 (N : Nat) (p0 : List ((Int × Int × ByteArray × Unit) × Int × (List (Int × Int × ByteArray × Unit)) × Unit)) : Option (Bool × Unit) :=
  W9_2 N
    (fun t2 =>
      some (t2, ()))
    (fun t0 =>
      some (decide ((((List.length t0) : Nat) : Int) > (40 : Int)), ()))
    N p0 p0 (((List.length p0) : Nat) : Int) (0 : Int)
theorem loops9 (N : Nat) : loopsOk C9 (L9 N) Go.Proofs.Tryd.f9 := ⟨trivial, ⟨⟨trivial, ⟨loopOk_of H9_2 N (fun K n v => W9_2 N (fun t2 => K .ret (encH [(4, .bo)] (t2, ()))) (fun t0 => K (.exit 0) (encH [(0, (.sl (.pr (.pr (.int .i64) (.pr (.int .i64) (.pr .str .un))) (.pr (.int .i64) (.pr (.sl (.pr (.int .i64) (.pr (.int .i64) (.pr .str .un)))) .un))) .no))] (t0, ()))) n v.1 v.2.1 v.2.2.1 v.2.2.2.1) (by kernel_rfl) (fun K v => by kernel_rfl) (fun K v => by kernel_rfl) (fun K n v => by kernel_rfl), ⟨trivial, ⟨⟨trivial, trivial⟩, ⟨⟨trivial, ⟨⟨trivial, ⟨⟨trivial, trivial⟩, trivial⟩⟩, ⟨trivial, ⟨loopOk_of H9_7 N (fun K n v => W9_7 N (fun t2 => K .ret (encH [(4, .bo)] (t2, ()))) (fun t0 t7 t8 t9 => K (.exit 2) (encH [(0, (.sl (.pr (.pr (.int .i64) (.pr (.int .i64) (.pr .str .un))) (.pr (.int .i64) (.pr (.sl (.pr (.int .i64) (.pr (.int .i64) (.pr .str .un)))) .un))) .no)), (14, (.sl (.pr (.pr (.int .i64) (.pr (.int .i64) (.pr .str .un))) (.pr (.int .i64) (.pr (.sl (.pr (.int .i64) (.pr (.int .i64) (.pr .str .un)))) .un))) .no)), (16, (.i .i64)), (18, (.i .i64))] (t0, (t7, (t8, (t9, ())))))) n v.1 v.2.1 v.2.2.1 v.2.2.2.1 v.2.2.2.2.1 v.2.2.2.2.2.1 v.2.2.2.2.2.2.1) (by kernel_rfl) (fun K v => by kernel_rfl) (fun K v => by kernel_rfl) (fun K n v => by kernel_rfl), ⟨trivial, ⟨⟨trivial, trivial⟩, ⟨⟨trivial, ⟨trivial, ⟨⟨trivial, trivial⟩, trivial⟩⟩⟩, trivial⟩⟩⟩⟩⟩⟩⟩, trivial⟩⟩⟩⟩⟩, ⟨trivial, trivial⟩⟩⟩
theorem runs9 (N : Nat) (x : S9.ta.den) : run C9 S9 (L9 N) Go.Proofs.Tryd.f9 x = F9 N x.1 := by kernel_rfl

/-! ### 48: incognito/incognitoref09.OpName -/
def L48 (_ : Nat) : Loops (ByteArray × Unit) := fun _ _ _ => none
def F48 (N : Nat) (p0 : Int) : Option (ByteArray × Unit) :=
  bif (p0 == (1 : Int)) then
    some ((strL [119, 114, 105, 116, 101]), ())
  else
    bif (p0 == (2 : Int)) then
      some ((strL [114, 101, 97, 100]), ())
    else
      bif (p0 == (3 : Int)) then
        some ((strL [115, 119, 97, 112]), ())
      else
        bif (p0 == (4 : Int)) then
          some ((strL [97, 100, 100]), ())
        else
          bif (p0 == (5 : Int)) then
            some ((strL [100, 101, 108]), ())
          else
            bif (p0 == (6 : Int)) then
              some ((strL [104, 97, 115]), ())
            else
              bif (p0 == (7 : Int)) then
              some ((strL [112, 117, 116]), ())
            else
              bif (p0 == (8 : Int)) then
              some ((strL [103, 101, 116]), ())
            else
              bif (p0 == (9 : Int)) then
              some ((strL [112, 117, 115, 104]), ())
            else
              bif (p0 == (10 : Int)) then
              some ((strL [112, 111, 112]), ())
            else
              bif (p0 == (11 : Int)) then
              some ((strL [116, 97, 107, 101]), ())
            else
              bif (p0 == (12 : Int)) then
              some ((strL [102, 114, 101, 101]), ())
            else
              bif (p0 == (13 : Int)) then
              some ((strL [115, 99, 97, 110]), ())
            else
              some ((strL []), ())
theorem loops48 (N : Nat) : loopsOk C48 (L48 N) Go.Proofs.Tryd.f48 := ⟨trivial, ⟨⟨trivial, ⟨trivial, ⟨⟨trivial, trivial⟩, ⟨trivial, ⟨⟨trivial, trivial⟩, ⟨trivial, ⟨⟨trivial, trivial⟩, ⟨trivial, ⟨⟨trivial, trivial⟩, ⟨trivial, ⟨⟨trivial, trivial⟩, ⟨trivial, ⟨⟨trivial, trivial⟩, ⟨trivial, ⟨⟨trivial, trivial⟩, ⟨trivial, ⟨⟨trivial, trivial⟩, ⟨trivial, ⟨⟨trivial, trivial⟩, ⟨trivial, ⟨⟨trivial, trivial⟩, ⟨trivial, ⟨⟨trivial, trivial⟩, ⟨trivial, ⟨⟨trivial, trivial⟩, ⟨trivial, ⟨⟨trivial, trivial⟩, trivial⟩⟩⟩⟩⟩⟩⟩⟩⟩⟩⟩⟩⟩⟩⟩⟩⟩⟩⟩⟩⟩⟩⟩⟩⟩⟩⟩, ⟨trivial, trivial⟩⟩⟩
theorem runs48 (N : Nat) (x : S48.ta.den) : run C48 S48 (L48 N) Go.Proofs.Tryd.f48 x = F48 N x.1 := by kernel_rfl

/-! ### 28: incognito/incognitoref09.Fits -/
def W28_5 {β : Type} (N : Nat) (x0 : Bool → Option β) (x1 : Unit → Option β) : Nat → (List (Int × Int × ByteArray × Unit)) → (List Int) → Int → Bool → Bool → Int → Option β
  | 0, _, _, _, _, _, _ => none
  | n + 1, t2, b7a, b7ba, b7bba, b7bbba, t8 =>
  bif decide (t8 < (((List.length t2) : Nat) : Int)) then
    bif ((decide ((0 : Int) ≤ t8)) && (decide (t8 < (((List.length b7a) : Nat) : Int)))) then
      bif ((decide ((0 : Int) ≤ t8)) && (decide (t8 < (((List.length t2) : Nat) : Int)))) then
        bif (Go.Inc.okT (List.getD b7a (Int.toNat t8) (0 : Int)) (List.getD t2 (Int.toNat t8) ((0 : Int), ((0 : Int), (ByteArray.empty, ()))))) then
          bif (!(Go.Inc.takes (List.getD b7a (Int.toNat t8) (0 : Int)) (List.getD t2 (Int.toNat t8) ((0 : Int), ((0 : Int), (ByteArray.empty, ())))))) then
            x0 false
          else
            W28_5 N x0 x1 n t2 b7a b7ba b7bba b7bbba (Go.IntKind.wrap .i64 (t8 + (1 : Int)))
        else
          none
      else
        none
    else
      none
  else
    x1 ()
def L28 (N : Nat) : Loops (Bool × Unit) := fun k ρ K => match Nat.beq k 5 with
  | true => (match adH ρ H28_5.hd with
    | some v => W28_5 N (fun t6 => K .ret (encH [(12, .bo)] (t6, ()))) (fun _ => K (.exit 0) (encH [] ())) N v.1 v.2.2.1.1 v.2.2.1.2.1 v.2.2.1.2.2.1 v.2.2.1.2.2.2.1 v.2.2.2.1
    | none => none)
  | false => none
def F28 (N : Nat) (p0 : Int) (p1 : Int) (p2 : List (Int × Int × ByteArray × Unit)) : Option (Bool × Unit) :=
  bif (!(((((Go.Inc.signRef p0 p1).2).2).2).1)) then
    some (false, ())
  else
    bif ((((List.length p2) : Nat) : Int) != (((List.length ((Go.Inc.signRef p0 p1).1)) : Nat) : Int)) then
      some (false, ())
    else
      W28_5 N
        (fun t6 =>
          some (t6, ()))
        (fun (_ : Unit) =>
          some (true, ()))
        N p2 ((Go.Inc.signRef p0 p1).1) (((Go.Inc.signRef p0 p1).2).1) ((((Go.Inc.signRef p0 p1).2).2).1) (((((Go.Inc.signRef p0 p1).2).2).2).1) (0 : Int)
theorem loops28 (N : Nat) : loopsOk C28 (L28 N) Go.Proofs.Tryd.f28 := ⟨trivial, ⟨trivial, ⟨⟨trivial, ⟨⟨trivial, trivial⟩, trivial⟩⟩, ⟨⟨trivial, ⟨loopOk_of H28_5 N (fun K n v => W28_5 N (fun t6 => K .ret (encH [(12, .bo)] (t6, ()))) (fun _ => K (.exit 0) (encH [] ())) n v.1 v.2.2.1.1 v.2.2.1.2.1 v.2.2.1.2.2.1 v.2.2.1.2.2.2.1 v.2.2.2.1) (by kernel_rfl) (fun K v => by kernel_rfl) (fun K v => by kernel_rfl) (fun K n v => by kernel_rfl), ⟨⟨trivial, ⟨trivial, trivial⟩⟩, ⟨⟨trivial, ⟨⟨trivial, trivial⟩, trivial⟩⟩, trivial⟩⟩⟩⟩, ⟨trivial, trivial⟩⟩⟩⟩⟩
theorem runs28 (N : Nat) (x : S28.ta.den) : run C28 S28 (L28 N) Go.Proofs.Tryd.f28 x = F28 N x.1 x.2.1 x.2.2.1 := by kernel_rfl

/-! ### 19: incognito/incognitoref13.Copy -/
def L19 (_ : Nat) : Loops ((Int × (Int × Int × ByteArray × Unit) × Int × (List (Int × Int × ByteArray × Unit)) × Unit) × Unit) := fun _ _ _ => none
def F19 (N : Nat) (p0 : Int × (Int × Int × ByteArray × Unit) × Int × (List (Int × Int × ByteArray × Unit)) × Unit) : Option ((Int × (Int × Int × ByteArray × Unit) × Int × (List (Int × Int × ByteArray × Unit)) × Unit) × Unit) :=
  bif decide ((((List.length ([] : List (Int × (Int × (ByteArray × Unit))))) + (List.length p0.2.2.2.1)) * 32) ≤ 140737488351232) then
    some ((p0.1, (p0.2.1, (p0.2.2.1, ((([] : List (Int × (Int × (ByteArray × Unit)))) ++ p0.2.2.2.1), ())))), ())
  else
    none
theorem loops19 (N : Nat) : loopsOk C19 (L19 N) Go.Proofs.Tryd.f19 := ⟨trivial, ⟨trivial, ⟨trivial, trivial⟩⟩⟩
theorem runs19 (N : Nat) (x : S19.ta.den) : run C19 S19 (L19 N) Go.Proofs.Tryd.f19 x = F19 N x.1 := by kernel_rfl

/-! ### 20x: incognito/sign.Outs -/
def L20x (_ : Nat) : Loops (HS.den X20x.hout) := fun _ _ _ => none
def F20x (N : Nat) (t0 : Int) (t1 : Int) (t2 : Nat) (b1000 : List (Int × Int × ByteArray × Unit)) : Option (HS.den X20x.hout) :=
  bif (!(((Go.Inc.findGo t0 t1).2).1)) then
    some (([] : List Int), (false, (b1000, ())))
  else
    bif decide (((((((Go.Inc.findGo t0 t1).1).2).2).2).1) < (0 : Int)) then
      some (([] : List Int), ((((t2 : Nat) : Int) == (0 : Int)), (b1000, ())))
    else
      bif (((((((Go.Inc.findGo t0 t1).1).2).2).2).1) == (99 : Int)) then
        bif (Go.Inc.okPX t2 b1000) then
          some ((Go.Inc.pairedGo b1000).1, (((Go.Inc.pairedGo b1000).2).1, (b1000, ())))
        else
          none
      else
        bif (((t2 : Nat) : Int) != (1 : Int)) then
          some (([] : List Int), (false, (b1000, ())))
        else
          bif ((decide ((0 : Int) ≤ (0 : Int))) && (decide ((0 : Int) < ((t2 : Nat) : Int)))) then
            bif decide ((Int.toNat (0 : Int)) < (List.length b1000)) then
              bif (Go.Inc.okT ((((((Go.Inc.findGo t0 t1).1).2).2).2).1) (List.getD b1000 (Int.toNat (0 : Int)) ((0 : Int), ((0 : Int), (ByteArray.empty, ()))))) then
              bif (!(Go.Inc.takes ((((((Go.Inc.findGo t0 t1).1).2).2).2).1) (List.getD b1000 (Int.toNat (0 : Int)) ((0 : Int), ((0 : Int), (ByteArray.empty, ())))))) then
              bif ((((((Go.Inc.findGo t0 t1).1).2).2).2).2).1 then
              bif ((decide ((0 : Int) ≤ (0 : Int))) && (decide ((0 : Int) < ((t2 : Nat) : Int)))) then
              bif decide ((Int.toNat (0 : Int)) < (List.length b1000)) then
              bif (!((((List.getD b1000 (Int.toNat (0 : Int)) ((0 : Int), ((0 : Int), (ByteArray.empty, ())))).1) == (0 : Int)) && (((((List.getD b1000 (Int.toNat (0 : Int)) ((0 : Int), ((0 : Int), (ByteArray.empty, ())))).2).1) == (0 : Int)) && ((((((List.getD b1000 (Int.toNat (0 : Int)) ((0 : Int), ((0 : Int), (ByteArray.empty, ())))).2).2).1) == ByteArray.empty) && true)))) then
              some (([] : List Int), (false, (b1000, ())))
            else
              some ((((((((Go.Inc.findGo t0 t1).1).2).2).2).1) :: ([] : List Int)), (true, (b1000, ())))
            else
              none
            else
              none
            else
              some (([] : List Int), (false, (b1000, ())))
            else
              some ((((((((Go.Inc.findGo t0 t1).1).2).2).2).1) :: ([] : List Int)), (true, (b1000, ())))
            else
              none
            else
              none
          else
            none
theorem loops20x (N : Nat) : loopsOk C20x (L20x N) Go.Proofs.Tryd.f20 := ⟨trivial, ⟨trivial, ⟨⟨trivial, ⟨⟨trivial, trivial⟩, ⟨trivial, ⟨⟨trivial, trivial⟩, ⟨trivial, ⟨⟨trivial, trivial⟩, ⟨trivial, ⟨⟨trivial, trivial⟩, trivial⟩⟩⟩⟩⟩⟩⟩⟩, ⟨trivial, trivial⟩⟩⟩⟩
theorem runs20x (N : Nat) (x : HS.den X20x.hin) : runX C20x X20x (L20x N) Go.Proofs.Tryd.f20 x = F20x N x.1 x.2.1 x.2.2.1 x.2.2.2.1 := by kernel_rfl

/-! ### 5: incognito/incognitolaw13.RegOuts -/
def W5_18 {β : Type} (N : Nat) (x3 : Int → Int → Int → Int → ByteArray → Int → (List (Int × Int × ByteArray × Unit)) → Int → Int → Int → ByteArray → Int → (List (Int × Int × ByteArray × Unit)) → Int → Int → Int → ByteArray → Int → (List (Int × Int × ByteArray × Unit)) → (List ((Int × Int × ByteArray × Unit) × Int × (List (Int × Int × ByteArray × Unit)) × Unit)) → Int → Int → Option β) : Nat → Int → Int → Int → Int → ByteArray → Int → (List (Int × Int × ByteArray × Unit)) → Int → Int → Int → ByteArray → Int → (List (Int × Int × ByteArray × Unit)) → Int → Int → Int → ByteArray → Int → (List (Int × Int × ByteArray × Unit)) → Nat → (List ((Int × Int × ByteArray × Unit) × Int × (List (Int × Int × ByteArray × Unit)) × Unit)) → Int → Int → (List (Int × Int × ByteArray × Unit)) → Int → Int → Option β
  | 0, _, _, _, _, _, _, _, _, _, _, _, _, _, _, _, _, _, _, _, _, _, _, _, _, _, _ => none
  | n + 1, t0, b5a, b5ba, b5bba, b5bbba, b5bbbba, b5bbbbba, b9a, b9ba, b9bba, b9bbba, b9bbbba, b9bbbbba, b10a, b10ba, b10bba, b10bbba, b10bbbba, b10bbbbba, t11, t29, t30, t31, b45, t72, t73 =>
  bif decide (t73 < t72) then
    bif ((decide ((0 : Int) ≤ t73)) && (decide (t73 < ((t11 : Nat) : Int)))) then
      bif decide ((Int.toNat t73) < (List.length b45)) then
        W5_18 N x3 n t0 b5a b5ba b5bba b5bbba b5bbbba b5bbbbba b9a b9ba b9bba b9bbba b9bbbba b9bbbbba b10a b10ba b10bba b10bbba b10bbbba b10bbbbba t11 t29 t30 t31 (List.set b45 (Int.toNat t73) ((9 : Int), (List.getD b45 (Int.toNat t73) ((0 : Int), ((0 : Int), (ByteArray.empty, ())))).2)) t72 (Go.IntKind.wrap .i64 (t73 + (1 : Int)))
      else
        none
    else
      none
  else
    x3 t0 b5a b5ba b5bba b5bbba b5bbbba b5bbbbba b9a b9ba b9bba b9bbba b9bbbba b9bbbbba b10a b10ba b10bba b10bbba b10bbbba b10bbbbba t29 t30 t31
def W5_7 {β : Type} (N : Nat) (x0 : Bool → Option β) (x1 : Unit → Option β) : Nat → Int → Int → Int → Int → ByteArray → Int → (List (Int × Int × ByteArray × Unit)) → (List ((Int × Int × ByteArray × Unit) × Int × (List (Int × Int × ByteArray × Unit)) × Unit)) → Int → Int → Option β
  | 0, _, _, _, _, _, _, _, _, _, _ => none
  | n + 1, t0, b5a, b5ba, b5bba, b5bbba, b5bbbba, b5bbbbba, t29, t30, t31 =>
  bif decide (t31 < t30) then
    bif ((decide ((0 : Int) ≤ t31)) && (decide (t31 < (((List.length t29) : Nat) : Int)))) then
      bif (Go.Inc.okPop (b5a, ((b5ba, (b5bba, (b5bbba, ()))), (b5bbbba, (b5bbbbba, ()))))) then
        bif (Go.Inc.okStepX (b5a, ((b5ba, (b5bba, (b5bbba, ()))), (b5bbbba, (b5bbbbba, ())))) ((List.getD t29 (Int.toNat t31) (((0 : Int), ((0 : Int), (ByteArray.empty, ()))), ((0 : Int), ([], ())))).1) (((List.getD t29 (Int.toNat t31) (((0 : Int), ((0 : Int), (ByteArray.empty, ()))), ((0 : Int), ([], ())))).2).1) ((((List.getD t29 (Int.toNat t31) (((0 : Int), ((0 : Int), (ByteArray.empty, ()))), ((0 : Int), ([], ())))).2).2).1)) then
          bif (Go.Inc.okSS (Go.Inc.copyS (b5a, ((b5ba, (b5bba, (b5bbba, ()))), (b5bbbba, (b5bbbbba, ()))))) (b5a, ((b5ba, (b5bba, (b5bbba, ()))), (b5bbbba, (b5bbbbba, ()))))) then
            bif (!(Go.Inc.sameS (Go.Inc.copyS (b5a, ((b5ba, (b5bba, (b5bbba, ()))), (b5bbbba, (b5bbbbba, ()))))) (b5a, ((b5ba, (b5bba, (b5bbba, ()))), (b5bbbba, (b5bbbbba, ())))))) then
              x0 false
            else
              bif (!((((Go.Inc.stepX (Go.Inc.regStep (b5a, ((b5ba, (b5bba, (b5bbba, ()))), (b5bbbba, (b5bbbbba, ())))) ((List.getD t29 (Int.toNat t31) (((0 : Int), ((0 : Int), (ByteArray.empty, ()))), ((0 : Int), ([], ())))).1) (((List.getD t29 (Int.toNat t31) (((0 : Int), ((0 : Int), (ByteArray.empty, ()))), ((0 : Int), ([], ())))).2).1) ((((List.getD t29 (Int.toNat t31) (((0 : Int), ((0 : Int), (ByteArray.empty, ()))), ((0 : Int), ([], ())))).2).2).1))).2).2).1)) then
              W5_7 N x0 x1 n t0 b5a b5ba b5bba b5bbba b5bbbba b5bbbbba t29 t30 (Go.IntKind.wrap .i64 (t31 + (1 : Int)))
            else
              bif (Go.Inc.okOX t0 (((List.getD t29 (Int.toNat t31) (((0 : Int), ((0 : Int), (ByteArray.empty, ()))), ((0 : Int), ([], ())))).2).1) (((Go.Inc.stepX (Go.Inc.regStep (b5a, ((b5ba, (b5bba, (b5bbba, ()))), (b5bbbba, (b5bbbbba, ())))) ((List.getD t29 (Int.toNat t31) (((0 : Int), ((0 : Int), (ByteArray.empty, ()))), ((0 : Int), ([], ())))).1) (((List.getD t29 (Int.toNat t31) (((0 : Int), ((0 : Int), (ByteArray.empty, ()))), ((0 : Int), ([], ())))).2).1) ((((List.getD t29 (Int.toNat t31) (((0 : Int), ((0 : Int), (ByteArray.empty, ()))), ((0 : Int), ([], ())))).2).2).1))).2).1) (((((Go.Inc.stepX (Go.Inc.regStep (b5a, ((b5ba, (b5bba, (b5bbba, ()))), (b5bbbba, (b5bbbbba, ())))) ((List.getD t29 (Int.toNat t31) (((0 : Int), ((0 : Int), (ByteArray.empty, ()))), ((0 : Int), ([], ())))).1) (((List.getD t29 (Int.toNat t31) (((0 : Int), ((0 : Int), (ByteArray.empty, ()))), ((0 : Int), ([], ())))).2).1) ((((List.getD t29 (Int.toNat t31) (((0 : Int), ((0 : Int), (ByteArray.empty, ()))), ((0 : Int), ([], ())))).2).2).1))).2).2).2).1)) then
              bif (!(((Go.Inc.outsGo t0 (((List.getD t29 (Int.toNat t31) (((0 : Int), ((0 : Int), (ByteArray.empty, ()))), ((0 : Int), ([], ())))).2).1) (((((Go.Inc.stepX (Go.Inc.regStep (b5a, ((b5ba, (b5bba, (b5bbba, ()))), (b5bbbba, (b5bbbbba, ())))) ((List.getD t29 (Int.toNat t31) (((0 : Int), ((0 : Int), (ByteArray.empty, ()))), ((0 : Int), ([], ())))).1) (((List.getD t29 (Int.toNat t31) (((0 : Int), ((0 : Int), (ByteArray.empty, ()))), ((0 : Int), ([], ())))).2).1) ((((List.getD t29 (Int.toNat t31) (((0 : Int), ((0 : Int), (ByteArray.empty, ()))), ((0 : Int), ([], ())))).2).2).1))).2).2).2).1)).2).1)) then
              x0 false
            else
              bif ((((Go.Inc.stepX (Go.Inc.regStep (b5a, ((b5ba, (b5bba, (b5bbba, ()))), (b5bbbba, (b5bbbbba, ())))) ((List.getD t29 (Int.toNat t31) (((0 : Int), ((0 : Int), (ByteArray.empty, ()))), ((0 : Int), ([], ())))).1) (((List.getD t29 (Int.toNat t31) (((0 : Int), ((0 : Int), (ByteArray.empty, ()))), ((0 : Int), ([], ())))).2).1) ((((List.getD t29 (Int.toNat t31) (((0 : Int), ((0 : Int), (ByteArray.empty, ()))), ((0 : Int), ([], ())))).2).2).1))).1).1) != t0) then
              x0 false
            else
              W5_18 N
              (fun t0 b5a b5ba b5bba b5bbba b5bbbba b5bbbbba b9a b9ba b9bba b9bbba b9bbbba b9bbbbba b10a b10ba b10bba b10bbba b10bbbba b10bbbbba t29 t30 t31 =>
                bif (Go.Inc.okSS (b9a, ((b9ba, (b9bba, (b9bbba, ()))), (b9bbbba, (b9bbbbba, ())))) (b5a, ((b5ba, (b5bba, (b5bbba, ()))), (b5bbbba, (b5bbbbba, ()))))) then
              bif (!(Go.Inc.sameS (b9a, ((b9ba, (b9bba, (b9bbba, ()))), (b9bbbba, (b9bbbbba, ())))) (b5a, ((b5ba, (b5bba, (b5bbba, ()))), (b5bbbba, (b5bbbbba, ())))))) then
              x0 false
            else
              W5_7 N x0 x1 n t0 b10a b10ba b10bba b10bbba b10bbbba b10bbbbba t29 t30 (Go.IntKind.wrap .i64 (t31 + (1 : Int)))
            else
              none)
              N t0 b5a b5ba b5bba b5bbba b5bbbba b5bbbbba ((Go.Inc.copyS (b5a, ((b5ba, (b5bba, (b5bbba, ()))), (b5bbbba, (b5bbbbba, ()))))).1) ((((Go.Inc.copyS (b5a, ((b5ba, (b5bba, (b5bbba, ()))), (b5bbbba, (b5bbbbba, ()))))).2).1).1) (((((Go.Inc.copyS (b5a, ((b5ba, (b5bba, (b5bbba, ()))), (b5bbbba, (b5bbbbba, ()))))).2).1).2).1) ((((((Go.Inc.copyS (b5a, ((b5ba, (b5bba, (b5bbba, ()))), (b5bbbba, (b5bbbbba, ()))))).2).1).2).2).1) ((((Go.Inc.copyS (b5a, ((b5ba, (b5bba, (b5bbba, ()))), (b5bbbba, (b5bbbbba, ()))))).2).2).1) (((((Go.Inc.copyS (b5a, ((b5ba, (b5bba, (b5bbba, ()))), (b5bbbba, (b5bbbbba, ()))))).2).2).2).1) (((Go.Inc.stepX (Go.Inc.regStep (b5a, ((b5ba, (b5bba, (b5bbba, ()))), (b5bbbba, (b5bbbbba, ())))) ((List.getD t29 (Int.toNat t31) (((0 : Int), ((0 : Int), (ByteArray.empty, ()))), ((0 : Int), ([], ())))).1) (((List.getD t29 (Int.toNat t31) (((0 : Int), ((0 : Int), (ByteArray.empty, ()))), ((0 : Int), ([], ())))).2).1) ((((List.getD t29 (Int.toNat t31) (((0 : Int), ((0 : Int), (ByteArray.empty, ()))), ((0 : Int), ([], ())))).2).2).1))).1).1) (((((Go.Inc.stepX (Go.Inc.regStep (b5a, ((b5ba, (b5bba, (b5bbba, ()))), (b5bbbba, (b5bbbbba, ())))) ((List.getD t29 (Int.toNat t31) (((0 : Int), ((0 : Int), (ByteArray.empty, ()))), ((0 : Int), ([], ())))).1) (((List.getD t29 (Int.toNat t31) (((0 : Int), ((0 : Int), (ByteArray.empty, ()))), ((0 : Int), ([], ())))).2).1) ((((List.getD t29 (Int.toNat t31) (((0 : Int), ((0 : Int), (ByteArray.empty, ()))), ((0 : Int), ([], ())))).2).2).1))).1).2).1).1) ((((((Go.Inc.stepX (Go.Inc.regStep (b5a, ((b5ba, (b5bba, (b5bbba, ()))), (b5bbbba, (b5bbbbba, ())))) ((List.getD t29 (Int.toNat t31) (((0 : Int), ((0 : Int), (ByteArray.empty, ()))), ((0 : Int), ([], ())))).1) (((List.getD t29 (Int.toNat t31) (((0 : Int), ((0 : Int), (ByteArray.empty, ()))), ((0 : Int), ([], ())))).2).1) ((((List.getD t29 (Int.toNat t31) (((0 : Int), ((0 : Int), (ByteArray.empty, ()))), ((0 : Int), ([], ())))).2).2).1))).1).2).1).2).1) (((((((Go.Inc.stepX (Go.Inc.regStep (b5a, ((b5ba, (b5bba, (b5bbba, ()))), (b5bbbba, (b5bbbbba, ())))) ((List.getD t29 (Int.toNat t31) (((0 : Int), ((0 : Int), (ByteArray.empty, ()))), ((0 : Int), ([], ())))).1) (((List.getD t29 (Int.toNat t31) (((0 : Int), ((0 : Int), (ByteArray.empty, ()))), ((0 : Int), ([], ())))).2).1) ((((List.getD t29 (Int.toNat t31) (((0 : Int), ((0 : Int), (ByteArray.empty, ()))), ((0 : Int), ([], ())))).2).2).1))).1).2).1).2).2).1) (((((Go.Inc.stepX (Go.Inc.regStep (b5a, ((b5ba, (b5bba, (b5bbba, ()))), (b5bbbba, (b5bbbbba, ())))) ((List.getD t29 (Int.toNat t31) (((0 : Int), ((0 : Int), (ByteArray.empty, ()))), ((0 : Int), ([], ())))).1) (((List.getD t29 (Int.toNat t31) (((0 : Int), ((0 : Int), (ByteArray.empty, ()))), ((0 : Int), ([], ())))).2).1) ((((List.getD t29 (Int.toNat t31) (((0 : Int), ((0 : Int), (ByteArray.empty, ()))), ((0 : Int), ([], ())))).2).2).1))).1).2).2).1) ((((((Go.Inc.stepX (Go.Inc.regStep (b5a, ((b5ba, (b5bba, (b5bbba, ()))), (b5bbbba, (b5bbbbba, ())))) ((List.getD t29 (Int.toNat t31) (((0 : Int), ((0 : Int), (ByteArray.empty, ()))), ((0 : Int), ([], ())))).1) (((List.getD t29 (Int.toNat t31) (((0 : Int), ((0 : Int), (ByteArray.empty, ()))), ((0 : Int), ([], ())))).2).1) ((((List.getD t29 (Int.toNat t31) (((0 : Int), ((0 : Int), (ByteArray.empty, ()))), ((0 : Int), ([], ())))).2).2).1))).1).2).2).2).1) (((Go.Inc.stepX (Go.Inc.regStep (b5a, ((b5ba, (b5bba, (b5bbba, ()))), (b5bbbba, (b5bbbbba, ())))) ((List.getD t29 (Int.toNat t31) (((0 : Int), ((0 : Int), (ByteArray.empty, ()))), ((0 : Int), ([], ())))).1) (((List.getD t29 (Int.toNat t31) (((0 : Int), ((0 : Int), (ByteArray.empty, ()))), ((0 : Int), ([], ())))).2).1) ((((List.getD t29 (Int.toNat t31) (((0 : Int), ((0 : Int), (ByteArray.empty, ()))), ((0 : Int), ([], ())))).2).2).1))).2).1) t29 t30 t31 (((((Go.Inc.stepX (Go.Inc.regStep (b5a, ((b5ba, (b5bba, (b5bbba, ()))), (b5bbbba, (b5bbbbba, ())))) ((List.getD t29 (Int.toNat t31) (((0 : Int), ((0 : Int), (ByteArray.empty, ()))), ((0 : Int), ([], ())))).1) (((List.getD t29 (Int.toNat t31) (((0 : Int), ((0 : Int), (ByteArray.empty, ()))), ((0 : Int), ([], ())))).2).1) ((((List.getD t29 (Int.toNat t31) (((0 : Int), ((0 : Int), (ByteArray.empty, ()))), ((0 : Int), ([], ())))).2).2).1))).2).2).2).1) ((((Go.Inc.stepX (Go.Inc.regStep (b5a, ((b5ba, (b5bba, (b5bbba, ()))), (b5bbbba, (b5bbbbba, ())))) ((List.getD t29 (Int.toNat t31) (((0 : Int), ((0 : Int), (ByteArray.empty, ()))), ((0 : Int), ([], ())))).1) (((List.getD t29 (Int.toNat t31) (((0 : Int), ((0 : Int), (ByteArray.empty, ()))), ((0 : Int), ([], ())))).2).1) ((((List.getD t29 (Int.toNat t31) (((0 : Int), ((0 : Int), (ByteArray.empty, ()))), ((0 : Int), ([], ())))).2).2).1))).2).1 : Nat) : Int) (0 : Int)
            else
              none
          else
            none
        else
          none
      else
        none
    else
      none
  else
    x1 ()
def L5 (N : Nat) : Loops (Bool × Unit) := fun k ρ K => match Nat.beq k 18 with
  | true => (match adH ρ H5_18.hd with
    | some v => W5_18 N (fun t0 b5a b5ba b5bba b5bbba b5bbbba b5bbbbba b9a b9ba b9bba b9bbba b9bbbba b9bbbbba b10a b10ba b10bba b10bbba b10bbbba b10bbbbba t29 t30 t31 => K (.exit 2) (encH [(0, (.i .i64)), (10, (.bx 5 0)), (11, (.pr (.i .i64) (.pr (.i .i64) (.pr (.i .i64) (.pr .st (.pr (.i .i64) (.pr (.sl (.pr (.int .i64) (.pr (.int .i64) (.pr .str .un))) .no) .un))))))), (18, (.bx 9 0)), (19, (.pr (.i .i64) (.pr (.i .i64) (.pr (.i .i64) (.pr .st (.pr (.i .i64) (.pr (.sl (.pr (.int .i64) (.pr (.int .i64) (.pr .str .un))) .no) .un))))))), (20, (.bx 10 0)), (21, (.pr (.i .i64) (.pr (.i .i64) (.pr (.i .i64) (.pr .st (.pr (.i .i64) (.pr (.sl (.pr (.int .i64) (.pr (.int .i64) (.pr .str .un))) .no) .un))))))), (58, (.sl (.pr (.pr (.int .i64) (.pr (.int .i64) (.pr .str .un))) (.pr (.int .i64) (.pr (.sl (.pr (.int .i64) (.pr (.int .i64) (.pr .str .un)))) .un))) .no)), (60, (.i .i64)), (62, (.i .i64))] (t0, ((), ((b5a, (b5ba, (b5bba, (b5bbba, (b5bbbba, (b5bbbbba, ())))))), ((), ((b9a, (b9ba, (b9bba, (b9bbba, (b9bbbba, (b9bbbbba, ())))))), ((), ((b10a, (b10ba, (b10bba, (b10bbba, (b10bbbba, (b10bbbbba, ())))))), (t29, (t30, (t31, ())))))))))))) N v.1 v.2.2.1.1 v.2.2.1.2.1 v.2.2.1.2.2.1 v.2.2.1.2.2.2.1 v.2.2.1.2.2.2.2.1 v.2.2.1.2.2.2.2.2.1 v.2.2.2.2.1.1 v.2.2.2.2.1.2.1 v.2.2.2.2.1.2.2.1 v.2.2.2.2.1.2.2.2.1 v.2.2.2.2.1.2.2.2.2.1 v.2.2.2.2.1.2.2.2.2.2.1 v.2.2.2.2.2.2.1.1 v.2.2.2.2.2.2.1.2.1 v.2.2.2.2.2.2.1.2.2.1 v.2.2.2.2.2.2.1.2.2.2.1 v.2.2.2.2.2.2.1.2.2.2.2.1 v.2.2.2.2.2.2.1.2.2.2.2.2.1 v.2.2.2.2.2.2.2.1 v.2.2.2.2.2.2.2.2.1 v.2.2.2.2.2.2.2.2.2.1 v.2.2.2.2.2.2.2.2.2.2.1 v.2.2.2.2.2.2.2.2.2.2.2.1 v.2.2.2.2.2.2.2.2.2.2.2.2.1 v.2.2.2.2.2.2.2.2.2.2.2.2.2.1
    | none => none)
  | false => match Nat.beq k 7 with
  | true => (match adH ρ H5_7.hd with
    | some v => W5_7 N (fun t4 => K .ret (encH [(8, .bo)] (t4, ()))) (fun _ => K (.exit 0) (encH [] ())) N v.1 v.2.2.1.1 v.2.2.1.2.1 v.2.2.1.2.2.1 v.2.2.1.2.2.2.1 v.2.2.1.2.2.2.2.1 v.2.2.1.2.2.2.2.2.1 v.2.2.2.1 v.2.2.2.2.1 v.2.2.2.2.2.1
    | none => none)
  | false => none
def F5 (N : Nat) (p0 : Int) (p1 : List ((Int × Int × ByteArray × Unit) × Int × (List (Int × Int × ByteArray × Unit)) × Unit)) : Option (Bool × Unit) :=
  bif (!(((Go.Inc.regNew p0).2).1)) then
    some (true, ())
  else
    bif (Go.Inc.okDs p1) then
      bif (Go.Inc.greatD p1) then
        some (true, ())
      else
        W5_7 N
          (fun t4 =>
            some (t4, ()))
          (fun (_ : Unit) =>
            some (true, ()))
          N p0 (((Go.Inc.regNew p0).1).1) (((((Go.Inc.regNew p0).1).2).1).1) ((((((Go.Inc.regNew p0).1).2).1).2).1) (((((((Go.Inc.regNew p0).1).2).1).2).2).1) (((((Go.Inc.regNew p0).1).2).2).1) ((((((Go.Inc.regNew p0).1).2).2).2).1) p1 (((List.length p1) : Nat) : Int) (0 : Int)
    else
      none
theorem loops5 (N : Nat) : loopsOk C5 (L5 N) Go.Proofs.Tryd.f5 := ⟨trivial, ⟨⟨trivial, ⟨⟨trivial, trivial⟩, trivial⟩⟩, ⟨trivial, ⟨⟨trivial, ⟨⟨trivial, trivial⟩, trivial⟩⟩, ⟨⟨trivial, ⟨loopOk_of H5_7 N (fun K n v => W5_7 N (fun t4 => K .ret (encH [(8, .bo)] (t4, ()))) (fun _ => K (.exit 0) (encH [] ())) n v.1 v.2.2.1.1 v.2.2.1.2.1 v.2.2.1.2.2.1 v.2.2.1.2.2.2.1 v.2.2.1.2.2.2.2.1 v.2.2.1.2.2.2.2.2.1 v.2.2.2.1 v.2.2.2.2.1 v.2.2.2.2.2.1) (by kernel_rfl) (fun K v => by kernel_rfl) (fun K v => by kernel_rfl) (fun K n v => by kernel_rfl), ⟨trivial, ⟨⟨trivial, trivial⟩, ⟨⟨trivial, ⟨trivial, ⟨trivial, ⟨⟨trivial, ⟨⟨trivial, trivial⟩, trivial⟩⟩, ⟨⟨trivial, ⟨trivial, trivial⟩⟩, ⟨trivial, ⟨⟨trivial, ⟨⟨trivial, trivial⟩, trivial⟩⟩, ⟨⟨trivial, ⟨loopOk_of H5_18 N (fun K n v => W5_18 N (fun t0 b5a b5ba b5bba b5bbba b5bbbba b5bbbbba b9a b9ba b9bba b9bbba b9bbbba b9bbbbba b10a b10ba b10bba b10bbba b10bbbba b10bbbbba t29 t30 t31 => K (.exit 2) (encH [(0, (.i .i64)), (10, (.bx 5 0)), (11, (.pr (.i .i64) (.pr (.i .i64) (.pr (.i .i64) (.pr .st (.pr (.i .i64) (.pr (.sl (.pr (.int .i64) (.pr (.int .i64) (.pr .str .un))) .no) .un))))))), (18, (.bx 9 0)), (19, (.pr (.i .i64) (.pr (.i .i64) (.pr (.i .i64) (.pr .st (.pr (.i .i64) (.pr (.sl (.pr (.int .i64) (.pr (.int .i64) (.pr .str .un))) .no) .un))))))), (20, (.bx 10 0)), (21, (.pr (.i .i64) (.pr (.i .i64) (.pr (.i .i64) (.pr .st (.pr (.i .i64) (.pr (.sl (.pr (.int .i64) (.pr (.int .i64) (.pr .str .un))) .no) .un))))))), (58, (.sl (.pr (.pr (.int .i64) (.pr (.int .i64) (.pr .str .un))) (.pr (.int .i64) (.pr (.sl (.pr (.int .i64) (.pr (.int .i64) (.pr .str .un)))) .un))) .no)), (60, (.i .i64)), (62, (.i .i64))] (t0, ((), ((b5a, (b5ba, (b5bba, (b5bbba, (b5bbbba, (b5bbbbba, ())))))), ((), ((b9a, (b9ba, (b9bba, (b9bbba, (b9bbbba, (b9bbbbba, ())))))), ((), ((b10a, (b10ba, (b10bba, (b10bbba, (b10bbbba, (b10bbbbba, ())))))), (t29, (t30, (t31, ())))))))))))) n v.1 v.2.2.1.1 v.2.2.1.2.1 v.2.2.1.2.2.1 v.2.2.1.2.2.2.1 v.2.2.1.2.2.2.2.1 v.2.2.1.2.2.2.2.2.1 v.2.2.2.2.1.1 v.2.2.2.2.1.2.1 v.2.2.2.2.1.2.2.1 v.2.2.2.2.1.2.2.2.1 v.2.2.2.2.1.2.2.2.2.1 v.2.2.2.2.1.2.2.2.2.2.1 v.2.2.2.2.2.2.1.1 v.2.2.2.2.2.2.1.2.1 v.2.2.2.2.2.2.1.2.2.1 v.2.2.2.2.2.2.1.2.2.2.1 v.2.2.2.2.2.2.1.2.2.2.2.1 v.2.2.2.2.2.2.1.2.2.2.2.2.1 v.2.2.2.2.2.2.2.1 v.2.2.2.2.2.2.2.2.1 v.2.2.2.2.2.2.2.2.2.1 v.2.2.2.2.2.2.2.2.2.2.1 v.2.2.2.2.2.2.2.2.2.2.2.1 v.2.2.2.2.2.2.2.2.2.2.2.2.1 v.2.2.2.2.2.2.2.2.2.2.2.2.2.1) (by kernel_rfl) (fun K v => by kernel_rfl) (fun K v => by kernel_rfl) (fun K n v => by kernel_rfl), ⟨trivial, ⟨⟨trivial, trivial⟩, ⟨⟨trivial, trivial⟩, trivial⟩⟩⟩⟩⟩, ⟨⟨trivial, ⟨⟨trivial, trivial⟩, trivial⟩⟩, trivial⟩⟩⟩⟩⟩⟩⟩⟩⟩, trivial⟩⟩⟩⟩⟩, ⟨trivial, trivial⟩⟩⟩⟩⟩⟩
theorem runs5 (N : Nat) (x : S5.ta.den) : run C5 S5 (L5 N) Go.Proofs.Tryd.f5 x = F5 N x.1 x.2.1 := by kernel_rfl

end Go.L13
