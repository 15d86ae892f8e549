/- The walks of package pair and its statements. Printed by a program of this session. -/
import Derived.Test.YtkkkjcpfahhhpaaDoorW0
set_option linter.unusedVariables false
set_option maxRecDepth 100000
namespace Go.K12
open Go Go.Abs Go.Inc

/-! ### 52: incognito/value.IsWord -/
def W52_4 {β : Type} (N : Nat) (x0 : Bool → Option β) (x1 : Unit → Option β) : Nat → ByteArray → Int → Int → Option β
  | 0, _, _, _ => none
  | n + 1, t0, t23, t24 =>
  bif decide (t24 < t23) then
    bif ((decide ((0 : Int) ≤ t24)) && (decide (t24 < (((ByteArray.size t0) : Nat) : Int)))) then
      bif decide ((((UInt8.toNat (List.getD (Array.toList (ByteArray.data t0)) (Int.toNat t24) (0 : UInt8))) : Nat) : Int) ≥ (97 : Int)) then
        bif decide ((((UInt8.toNat (List.getD (Array.toList (ByteArray.data t0)) (Int.toNat t24) (0 : UInt8))) : Nat) : Int) ≤ (122 : Int)) then
          W52_4 N x0 x1 n t0 t23 (Go.IntKind.wrap .i64 (t24 + (1 : Int)))
        else
          bif decide ((((UInt8.toNat (List.getD (Array.toList (ByteArray.data t0)) (Int.toNat t24) (0 : UInt8))) : Nat) : Int) ≥ (48 : Int)) then
            bif decide ((((UInt8.toNat (List.getD (Array.toList (ByteArray.data t0)) (Int.toNat t24) (0 : UInt8))) : Nat) : Int) ≤ (57 : Int)) then
              W52_4 N x0 x1 n t0 t23 (Go.IntKind.wrap .i64 (t24 + (1 : Int)))
            else
              bif (!((((UInt8.toNat (List.getD (Array.toList (ByteArray.data t0)) (Int.toNat t24) (0 : UInt8))) : Nat) : Int) == (95 : Int))) then
              x0 false
            else
              W52_4 N x0 x1 n t0 t23 (Go.IntKind.wrap .i64 (t24 + (1 : Int)))
          else
            bif (!((((UInt8.toNat (List.getD (Array.toList (ByteArray.data t0)) (Int.toNat t24) (0 : UInt8))) : Nat) : Int) == (95 : Int))) then
              x0 false
            else
              W52_4 N x0 x1 n t0 t23 (Go.IntKind.wrap .i64 (t24 + (1 : Int)))
      else
        bif decide ((((UInt8.toNat (List.getD (Array.toList (ByteArray.data t0)) (Int.toNat t24) (0 : UInt8))) : Nat) : Int) ≥ (48 : Int)) then
          bif decide ((((UInt8.toNat (List.getD (Array.toList (ByteArray.data t0)) (Int.toNat t24) (0 : UInt8))) : Nat) : Int) ≤ (57 : Int)) then
            W52_4 N x0 x1 n t0 t23 (Go.IntKind.wrap .i64 (t24 + (1 : Int)))
          else
            bif (!((((UInt8.toNat (List.getD (Array.toList (ByteArray.data t0)) (Int.toNat t24) (0 : UInt8))) : Nat) : Int) == (95 : Int))) then
              x0 false
            else
              W52_4 N x0 x1 n t0 t23 (Go.IntKind.wrap .i64 (t24 + (1 : Int)))
        else
          bif (!((((UInt8.toNat (List.getD (Array.toList (ByteArray.data t0)) (Int.toNat t24) (0 : UInt8))) : Nat) : Int) == (95 : Int))) then
            x0 false
          else
            W52_4 N x0 x1 n t0 t23 (Go.IntKind.wrap .i64 (t24 + (1 : Int)))
    else
      none
  else
    x1 ()
def L52 (N : Nat) : Loops (Bool × Unit) := fun k ρ K => match Nat.beq k 4 with
  | true => (match adH ρ H52_4.hd with
    | some v => W52_4 N (fun t2 => K .ret (encH [(4, .bo)] (t2, ()))) (fun _ => K (.exit 0) (encH [] ())) N v.1 v.2.1 v.2.2.1
    | none => none)
  | false => none
def F52 (N : Nat) (p0 : ByteArray) : Option (Bool × Unit) :=
  bif ((ByteArray.toList p0) == (ByteArray.toList (strL []))) then
    some (false, ())
  else
    bif decide ((((ByteArray.size p0) : Nat) : Int) > (40 : Int)) then
      some (false, ())
    else
      bif ((decide ((0 : Int) ≤ (0 : Int))) && (decide ((0 : Int) < (((ByteArray.size p0) : Nat) : Int)))) then
        bif decide ((((UInt8.toNat (List.getD (Array.toList (ByteArray.data p0)) (Int.toNat (0 : Int)) (0 : UInt8))) : Nat) : Int) < (97 : Int)) then
          some (false, ())
        else
          bif ((decide ((0 : Int) ≤ (0 : Int))) && (decide ((0 : Int) < (((ByteArray.size p0) : Nat) : Int)))) then
            bif decide ((((UInt8.toNat (List.getD (Array.toList (ByteArray.data p0)) (Int.toNat (0 : Int)) (0 : UInt8))) : Nat) : Int) > (122 : Int)) then
              some (false, ())
            else
              W52_4 N
              (fun t2 =>
                some (t2, ()))
              (fun (_ : Unit) =>
                some (true, ()))
              N p0 (((ByteArray.size p0) : Nat) : Int) (0 : Int)
          else
            none
      else
        none
theorem loops52 (N : Nat) : loopsOk C52 (L52 N) Go.Proofs.Tryd.f52 := ⟨trivial, ⟨⟨trivial, ⟨⟨trivial, trivial⟩, trivial⟩⟩, ⟨⟨trivial, ⟨loopOk_of H52_4 N (fun K n v => W52_4 N (fun t2 => K .ret (encH [(4, .bo)] (t2, ()))) (fun _ => K (.exit 0) (encH [] ())) n v.1 v.2.1 v.2.2.1) (by kernel_rfl) (fun K v => by kernel_rfl) (fun K v => by kernel_rfl) (fun K n v => by kernel_rfl), ⟨trivial, ⟨⟨trivial, trivial⟩, ⟨⟨trivial, ⟨trivial, ⟨trivial, ⟨⟨trivial, trivial⟩, trivial⟩⟩⟩⟩, trivial⟩⟩⟩⟩⟩, ⟨trivial, trivial⟩⟩⟩⟩
theorem runs52 (N : Nat) (x : S52.ta.den) : run C52 S52 (L52 N) Go.Proofs.Tryd.f52 x = F52 N x.1 := by kernel_rfl

/-! ### 40: incognito/sign.Takes -/
def L40 (_ : Nat) : Loops (Bool × Unit) := fun _ _ _ => none
def F40 (N : Nat) (p0 : Int) (p1 : Int × Int × ByteArray × Unit) : Option (Bool × Unit) :=
  bif (Go.Inc.okV p1) then
    bif (!(Go.Inc.right p1)) then
      some (false, ())
    else
      bif (p0 == (0 : Int)) then
        bif (p0 == (0 : Int)) then
          bif (p1.1 == (1 : Int)) then
            some (true, ())
          else
            some ((p1.1 == (2 : Int)), ())
        else
          bif (p0 == (5 : Int)) then
            some ((p1.1 == (1 : Int)), ())
          else
            bif (p0 == (6 : Int)) then
              some ((p1.1 == (3 : Int)), ())
            else
              some (false, ())
      else
        bif (p0 == (1 : Int)) then
          bif (p0 == (1 : Int)) then
            bif (p1.1 == (1 : Int)) then
              some (true, ())
            else
              some ((p1.1 == (2 : Int)), ())
          else
            bif (p0 == (5 : Int)) then
              some ((p1.1 == (1 : Int)), ())
            else
              bif (p0 == (6 : Int)) then
              some ((p1.1 == (3 : Int)), ())
            else
              some (false, ())
        else
          bif (p0 == (2 : Int)) then
            bif (p0 == (2 : Int)) then
              bif (p1.1 == (1 : Int)) then
              some (true, ())
            else
              some ((p1.1 == (2 : Int)), ())
            else
              bif (p0 == (5 : Int)) then
              some ((p1.1 == (1 : Int)), ())
            else
              bif (p0 == (6 : Int)) then
              some ((p1.1 == (3 : Int)), ())
            else
              some (false, ())
          else
            bif (p0 == (3 : Int)) then
              bif (p0 == (3 : Int)) then
              bif (p1.1 == (1 : Int)) then
              some (true, ())
            else
              some ((p1.1 == (2 : Int)), ())
            else
              bif (p0 == (5 : Int)) then
              some ((p1.1 == (1 : Int)), ())
            else
              bif (p0 == (6 : Int)) then
              some ((p1.1 == (3 : Int)), ())
            else
              some (false, ())
            else
              bif (p0 == (4 : Int)) then
              bif (p1.1 == (1 : Int)) then
              some (true, ())
            else
              some ((p1.1 == (2 : Int)), ())
            else
              bif (p0 == (5 : Int)) then
              some ((p1.1 == (1 : Int)), ())
            else
              bif (p0 == (6 : Int)) then
              some ((p1.1 == (3 : Int)), ())
            else
              some (false, ())
  else
    none
theorem loops40 (N : Nat) : loopsOk C40 (L40 N) Go.Proofs.Tryd.f40 := ⟨trivial, ⟨⟨trivial, ⟨⟨trivial, trivial⟩, trivial⟩⟩, ⟨⟨trivial, ⟨⟨trivial, ⟨trivial, ⟨trivial, ⟨trivial, ⟨trivial, ⟨trivial, ⟨trivial, ⟨trivial, trivial⟩⟩⟩⟩⟩⟩⟩⟩, ⟨⟨trivial, trivial⟩, ⟨trivial, ⟨⟨trivial, trivial⟩, trivial⟩⟩⟩⟩⟩, ⟨trivial, trivial⟩⟩⟩⟩
theorem runs40 (N : Nat) (x : S40.ta.den) : run C40 S40 (L40 N) Go.Proofs.Tryd.f40 x = F40 N x.1 x.2.1 := by kernel_rfl

/-! ### 51: incognito/sign.domain -/
def L51 (_ : Nat) : Loops (Int × Unit) := fun _ _ _ => none
def F51 (N : Nat) (p0 : Int) : Option (Int × Unit) :=
  bif (p0 == (118 : Int)) then
    some ((2 : Int), ())
  else
    bif (p0 == (102 : Int)) then
      some ((3 : Int), ())
    else
      bif (p0 == (111 : Int)) then
        some ((4 : Int), ())
      else
        some ((5 : Int), ())
theorem loops51 (N : Nat) : loopsOk C51 (L51 N) Go.Proofs.Tryd.f51 := ⟨trivial, ⟨⟨trivial, ⟨trivial, ⟨⟨trivial, trivial⟩, ⟨trivial, ⟨⟨trivial, trivial⟩, ⟨trivial, ⟨⟨trivial, trivial⟩, trivial⟩⟩⟩⟩⟩⟩⟩, ⟨trivial, trivial⟩⟩⟩
theorem runs51 (N : Nat) (x : S51.ta.den) : run C51 S51 (L51 N) Go.Proofs.Tryd.f51 x = F51 N x.1 := by kernel_rfl

/-! ### 43: incognito/event.fits -/
def W43_4 {β : Type} (N : Nat) (x0 : Bool → Option β) (x1 : Unit → Option β) : Nat → (List (Int × Int × ByteArray × Unit)) → (List Int) → Int → Int → Option β
  | 0, _, _, _, _ => none
  | n + 1, t1, t12, t13, t14 =>
  bif decide (t14 < t13) then
    bif ((decide ((0 : Int) ≤ t14)) && (decide (t14 < (((List.length t12) : Nat) : Int)))) then
      bif ((decide ((0 : Int) ≤ t14)) && (decide (t14 < (((List.length t1) : Nat) : Int)))) then
        bif (Go.Inc.okT (List.getD t12 (Int.toNat t14) (0 : Int)) (List.getD t1 (Int.toNat t14) ((0 : Int), ((0 : Int), (ByteArray.empty, ()))))) then
          bif (!(Go.Inc.takes (List.getD t12 (Int.toNat t14) (0 : Int)) (List.getD t1 (Int.toNat t14) ((0 : Int), ((0 : Int), (ByteArray.empty, ())))))) then
            x0 false
          else
            W43_4 N x0 x1 n t1 t12 t13 (Go.IntKind.wrap .i64 (t14 + (1 : Int)))
        else
          none
      else
        none
    else
      none
  else
    x1 ()
def L43 (N : Nat) : Loops (Bool × Unit) := fun k ρ K => match Nat.beq k 4 with
  | true => (match adH ρ H43_4.hd with
    | some v => W43_4 N (fun t4 => K .ret (encH [(8, .bo)] (t4, ()))) (fun _ => K (.exit 0) (encH [] ())) N v.1 v.2.1 v.2.2.1 v.2.2.2.1
    | none => none)
  | false => none
def F43 (N : Nat) (p0 : List Int) (p1 : List (Int × Int × ByteArray × Unit)) : Option (Bool × Unit) :=
  bif ((((List.length p0) : Nat) : Int) != (((List.length p1) : Nat) : Int)) then
    some (false, ())
  else
    W43_4 N
      (fun t4 =>
        some (t4, ()))
      (fun (_ : Unit) =>
        some (true, ()))
      N p1 p0 (((List.length p0) : Nat) : Int) (0 : Int)
theorem loops43 (N : Nat) : loopsOk C43 (L43 N) Go.Proofs.Tryd.f43 := ⟨trivial, ⟨⟨trivial, ⟨⟨trivial, trivial⟩, trivial⟩⟩, ⟨⟨trivial, ⟨loopOk_of H43_4 N (fun K n v => W43_4 N (fun t4 => K .ret (encH [(8, .bo)] (t4, ()))) (fun _ => K (.exit 0) (encH [] ())) n v.1 v.2.1 v.2.2.1 v.2.2.2.1) (by kernel_rfl) (fun K v => by kernel_rfl) (fun K v => by kernel_rfl) (fun K n v => by kernel_rfl), ⟨trivial, ⟨⟨trivial, trivial⟩, ⟨⟨trivial, ⟨trivial, ⟨⟨trivial, trivial⟩, trivial⟩⟩⟩, trivial⟩⟩⟩⟩⟩, ⟨trivial, trivial⟩⟩⟩⟩
theorem runs43 (N : Nat) (x : S43.ta.den) : run C43 S43 (L43 N) Go.Proofs.Tryd.f43 x = F43 N x.1 x.2.1 := by kernel_rfl

/-! ### 33: incognito/event.Right -/
def W33_9 {β : Type} (N : Nat) (x0 : Bool → Option β) (x1 : Int → Int → Int → ByteArray → Int → Int → Int → Int → ByteArray → Int → (List (Int × Int × ByteArray × Unit)) → (List (Int × Int × ByteArray × Unit)) → Bool → ByteArray → Option β) : Nat → Int → Int → Int → ByteArray → Int → Int → Int → Int → ByteArray → Int → (List (Int × Int × ByteArray × Unit)) → (List (Int × Int × ByteArray × Unit)) → Bool → ByteArray → (List (Int × Int × ByteArray × Unit)) → Int → Int → Option β
  | 0, _, _, _, _, _, _, _, _, _, _, _, _, _, _, _, _, _ => none
  | n + 1, b1a, b1ba, b1bba, b1bbba, b1bbbba, b1bbbbba, b1bbbbbba, b1bbbbbbba, b1bbbbbbbba, b1bbbbbbbbba, b1bbbbbbbbbba, b1bbbbbbbbbbba, b1bbbbbbbbbbbba, b1bbbbbbbbbbbbba, t71, t72, t73 =>
  bif decide (t73 < t72) then
    bif ((decide ((0 : Int) ≤ t73)) && (decide (t73 < (((List.length t71) : Nat) : Int)))) then
      bif (Go.Inc.okV (List.getD t71 (Int.toNat t73) ((0 : Int), ((0 : Int), (ByteArray.empty, ()))))) then
        bif (!(Go.Inc.right (List.getD t71 (Int.toNat t73) ((0 : Int), ((0 : Int), (ByteArray.empty, ())))))) then
          x0 false
        else
          W33_9 N x0 x1 n b1a b1ba b1bba b1bbba b1bbbba b1bbbbba b1bbbbbba b1bbbbbbba b1bbbbbbbba b1bbbbbbbbba b1bbbbbbbbbba b1bbbbbbbbbbba b1bbbbbbbbbbbba b1bbbbbbbbbbbbba t71 t72 (Go.IntKind.wrap .i64 (t73 + (1 : Int)))
      else
        none
    else
      none
  else
    x1 b1a b1ba b1bba b1bbba b1bbbba b1bbbbba b1bbbbbba b1bbbbbbba b1bbbbbbbba b1bbbbbbbbba b1bbbbbbbbbba b1bbbbbbbbbbba b1bbbbbbbbbbbba b1bbbbbbbbbbbbba
def L33 (N : Nat) : Loops (Bool × Unit) := fun k ρ K => match Nat.beq k 9 with
  | true => (match adH ρ H33_9.hd with
    | some v => W33_9 N (fun t2 => K .ret (encH [(4, .bo)] (t2, ()))) (fun b1a b1ba b1bba b1bbba b1bbbba b1bbbbba b1bbbbbba b1bbbbbbba b1bbbbbbbba b1bbbbbbbbba b1bbbbbbbbbba b1bbbbbbbbbbba b1bbbbbbbbbbbba b1bbbbbbbbbbbbba => K (.exit 0) (encH [(2, (.bx 1 0)), (3, (.pr (.i .i64) (.pr (.i .i64) (.pr (.i .i64) (.pr .st (.pr (.i .i64) (.pr (.i .i64) (.pr (.i .i64) (.pr (.i .i64) (.pr .st (.pr (.i .i64) (.pr (.sl (.pr (.int .i64) (.pr (.int .i64) (.pr .str .un))) .no) (.pr (.sl (.pr (.int .i64) (.pr (.int .i64) (.pr .str .un))) .no) (.pr .bo (.pr .st .un)))))))))))))))] ((), ((b1a, (b1ba, (b1bba, (b1bbba, (b1bbbba, (b1bbbbba, (b1bbbbbba, (b1bbbbbbba, (b1bbbbbbbba, (b1bbbbbbbbba, (b1bbbbbbbbbba, (b1bbbbbbbbbbba, (b1bbbbbbbbbbbba, (b1bbbbbbbbbbbbba, ())))))))))))))), ())))) N v.2.1.1 v.2.1.2.1 v.2.1.2.2.1 v.2.1.2.2.2.1 v.2.1.2.2.2.2.1 v.2.1.2.2.2.2.2.1 v.2.1.2.2.2.2.2.2.1 v.2.1.2.2.2.2.2.2.2.1 v.2.1.2.2.2.2.2.2.2.2.1 v.2.1.2.2.2.2.2.2.2.2.2.1 v.2.1.2.2.2.2.2.2.2.2.2.2.1 v.2.1.2.2.2.2.2.2.2.2.2.2.2.1 v.2.1.2.2.2.2.2.2.2.2.2.2.2.2.1 v.2.1.2.2.2.2.2.2.2.2.2.2.2.2.2.1 v.2.2.1 v.2.2.2.1 v.2.2.2.2.1
    | none => none)
  | false => none
def F33 (N : Nat) (p0 : Int × (Int × Int × ByteArray × Unit) × Int × Int × (Int × Int × ByteArray × Unit) × Int × (List (Int × Int × ByteArray × Unit)) × (List (Int × Int × ByteArray × Unit)) × Bool × ByteArray × Unit) : Option (Bool × Unit) :=
  bif decide (p0.1 < (0 : Int)) then
    some (false, ())
  else
    bif (Go.Inc.okT (0 : Int) p0.2.1) then
      bif (!(Go.Inc.takes (0 : Int) p0.2.1)) then
        some (false, ())
      else
        bif (Go.Inc.okE p0) then
          bif (!(Go.Inc.notedE p0)) then
            some (false, ())
          else
            bif (p0.2.2.1 == (1 : Int)) then
              bif ((Go.Inc.argsGo p0.2.2.2.1 p0.2.2.2.2.2.1).2).1 then
              bif (Go.Inc.okT (1 : Int) p0.2.2.2.2.1) then
              bif (Go.Inc.takes (1 : Int) p0.2.2.2.2.1) then
              bif (Go.Inc.okEvFits ((Go.Inc.argsGo p0.2.2.2.1 p0.2.2.2.2.2.1).1) p0.2.2.2.2.2.2.1) then
              bif (Go.Inc.evFits ((Go.Inc.argsGo p0.2.2.2.1 p0.2.2.2.2.2.1).1) p0.2.2.2.2.2.2.1) then
              some (((((List.length p0.2.2.2.2.2.2.2.1) : Nat) : Int) == (0 : Int)), ())
            else
              some (false, ())
            else
              none
            else
              some (false, ())
            else
              none
            else
              some (false, ())
            else
              bif (p0.2.2.2.1 != (0 : Int)) then
              some (false, ())
            else
              bif (p0.2.2.2.2.2.1 != (0 : Int)) then
              some (false, ())
            else
              bif (!((p0.2.2.2.2.1.1 == (0 : Int)) && ((p0.2.2.2.2.1.2.1 == (0 : Int)) && ((p0.2.2.2.2.1.2.2.1 == ByteArray.empty) && true)))) then
              some (false, ())
            else
              bif decide ((((List.length p0.2.2.2.2.2.2.1) : Nat) : Int) > (0 : Int)) then
              some (false, ())
            else
              W33_9 N
              (fun t2 =>
                some (t2, ()))
              (fun b1a b1ba b1bba b1bbba b1bbbba b1bbbbba b1bbbbbba b1bbbbbbba b1bbbbbbbba b1bbbbbbbbba b1bbbbbbbbbba b1bbbbbbbbbbba b1bbbbbbbbbbbba b1bbbbbbbbbbbbba =>
                bif (b1bbbba == (2 : Int)) then
              some (true, ())
            else
              bif (b1bbbba == (3 : Int)) then
              some (((((List.length b1bbbbbbbbbbba) : Nat) : Int) == (0 : Int)), ())
            else
              bif (b1bbbba == (4 : Int)) then
              some (((((List.length b1bbbbbbbbbbba) : Nat) : Int) == (0 : Int)), ())
            else
              some (false, ()))
              N p0.1 p0.2.1.1 p0.2.1.2.1 p0.2.1.2.2.1 p0.2.2.1 p0.2.2.2.1 p0.2.2.2.2.1.1 p0.2.2.2.2.1.2.1 p0.2.2.2.2.1.2.2.1 p0.2.2.2.2.2.1 p0.2.2.2.2.2.2.1 p0.2.2.2.2.2.2.2.1 p0.2.2.2.2.2.2.2.2.1 p0.2.2.2.2.2.2.2.2.2.1 p0.2.2.2.2.2.2.2.1 (((List.length p0.2.2.2.2.2.2.2.1) : Nat) : Int) (0 : Int)
        else
          none
    else
      none
theorem loops33 (N : Nat) : loopsOk C33 (L33 N) Go.Proofs.Tryd.f33 := ⟨trivial, ⟨⟨trivial, ⟨⟨trivial, trivial⟩, trivial⟩⟩, ⟨⟨trivial, ⟨⟨trivial, ⟨trivial, trivial⟩⟩, trivial⟩⟩, ⟨⟨trivial, ⟨⟨trivial, trivial⟩, trivial⟩⟩, ⟨⟨trivial, ⟨loopOk_of H33_9 N (fun K n v => W33_9 N (fun t2 => K .ret (encH [(4, .bo)] (t2, ()))) (fun b1a b1ba b1bba b1bbba b1bbbba b1bbbbba b1bbbbbba b1bbbbbbba b1bbbbbbbba b1bbbbbbbbba b1bbbbbbbbbba b1bbbbbbbbbbba b1bbbbbbbbbbbba b1bbbbbbbbbbbbba => K (.exit 0) (encH [(2, (.bx 1 0)), (3, (.pr (.i .i64) (.pr (.i .i64) (.pr (.i .i64) (.pr .st (.pr (.i .i64) (.pr (.i .i64) (.pr (.i .i64) (.pr (.i .i64) (.pr .st (.pr (.i .i64) (.pr (.sl (.pr (.int .i64) (.pr (.int .i64) (.pr .str .un))) .no) (.pr (.sl (.pr (.int .i64) (.pr (.int .i64) (.pr .str .un))) .no) (.pr .bo (.pr .st .un)))))))))))))))] ((), ((b1a, (b1ba, (b1bba, (b1bbba, (b1bbbba, (b1bbbbba, (b1bbbbbba, (b1bbbbbbba, (b1bbbbbbbba, (b1bbbbbbbbba, (b1bbbbbbbbbba, (b1bbbbbbbbbbba, (b1bbbbbbbbbbbba, (b1bbbbbbbbbbbbba, ())))))))))))))), ())))) n v.2.1.1 v.2.1.2.1 v.2.1.2.2.1 v.2.1.2.2.2.1 v.2.1.2.2.2.2.1 v.2.1.2.2.2.2.2.1 v.2.1.2.2.2.2.2.2.1 v.2.1.2.2.2.2.2.2.2.1 v.2.1.2.2.2.2.2.2.2.2.1 v.2.1.2.2.2.2.2.2.2.2.2.1 v.2.1.2.2.2.2.2.2.2.2.2.2.1 v.2.1.2.2.2.2.2.2.2.2.2.2.2.1 v.2.1.2.2.2.2.2.2.2.2.2.2.2.2.1 v.2.1.2.2.2.2.2.2.2.2.2.2.2.2.2.1 v.2.2.1 v.2.2.2.1 v.2.2.2.2.1) (by kernel_rfl) (fun K v => by kernel_rfl) (fun K v => by kernel_rfl) (fun K n v => by kernel_rfl), ⟨trivial, ⟨⟨trivial, trivial⟩, ⟨⟨trivial, ⟨trivial, ⟨⟨trivial, trivial⟩, trivial⟩⟩⟩, trivial⟩⟩⟩⟩⟩, ⟨trivial, trivial⟩⟩⟩⟩⟩⟩
theorem runs33 (N : Nat) (x : S33.ta.den) : run C33 S33 (L33 N) Go.Proofs.Tryd.f33 x = F33 N x.1 := by kernel_rfl

/-! ### 34: incognito/sign.Outs -/
def L34 (_ : Nat) : Loops ((List Int) × Bool × Unit) := fun _ _ _ => none
def F34 (N : Nat) (p0 : Int) (p1 : Int) (p2 : List (Int × Int × ByteArray × Unit)) : Option ((List Int) × Bool × Unit) :=
  bif (!(((Go.Inc.findGo p0 p1).2).1)) then
    some (([] : List Int), (false, ()))
  else
    bif decide (((((((Go.Inc.findGo p0 p1).1).2).2).2).1) < (0 : Int)) then
      some (([] : List Int), (((((List.length p2) : Nat) : Int) == (0 : Int)), ()))
    else
      bif (((((((Go.Inc.findGo p0 p1).1).2).2).2).1) == (99 : Int)) then
        bif (Go.Inc.okL2 p2) then
          some (Go.Inc.pairedGo p2)
        else
          none
      else
        bif ((((List.length p2) : Nat) : Int) != (1 : Int)) then
          some (([] : List Int), (false, ()))
        else
          bif ((decide ((0 : Int) ≤ (0 : Int))) && (decide ((0 : Int) < (((List.length p2) : Nat) : Int)))) then
            bif (Go.Inc.okT ((((((Go.Inc.findGo p0 p1).1).2).2).2).1) (List.getD p2 (Int.toNat (0 : Int)) ((0 : Int), ((0 : Int), (ByteArray.empty, ()))))) then
              bif (!(Go.Inc.takes ((((((Go.Inc.findGo p0 p1).1).2).2).2).1) (List.getD p2 (Int.toNat (0 : Int)) ((0 : Int), ((0 : Int), (ByteArray.empty, ())))))) then
              bif ((((((Go.Inc.findGo p0 p1).1).2).2).2).2).1 then
              bif ((decide ((0 : Int) ≤ (0 : Int))) && (decide ((0 : Int) < (((List.length p2) : Nat) : Int)))) then
              bif (!((((List.getD p2 (Int.toNat (0 : Int)) ((0 : Int), ((0 : Int), (ByteArray.empty, ())))).1) == (0 : Int)) && (((((List.getD p2 (Int.toNat (0 : Int)) ((0 : Int), ((0 : Int), (ByteArray.empty, ())))).2).1) == (0 : Int)) && ((((((List.getD p2 (Int.toNat (0 : Int)) ((0 : Int), ((0 : Int), (ByteArray.empty, ())))).2).2).1) == ByteArray.empty) && true)))) then
              some (([] : List Int), (false, ()))
            else
              some ((((((((Go.Inc.findGo p0 p1).1).2).2).2).1) :: ([] : List Int)), (true, ()))
            else
              none
            else
              some (([] : List Int), (false, ()))
            else
              some ((((((((Go.Inc.findGo p0 p1).1).2).2).2).1) :: ([] : List Int)), (true, ()))
            else
              none
          else
            none
theorem loops34 (N : Nat) : loopsOk C34 (L34 N) Go.Proofs.Tryd.f34 := ⟨trivial, ⟨trivial, ⟨⟨trivial, ⟨⟨trivial, trivial⟩, ⟨trivial, ⟨⟨trivial, trivial⟩, ⟨trivial, ⟨⟨trivial, trivial⟩, ⟨trivial, ⟨⟨trivial, trivial⟩, trivial⟩⟩⟩⟩⟩⟩⟩⟩, ⟨trivial, trivial⟩⟩⟩⟩
theorem runs34 (N : Nat) (x : S34.ta.den) : run C34 S34 (L34 N) Go.Proofs.Tryd.f34 x = F34 N x.1 x.2.1 x.2.2.1 := by kernel_rfl

/-! ### 10: incognito/pair.Check -/
def L10 (_ : Nat) : Loops ((Int × Int × Unit) × Unit) := fun _ _ _ => none
def F10 (N : Nat) (p0 : List (Int × (Int × Int × ByteArray × Unit) × Int × Int × (Int × Int × ByteArray × Unit) × Int × (List (Int × Int × ByteArray × Unit)) × (List (Int × Int × ByteArray × Unit)) × Bool × ByteArray × Unit)) : Option ((Int × Int × Unit) × Unit) :=
  bif (Go.Inc.okAll p0) then
    some ((Go.Inc.pairAll p0).2, ())
  else
    none
theorem loops10 (N : Nat) : loopsOk C10 (L10 N) Go.Proofs.Tryd.f10 := ⟨trivial, ⟨trivial, ⟨trivial, trivial⟩⟩⟩
theorem runs10 (N : Nat) (x : S10.ta.den) : run C10 S10 (L10 N) Go.Proofs.Tryd.f10 x = F10 N x.1 := by kernel_rfl

/-! ### 32: slices.Index[[]int,int] -/
def W32_2 {β : Type} (N : Nat) (x0 : Int → Option β) (x1 : Unit → Option β) : Nat → (List Int) → Int → Int → Int → Option β
  | 0, _, _, _, _ => none
  | n + 1, t0, t1, t7, t8 =>
  bif decide (t8 < t7) then
    bif ((decide ((0 : Int) ≤ t8)) && (decide (t8 < (((List.length t0) : Nat) : Int)))) then
      bif (t1 == (List.getD t0 (Int.toNat t8) (0 : Int))) then
        x0 t8
      else
        W32_2 N x0 x1 n t0 t1 t7 (Go.IntKind.wrap .i64 (t8 + (1 : Int)))
    else
      none
  else
    x1 ()
def L32 (N : Nat) : Loops (Int × Unit) := fun k ρ K => match Nat.beq k 2 with
  | true => (match adH ρ H32_2.hd with
    | some v => W32_2 N (fun t4 => K .ret (encH [(8, (.i .i64))] (t4, ()))) (fun _ => K (.exit 0) (encH [] ())) N v.1 v.2.1 v.2.2.1 v.2.2.2.1
    | none => none)
  | false => none
def F32 (N : Nat) (p0 : List Int) (p1 : Int) : Option (Int × Unit) :=
  W32_2 N
    (fun t4 =>
      some (t4, ()))
    (fun (_ : Unit) =>
      some ((-(1 : Int)), ()))
    N p0 p1 (((List.length p0) : Nat) : Int) (0 : Int)
theorem loops32 (N : Nat) : loopsOk C32 (L32 N) Go.Proofs.Tryd.f32 := ⟨trivial, ⟨⟨trivial, ⟨loopOk_of H32_2 N (fun K n v => W32_2 N (fun t4 => K .ret (encH [(8, (.i .i64))] (t4, ()))) (fun _ => K (.exit 0) (encH [] ())) n v.1 v.2.1 v.2.2.1 v.2.2.2.1) (by kernel_rfl) (fun K v => by kernel_rfl) (fun K v => by kernel_rfl) (fun K n v => by kernel_rfl), ⟨trivial, ⟨⟨trivial, trivial⟩, ⟨⟨trivial, ⟨trivial, ⟨⟨trivial, trivial⟩, trivial⟩⟩⟩, trivial⟩⟩⟩⟩⟩, ⟨trivial, trivial⟩⟩⟩
theorem runs32 (N : Nat) (x : S32.ta.den) : run C32 S32 (L32 N) Go.Proofs.Tryd.f32 x = F32 N x.1 x.2.1 := by kernel_rfl

/-! ### 12: incognito/pair.Opers -/
def W12_6 {β : Type} (N : Nat) (x1 : Int → Int → Int → Int → (List ((Int × Int × ByteArray × Unit) × Int × (Int × Int × ByteArray × Unit) × Int × (List (Int × Int × ByteArray × Unit)) × (List (Int × Int × ByteArray × Unit)) × Int × Int × Unit)) → Option β) : Nat → (List (Int × (Int × Int × ByteArray × Unit) × Int × Int × (Int × Int × ByteArray × Unit) × Int × (List (Int × Int × ByteArray × Unit)) × (List (Int × Int × ByteArray × Unit)) × Bool × ByteArray × Unit)) → Int → Int → Int → Int → (List ((Int × Int × ByteArray × Unit) × Int × (Int × Int × ByteArray × Unit) × Int × (List (Int × Int × ByteArray × Unit)) × (List (Int × Int × ByteArray × Unit)) × Int × Int × Unit)) → Int → (List Int) → (List Int) → (List (Int × (Int × Int × ByteArray × Unit) × Int × Int × (Int × Int × ByteArray × Unit) × Int × (List (Int × Int × ByteArray × Unit)) × (List (Int × Int × ByteArray × Unit)) × Bool × ByteArray × Unit)) → Int → Int → Option β
  | 0, _, _, _, _, _, _, _, _, _, _, _, _ => none
  | n + 1, t0, b3a, b3ba, b5a, b5ba, t6, b13bba, b13bbba, b13bbbba, t20, t21, t22 =>
  bif decide (t22 < t21) then
    bif ((decide ((0 : Int) ≤ t22)) && (decide (t22 < (((List.length t20) : Nat) : Int)))) then
      bif (((((List.getD t20 (Int.toNat t22) ((0 : Int), (((0 : Int), ((0 : Int), (ByteArray.empty, ()))), ((0 : Int), ((0 : Int), (((0 : Int), ((0 : Int), (ByteArray.empty, ()))), ((0 : Int), ([], ([], (false, (ByteArray.empty, ()))))))))))).2).2).1) != (1 : Int)) then
        W12_6 N x1 n t0 b3a b3ba b5a b5ba t6 b13bba b13bbba b13bbbba t20 t21 (Go.IntKind.wrap .i64 (t22 + (1 : Int)))
      else
        bif (Go.Inc.okIdxI b13bbba t22) then
          bif (Go.Inc.hasI b13bbba t22) then
            W12_6 N x1 n t0 b3a b3ba b5a b5ba t6 b13bba b13bbba b13bbbba t20 t21 (Go.IntKind.wrap .i64 (t22 + (1 : Int)))
          else
            bif (Go.Inc.okClone ((((((((List.getD t20 (Int.toNat t22) ((0 : Int), (((0 : Int), ((0 : Int), (ByteArray.empty, ()))), ((0 : Int), ((0 : Int), (((0 : Int), ((0 : Int), (ByteArray.empty, ()))), ((0 : Int), ([], ([], (false, (ByteArray.empty, ()))))))))))).2).2).2).2).2).2).1)) then
              bif ((decide ((0 : Int) ≤ t22)) && (decide (t22 < (((List.length b13bbbba) : Nat) : Int)))) then
              bif decide ((List.getD b13bbbba (Int.toNat t22) (0 : Int)) > (0 : Int)) then
              bif ((decide ((0 : Int) ≤ (List.getD b13bbbba (Int.toNat t22) (0 : Int)))) && (decide ((List.getD b13bbbba (Int.toNat t22) (0 : Int)) < (((List.length t0) : Nat) : Int)))) then
              bif (Go.Inc.okClone (((((((((List.getD t0 (Int.toNat (List.getD b13bbbba (Int.toNat t22) (0 : Int))) ((0 : Int), (((0 : Int), ((0 : Int), (ByteArray.empty, ()))), ((0 : Int), ((0 : Int), (((0 : Int), ((0 : Int), (ByteArray.empty, ()))), ((0 : Int), ([], ([], (false, (ByteArray.empty, ()))))))))))).2).2).2).2).2).2).2).1)) then
              bif decide ((((List.length t6) + (List.length ((((List.getD t20 (Int.toNat t22) ((0 : Int), (((0 : Int), ((0 : Int), (ByteArray.empty, ()))), ((0 : Int), ((0 : Int), (((0 : Int), ((0 : Int), (ByteArray.empty, ()))), ((0 : Int), ([], ([], (false, (ByteArray.empty, ()))))))))))).2).1, (((((List.getD t20 (Int.toNat t22) ((0 : Int), (((0 : Int), ((0 : Int), (ByteArray.empty, ()))), ((0 : Int), ((0 : Int), (((0 : Int), ((0 : Int), (ByteArray.empty, ()))), ((0 : Int), ([], ([], (false, (ByteArray.empty, ()))))))))))).2).2).2).1, ((((((List.getD t20 (Int.toNat t22) ((0 : Int), (((0 : Int), ((0 : Int), (ByteArray.empty, ()))), ((0 : Int), ((0 : Int), (((0 : Int), ((0 : Int), (ByteArray.empty, ()))), ((0 : Int), ([], ([], (false, (ByteArray.empty, ()))))))))))).2).2).2).2).1, (((((((List.getD t20 (Int.toNat t22) ((0 : Int), (((0 : Int), ((0 : Int), (ByteArray.empty, ()))), ((0 : Int), ((0 : Int), (((0 : Int), ((0 : Int), (ByteArray.empty, ()))), ((0 : Int), ([], ([], (false, (ByteArray.empty, ()))))))))))).2).2).2).2).2).1, ((Go.Inc.cloneV ((((((((List.getD t20 (Int.toNat t22) ((0 : Int), (((0 : Int), ((0 : Int), (ByteArray.empty, ()))), ((0 : Int), ((0 : Int), (((0 : Int), ((0 : Int), (ByteArray.empty, ()))), ((0 : Int), ([], ([], (false, (ByteArray.empty, ()))))))))))).2).2).2).2).2).2).1)), ((Go.Inc.cloneV (((((((((List.getD t0 (Int.toNat (List.getD b13bbbba (Int.toNat t22) (0 : Int))) ((0 : Int), (((0 : Int), ((0 : Int), (ByteArray.empty, ()))), ((0 : Int), ((0 : Int), (((0 : Int), ((0 : Int), (ByteArray.empty, ()))), ((0 : Int), ([], ([], (false, (ByteArray.empty, ()))))))))))).2).2).2).2).2).2).2).1)), (t22, ((List.getD b13bbbba (Int.toNat t22) (0 : Int)), ())))))))) :: ([] : List ((Int × (Int × (ByteArray × Unit))) × (Int × ((Int × (Int × (ByteArray × Unit))) × (Int × ((List (Int × (Int × (ByteArray × Unit)))) × ((List (Int × (Int × (ByteArray × Unit)))) × (Int × (Int × Unit)))))))))))) * 144) ≤ 140737488351232) then
              W12_6 N x1 n t0 b3a b3ba b5a b5ba (t6 ++ ((((List.getD t20 (Int.toNat t22) ((0 : Int), (((0 : Int), ((0 : Int), (ByteArray.empty, ()))), ((0 : Int), ((0 : Int), (((0 : Int), ((0 : Int), (ByteArray.empty, ()))), ((0 : Int), ([], ([], (false, (ByteArray.empty, ()))))))))))).2).1, (((((List.getD t20 (Int.toNat t22) ((0 : Int), (((0 : Int), ((0 : Int), (ByteArray.empty, ()))), ((0 : Int), ((0 : Int), (((0 : Int), ((0 : Int), (ByteArray.empty, ()))), ((0 : Int), ([], ([], (false, (ByteArray.empty, ()))))))))))).2).2).2).1, ((((((List.getD t20 (Int.toNat t22) ((0 : Int), (((0 : Int), ((0 : Int), (ByteArray.empty, ()))), ((0 : Int), ((0 : Int), (((0 : Int), ((0 : Int), (ByteArray.empty, ()))), ((0 : Int), ([], ([], (false, (ByteArray.empty, ()))))))))))).2).2).2).2).1, (((((((List.getD t20 (Int.toNat t22) ((0 : Int), (((0 : Int), ((0 : Int), (ByteArray.empty, ()))), ((0 : Int), ((0 : Int), (((0 : Int), ((0 : Int), (ByteArray.empty, ()))), ((0 : Int), ([], ([], (false, (ByteArray.empty, ()))))))))))).2).2).2).2).2).1, ((Go.Inc.cloneV ((((((((List.getD t20 (Int.toNat t22) ((0 : Int), (((0 : Int), ((0 : Int), (ByteArray.empty, ()))), ((0 : Int), ((0 : Int), (((0 : Int), ((0 : Int), (ByteArray.empty, ()))), ((0 : Int), ([], ([], (false, (ByteArray.empty, ()))))))))))).2).2).2).2).2).2).1)), ((Go.Inc.cloneV (((((((((List.getD t0 (Int.toNat (List.getD b13bbbba (Int.toNat t22) (0 : Int))) ((0 : Int), (((0 : Int), ((0 : Int), (ByteArray.empty, ()))), ((0 : Int), ((0 : Int), (((0 : Int), ((0 : Int), (ByteArray.empty, ()))), ((0 : Int), ([], ([], (false, (ByteArray.empty, ()))))))))))).2).2).2).2).2).2).2).1)), (t22, ((List.getD b13bbbba (Int.toNat t22) (0 : Int)), ())))))))) :: ([] : List ((Int × (Int × (ByteArray × Unit))) × (Int × ((Int × (Int × (ByteArray × Unit))) × (Int × ((List (Int × (Int × (ByteArray × Unit)))) × ((List (Int × (Int × (ByteArray × Unit)))) × (Int × (Int × Unit))))))))))) b13bba b13bbba b13bbbba t20 t21 (Go.IntKind.wrap .i64 (t22 + (1 : Int)))
            else
              none
            else
              none
            else
              none
            else
              bif decide ((((List.length t6) + (List.length ((((List.getD t20 (Int.toNat t22) ((0 : Int), (((0 : Int), ((0 : Int), (ByteArray.empty, ()))), ((0 : Int), ((0 : Int), (((0 : Int), ((0 : Int), (ByteArray.empty, ()))), ((0 : Int), ([], ([], (false, (ByteArray.empty, ()))))))))))).2).1, (((((List.getD t20 (Int.toNat t22) ((0 : Int), (((0 : Int), ((0 : Int), (ByteArray.empty, ()))), ((0 : Int), ((0 : Int), (((0 : Int), ((0 : Int), (ByteArray.empty, ()))), ((0 : Int), ([], ([], (false, (ByteArray.empty, ()))))))))))).2).2).2).1, ((((((List.getD t20 (Int.toNat t22) ((0 : Int), (((0 : Int), ((0 : Int), (ByteArray.empty, ()))), ((0 : Int), ((0 : Int), (((0 : Int), ((0 : Int), (ByteArray.empty, ()))), ((0 : Int), ([], ([], (false, (ByteArray.empty, ()))))))))))).2).2).2).2).1, (((((((List.getD t20 (Int.toNat t22) ((0 : Int), (((0 : Int), ((0 : Int), (ByteArray.empty, ()))), ((0 : Int), ((0 : Int), (((0 : Int), ((0 : Int), (ByteArray.empty, ()))), ((0 : Int), ([], ([], (false, (ByteArray.empty, ()))))))))))).2).2).2).2).2).1, ((Go.Inc.cloneV ((((((((List.getD t20 (Int.toNat t22) ((0 : Int), (((0 : Int), ((0 : Int), (ByteArray.empty, ()))), ((0 : Int), ((0 : Int), (((0 : Int), ((0 : Int), (ByteArray.empty, ()))), ((0 : Int), ([], ([], (false, (ByteArray.empty, ()))))))))))).2).2).2).2).2).2).1)), (([] : List (Int × (Int × (ByteArray × Unit)))), (t22, ((-(1 : Int)), ())))))))) :: ([] : List ((Int × (Int × (ByteArray × Unit))) × (Int × ((Int × (Int × (ByteArray × Unit))) × (Int × ((List (Int × (Int × (ByteArray × Unit)))) × ((List (Int × (Int × (ByteArray × Unit)))) × (Int × (Int × Unit)))))))))))) * 144) ≤ 140737488351232) then
              W12_6 N x1 n t0 b3a b3ba b5a b5ba (t6 ++ ((((List.getD t20 (Int.toNat t22) ((0 : Int), (((0 : Int), ((0 : Int), (ByteArray.empty, ()))), ((0 : Int), ((0 : Int), (((0 : Int), ((0 : Int), (ByteArray.empty, ()))), ((0 : Int), ([], ([], (false, (ByteArray.empty, ()))))))))))).2).1, (((((List.getD t20 (Int.toNat t22) ((0 : Int), (((0 : Int), ((0 : Int), (ByteArray.empty, ()))), ((0 : Int), ((0 : Int), (((0 : Int), ((0 : Int), (ByteArray.empty, ()))), ((0 : Int), ([], ([], (false, (ByteArray.empty, ()))))))))))).2).2).2).1, ((((((List.getD t20 (Int.toNat t22) ((0 : Int), (((0 : Int), ((0 : Int), (ByteArray.empty, ()))), ((0 : Int), ((0 : Int), (((0 : Int), ((0 : Int), (ByteArray.empty, ()))), ((0 : Int), ([], ([], (false, (ByteArray.empty, ()))))))))))).2).2).2).2).1, (((((((List.getD t20 (Int.toNat t22) ((0 : Int), (((0 : Int), ((0 : Int), (ByteArray.empty, ()))), ((0 : Int), ((0 : Int), (((0 : Int), ((0 : Int), (ByteArray.empty, ()))), ((0 : Int), ([], ([], (false, (ByteArray.empty, ()))))))))))).2).2).2).2).2).1, ((Go.Inc.cloneV ((((((((List.getD t20 (Int.toNat t22) ((0 : Int), (((0 : Int), ((0 : Int), (ByteArray.empty, ()))), ((0 : Int), ((0 : Int), (((0 : Int), ((0 : Int), (ByteArray.empty, ()))), ((0 : Int), ([], ([], (false, (ByteArray.empty, ()))))))))))).2).2).2).2).2).2).1)), (([] : List (Int × (Int × (ByteArray × Unit)))), (t22, ((-(1 : Int)), ())))))))) :: ([] : List ((Int × (Int × (ByteArray × Unit))) × (Int × ((Int × (Int × (ByteArray × Unit))) × (Int × ((List (Int × (Int × (ByteArray × Unit)))) × ((List (Int × (Int × (ByteArray × Unit)))) × (Int × (Int × Unit))))))))))) b13bba b13bbba b13bbbba t20 t21 (Go.IntKind.wrap .i64 (t22 + (1 : Int)))
            else
              none
            else
              none
            else
              none
        else
          none
    else
      none
  else
    x1 b3a b3ba b5a b5ba t6
def L12 (N : Nat) : Loops ((List ((Int × Int × ByteArray × Unit) × Int × (Int × Int × ByteArray × Unit) × Int × (List (Int × Int × ByteArray × Unit)) × (List (Int × Int × ByteArray × Unit)) × Int × Int × Unit)) × (Int × Int × Unit) × Unit) := fun k ρ K => match Nat.beq k 6 with
  | true => (match adH ρ H12_6.hd with
    | some v => W12_6 N (fun b3a b3ba b5a b5ba t6 => K (.exit 0) (encH [(6, (.bx 3 0)), (7, (.pr (.i .i64) (.pr (.i .i64) .un))), (10, (.bx 5 0)), (11, (.pr (.i .i64) (.pr (.i .i64) .un))), (12, (.sl (.pr (.pr (.int .i64) (.pr (.int .i64) (.pr .str .un))) (.pr (.int .i64) (.pr (.pr (.int .i64) (.pr (.int .i64) (.pr .str .un))) (.pr (.int .i64) (.pr (.sl (.pr (.int .i64) (.pr (.int .i64) (.pr .str .un)))) (.pr (.sl (.pr (.int .i64) (.pr (.int .i64) (.pr .str .un)))) (.pr (.int .i64) (.pr (.int .i64) .un)))))))) (.own 72)))] ((), ((b3a, (b3ba, ())), ((), ((b5a, (b5ba, ())), (t6, ()))))))) N v.1 v.2.2.1.1 v.2.2.1.2.1 v.2.2.2.2.2.1.1 v.2.2.2.2.2.1.2.1 v.2.2.2.2.2.2.1 v.2.2.2.2.2.2.2.1.2.2.1 v.2.2.2.2.2.2.2.1.2.2.2.1 v.2.2.2.2.2.2.2.1.2.2.2.2.1 v.2.2.2.2.2.2.2.2.1 v.2.2.2.2.2.2.2.2.2.1 v.2.2.2.2.2.2.2.2.2.2.1
    | none => none)
  | false => none
def F12 (N : Nat) (p0 : List (Int × (Int × Int × ByteArray × Unit) × Int × Int × (Int × Int × ByteArray × Unit) × Int × (List (Int × Int × ByteArray × Unit)) × (List (Int × Int × ByteArray × Unit)) × Bool × ByteArray × Unit)) : Option ((List ((Int × Int × ByteArray × Unit) × Int × (Int × Int × ByteArray × Unit) × Int × (List (Int × Int × ByteArray × Unit)) × (List (Int × Int × ByteArray × Unit)) × Int × Int × Unit)) × (Int × Int × Unit) × Unit) :=
  bif (Go.Inc.okAll p0) then
    bif ((((Go.Inc.pairAll p0).2).1) != (0 : Int)) then
      some (([] : List ((Int × (Int × (ByteArray × Unit))) × (Int × ((Int × (Int × (ByteArray × Unit))) × (Int × ((List (Int × (Int × (ByteArray × Unit)))) × ((List (Int × (Int × (ByteArray × Unit)))) × (Int × (Int × Unit))))))))), ((Go.Inc.pairAll p0).2, ()))
    else
      W12_6 N
        (fun b3a b3ba b5a b5ba t6 =>
          some (t6, ((b5a, (b5ba, ())), ())))
        N p0 (0 : Int) (0 : Int) (((Go.Inc.pairAll p0).2).1) ((((Go.Inc.pairAll p0).2).2).1) ([] : List ((Int × (Int × (ByteArray × Unit))) × (Int × ((Int × (Int × (ByteArray × Unit))) × (Int × ((List (Int × (Int × (ByteArray × Unit)))) × ((List (Int × (Int × (ByteArray × Unit)))) × (Int × (Int × Unit))))))))) (((((Go.Inc.pairAll p0).1).2).2).1) ((((((Go.Inc.pairAll p0).1).2).2).2).1) ((((((Go.Inc.pairAll p0).1).2).2).2).2) p0 (((List.length p0) : Nat) : Int) (0 : Int)
  else
    none
theorem loops12 (N : Nat) : loopsOk C12 (L12 N) Go.Proofs.Tryd.f12 := ⟨trivial, ⟨trivial, ⟨⟨trivial, ⟨⟨trivial, trivial⟩, trivial⟩⟩, ⟨trivial, ⟨⟨trivial, ⟨loopOk_of H12_6 N (fun K n v => W12_6 N (fun b3a b3ba b5a b5ba t6 => K (.exit 0) (encH [(6, (.bx 3 0)), (7, (.pr (.i .i64) (.pr (.i .i64) .un))), (10, (.bx 5 0)), (11, (.pr (.i .i64) (.pr (.i .i64) .un))), (12, (.sl (.pr (.pr (.int .i64) (.pr (.int .i64) (.pr .str .un))) (.pr (.int .i64) (.pr (.pr (.int .i64) (.pr (.int .i64) (.pr .str .un))) (.pr (.int .i64) (.pr (.sl (.pr (.int .i64) (.pr (.int .i64) (.pr .str .un)))) (.pr (.sl (.pr (.int .i64) (.pr (.int .i64) (.pr .str .un)))) (.pr (.int .i64) (.pr (.int .i64) .un)))))))) (.own 72)))] ((), ((b3a, (b3ba, ())), ((), ((b5a, (b5ba, ())), (t6, ()))))))) n v.1 v.2.2.1.1 v.2.2.1.2.1 v.2.2.2.2.2.1.1 v.2.2.2.2.2.1.2.1 v.2.2.2.2.2.2.1 v.2.2.2.2.2.2.2.1.2.2.1 v.2.2.2.2.2.2.2.1.2.2.2.1 v.2.2.2.2.2.2.2.1.2.2.2.2.1 v.2.2.2.2.2.2.2.2.1 v.2.2.2.2.2.2.2.2.2.1 v.2.2.2.2.2.2.2.2.2.2.1) (by kernel_rfl) (fun K v => by kernel_rfl) (fun K v => by kernel_rfl) (fun K n v => by kernel_rfl), ⟨trivial, ⟨⟨trivial, trivial⟩, ⟨⟨trivial, ⟨⟨trivial, ⟨trivial, trivial⟩⟩, ⟨trivial, ⟨⟨trivial, ⟨trivial, ⟨trivial, trivial⟩⟩⟩, trivial⟩⟩⟩⟩, trivial⟩⟩⟩⟩⟩, ⟨trivial, trivial⟩⟩⟩⟩⟩⟩
theorem runs12 (N : Nat) (x : S12.ta.den) : run C12 S12 (L12 N) Go.Proofs.Tryd.f12 x = F12 N x.1 := by kernel_rfl

/-! ### 18: incognito/incognitolaw12.call -/
def L18 (_ : Nat) : Loops ((Int × (Int × Int × ByteArray × Unit) × Int × Int × (Int × Int × ByteArray × Unit) × Int × (List (Int × Int × ByteArray × Unit)) × (List (Int × Int × ByteArray × Unit)) × Bool × ByteArray × Unit) × Unit) := fun _ _ _ => none
def F18 (N : Nat) (p0 : ByteArray) : Option ((Int × (Int × Int × ByteArray × Unit) × Int × Int × (Int × Int × ByteArray × Unit) × Int × (List (Int × Int × ByteArray × Unit)) × (List (Int × Int × ByteArray × Unit)) × Bool × ByteArray × Unit) × Unit) :=
  some (((0 : Int), (((2 : Int), ((0 : Int), (p0, ()))), ((1 : Int), ((1 : Int), (((2 : Int), ((0 : Int), (p0, ()))), ((2 : Int), (([] : List (Int × (Int × (ByteArray × Unit)))), (([] : List (Int × (Int × (ByteArray × Unit)))), (false, (ByteArray.empty, ())))))))))), ())
theorem loops18 (N : Nat) : loopsOk C18 (L18 N) Go.Proofs.Tryd.f18 := ⟨trivial, ⟨trivial, ⟨trivial, trivial⟩⟩⟩
theorem runs18 (N : Nat) (x : S18.ta.den) : run C18 S18 (L18 N) Go.Proofs.Tryd.f18 x = F18 N x.1 := by kernel_rfl

/-! ### 8: incognito/incognitolaw12.wakes -/
def L8 (_ : Nat) : Loops (Bool × Unit) := fun _ _ _ => none
def F8 (N : Nat) : Option (Bool × Unit) :=
  some (((((Go.Inc.pairCheck (((0 : Int), (((2 : Int), ((0 : Int), ((strL [97]), ()))), ((2 : Int), ((0 : Int), (((0 : Int), ((0 : Int), (ByteArray.empty, ()))), ((0 : Int), (([] : List (Int × (Int × (ByteArray × Unit)))), (([] : List (Int × (Int × (ByteArray × Unit)))), (false, (ByteArray.empty, ())))))))))) :: ([] : List (Int × ((Int × (Int × (ByteArray × Unit))) × (Int × (Int × ((Int × (Int × (ByteArray × Unit))) × (Int × ((List (Int × (Int × (ByteArray × Unit)))) × ((List (Int × (Int × (ByteArray × Unit)))) × (Bool × (ByteArray × Unit))))))))))))).1) == (4 : Int)) && (((((Go.Inc.pairCheck (((0 : Int), (((2 : Int), ((0 : Int), ((strL [97]), ()))), ((2 : Int), ((0 : Int), (((0 : Int), ((0 : Int), (ByteArray.empty, ()))), ((0 : Int), (([] : List (Int × (Int × (ByteArray × Unit)))), (([] : List (Int × (Int × (ByteArray × Unit)))), (false, (ByteArray.empty, ())))))))))) :: ([] : List (Int × ((Int × (Int × (ByteArray × Unit))) × (Int × (Int × ((Int × (Int × (ByteArray × Unit))) × (Int × ((List (Int × (Int × (ByteArray × Unit)))) × ((List (Int × (Int × (ByteArray × Unit)))) × (Bool × (ByteArray × Unit))))))))))))).2).1) == (1 : Int)) && true)), ())
theorem loops8 (N : Nat) : loopsOk C8 (L8 N) Go.Proofs.Tryd.f8 := ⟨trivial, ⟨trivial, ⟨trivial, ⟨trivial, trivial⟩⟩⟩⟩
theorem runs8 (N : Nat) (x : S8.ta.den) : run C8 S8 (L8 N) Go.Proofs.Tryd.f8 x = F8 N := by kernel_rfl

/-! ### 25: incognito/incognitoref07.Same -/
def W25_4 {β : Type} (N : Nat) (x0 : Bool → Option β) (x1 : Unit → Option β) : Nat → (List (Int × Int × ByteArray × Unit)) → (List (Int × Int × ByteArray × Unit)) → Int → Option β
  | 0, _, _, _ => none
  | n + 1, t0, t1, t5 =>
  bif decide (t5 < (((List.length t0) : Nat) : Int)) then
    bif ((decide ((0 : Int) ≤ t5)) && (decide (t5 < (((List.length t0) : Nat) : Int)))) then
      bif ((decide ((0 : Int) ≤ t5)) && (decide (t5 < (((List.length t1) : Nat) : Int)))) then
        bif (!((((List.getD t0 (Int.toNat t5) ((0 : Int), ((0 : Int), (ByteArray.empty, ())))).1) == ((List.getD t1 (Int.toNat t5) ((0 : Int), ((0 : Int), (ByteArray.empty, ())))).1)) && (((((List.getD t0 (Int.toNat t5) ((0 : Int), ((0 : Int), (ByteArray.empty, ())))).2).1) == (((List.getD t1 (Int.toNat t5) ((0 : Int), ((0 : Int), (ByteArray.empty, ())))).2).1)) && ((((((List.getD t0 (Int.toNat t5) ((0 : Int), ((0 : Int), (ByteArray.empty, ())))).2).2).1) == ((((List.getD t1 (Int.toNat t5) ((0 : Int), ((0 : Int), (ByteArray.empty, ())))).2).2).1)) && true)))) then
          x0 false
        else
          W25_4 N x0 x1 n t0 t1 (Go.IntKind.wrap .i64 (t5 + (1 : Int)))
      else
        none
    else
      none
  else
    x1 ()
def L25 (N : Nat) : Loops (Bool × Unit) := fun k ρ K => match Nat.beq k 4 with
  | true => (match adH ρ H25_4.hd with
    | some v => W25_4 N (fun t4 => K .ret (encH [(8, .bo)] (t4, ()))) (fun _ => K (.exit 0) (encH [] ())) N v.1 v.2.1 v.2.2.1
    | none => none)
  | false => none
def F25 (N : Nat) (p0 : List (Int × Int × ByteArray × Unit)) (p1 : List (Int × Int × ByteArray × Unit)) : Option (Bool × Unit) :=
  bif ((((List.length p0) : Nat) : Int) != (((List.length p1) : Nat) : Int)) then
    some (false, ())
  else
    W25_4 N
      (fun t4 =>
        some (t4, ()))
      (fun (_ : Unit) =>
        some (true, ()))
      N p0 p1 (0 : Int)
theorem loops25 (N : Nat) : loopsOk C25 (L25 N) Go.Proofs.Tryd.f25 := ⟨trivial, ⟨⟨trivial, ⟨⟨trivial, trivial⟩, trivial⟩⟩, ⟨⟨trivial, ⟨loopOk_of H25_4 N (fun K n v => W25_4 N (fun t4 => K .ret (encH [(8, .bo)] (t4, ()))) (fun _ => K (.exit 0) (encH [] ())) n v.1 v.2.1 v.2.2.1) (by kernel_rfl) (fun K v => by kernel_rfl) (fun K v => by kernel_rfl) (fun K n v => by kernel_rfl), ⟨⟨trivial, ⟨trivial, trivial⟩⟩, ⟨⟨trivial, ⟨⟨trivial, trivial⟩, trivial⟩⟩, trivial⟩⟩⟩⟩, ⟨trivial, trivial⟩⟩⟩⟩
theorem runs25 (N : Nat) (x : S25.ta.den) : run C25 S25 (L25 N) Go.Proofs.Tryd.f25 x = F25 N x.1 x.2.1 := by kernel_rfl


end Go.K12
