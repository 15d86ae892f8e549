/- The walks of package queue and its statements. Printed by a program of this session. -/
import Derived.Test.YtifkhlnojdjjcaaDoorW0
set_option linter.unusedVariables false
set_option maxRecDepth 100000
namespace Go.L15
open Go Go.Abs Go.Inc

/-! ### 17: incognito/incognitolaw15.num -/
def L17 (_ : Nat) : Loops ((Int × Int × ByteArray × Unit) × Unit) := fun _ _ _ => none
def F17 (N : Nat) (p0 : Int) : Option ((Int × Int × ByteArray × Unit) × Unit) :=
  some (((1 : Int), (p0, (ByteArray.empty, ()))), ())
theorem loops17 (N : Nat) : loopsOk C17 (L17 N) Go.Proofs.Tryd.f17 := ⟨trivial, ⟨trivial, trivial⟩⟩
theorem runs17 (N : Nat) (x : S17.ta.den) : run C17 S17 (L17 N) Go.Proofs.Tryd.f17 x = F17 N x.1 := by kernel_rfl

/-! ### 29: incognito/value.Right -/
def L29 (_ : Nat) : Loops (Bool × Unit) := fun _ _ _ => none
def F29 (N : Nat) (p0 : Int × Int × ByteArray × Unit) : Option (Bool × Unit) :=
  bif (p0.1 == (0 : Int)) then
    some (((p0.1 == (0 : Int)) && ((p0.2.1 == (0 : Int)) && ((p0.2.2.1 == ByteArray.empty) && true))), ())
  else
    bif (p0.1 == (1 : Int)) then
      some (((ByteArray.toList p0.2.2.1) == (ByteArray.toList (strL []))), ())
    else
      bif (p0.1 == (2 : Int)) then
        bif (p0.2.1 == (0 : Int)) then
          bif (Go.Inc.okS p0.2.2.1) then
            some ((Go.Inc.isWord p0.2.2.1), ())
          else
            none
        else
          some (false, ())
      else
        bif ((p0.1 == (3 : Int)) && ((p0.2.1 == (1 : Int)) && ((p0.2.2.1 == ByteArray.empty) && true))) then
          some (true, ())
        else
          some (((p0.1 == (3 : Int)) && ((p0.2.1 == (0 : Int)) && ((p0.2.2.1 == ByteArray.empty) && true))), ())
theorem loops29 (N : Nat) : loopsOk C29 (L29 N) Go.Proofs.Tryd.f29 := ⟨trivial, ⟨⟨trivial, ⟨trivial, ⟨⟨trivial, trivial⟩, ⟨trivial, ⟨⟨trivial, trivial⟩, ⟨trivial, ⟨⟨trivial, trivial⟩, trivial⟩⟩⟩⟩⟩⟩⟩, ⟨trivial, trivial⟩⟩⟩
theorem runs29 (N : Nat) (x : S29.ta.den) : run C29 S29 (L29 N) Go.Proofs.Tryd.f29 x = F29 N x.1 := by kernel_rfl

/-! ### 30: incognito/sign.Args -/
def W30_6 {β : Type} (N : Nat) (x1 : (List Int) → Option β) : Nat → Int → Int → ByteArray → Int → Bool → (List Int) → Int → Int → Option β
  | 0, _, _, _, _, _, _, _, _ => none
  | n + 1, b6a, b6ba, b6bba, b6bbba, b6bbbba, t8, t20, t21 =>
  bif decide (t21 < t20) then
    bif ((decide ((0 : Int) ≤ t21)) && (decide (t21 < (((ByteArray.size b6bba) : Nat) : Int)))) then
      bif decide ((((List.length t8) + (List.length ((Go.Inc.domain (((UInt8.toNat (List.getD (Array.toList (ByteArray.data b6bba)) (Int.toNat t21) (0 : UInt8))) : Nat) : Int)) :: ([] : List Int)))) * 8) ≤ 140737488351232) then
        W30_6 N x1 n b6a b6ba b6bba b6bbba b6bbbba (t8 ++ ((Go.Inc.domain (((UInt8.toNat (List.getD (Array.toList (ByteArray.data b6bba)) (Int.toNat t21) (0 : UInt8))) : Nat) : Int)) :: ([] : List Int))) t20 (Go.IntKind.wrap .i64 (t21 + (1 : Int)))
      else
        none
    else
      none
  else
    x1 t8
def L30 (N : Nat) : Loops ((List Int) × Bool × Unit) := fun k ρ K => match Nat.beq k 6 with
  | true => (match adH ρ H30_6.hd with
    | some v => W30_6 N (fun t8 => K (.exit 0) (encH [(16, (.sl (.int .i64) (.own 31)))] (t8, ()))) N v.2.1.1 v.2.1.2.1 v.2.1.2.2.1 v.2.1.2.2.2.1 v.2.1.2.2.2.2.1 v.2.2.1 v.2.2.2.1 v.2.2.2.2.1
    | none => none)
  | false => none
def F30 (N : Nat) (p0 : Int) (p1 : Int) : Option ((List Int) × Bool × Unit) :=
  bif (!(((Go.Inc.findGo p0 p1).2).1)) then
    some (([] : List Int), (false, ()))
  else
    W30_6 N
      (fun t8 =>
        some (t8, (true, ())))
      N (((Go.Inc.findGo p0 p1).1).1) ((((Go.Inc.findGo p0 p1).1).2).1) (((((Go.Inc.findGo p0 p1).1).2).2).1) ((((((Go.Inc.findGo p0 p1).1).2).2).2).1) (((((((Go.Inc.findGo p0 p1).1).2).2).2).2).1) ([] : List Int) (((ByteArray.size (((((Go.Inc.findGo p0 p1).1).2).2).1)) : Nat) : Int) (0 : Int)
theorem loops30 (N : Nat) : loopsOk C30 (L30 N) Go.Proofs.Tryd.f30 := ⟨trivial, ⟨trivial, ⟨⟨trivial, ⟨⟨trivial, trivial⟩, trivial⟩⟩, ⟨trivial, ⟨⟨trivial, ⟨loopOk_of H30_6 N (fun K n v => W30_6 N (fun t8 => K (.exit 0) (encH [(16, (.sl (.int .i64) (.own 31)))] (t8, ()))) n v.2.1.1 v.2.1.2.1 v.2.1.2.2.1 v.2.1.2.2.2.1 v.2.1.2.2.2.2.1 v.2.2.1 v.2.2.2.1 v.2.2.2.2.1) (by kernel_rfl) (fun K v => by kernel_rfl) (fun K v => by kernel_rfl) (fun K n v => by kernel_rfl), ⟨trivial, ⟨⟨trivial, trivial⟩, ⟨⟨trivial, trivial⟩, trivial⟩⟩⟩⟩⟩, ⟨trivial, trivial⟩⟩⟩⟩⟩⟩
theorem runs30 (N : Nat) (x : S30.ta.den) : run C30 S30 (L30 N) Go.Proofs.Tryd.f30 x = F30 N x.1 x.2.1 := by kernel_rfl

/-! ### 24: incognito/queue.pop -/
def L24 (_ : Nat) : Loops ((List (Int × Int × ByteArray × Unit)) × (Int × Int × ByteArray × Unit) × Unit) := fun _ _ _ => none
def F24 (N : Nat) (p0 : Int × (Int × Int × ByteArray × Unit) × Int × (List (Int × Int × ByteArray × Unit)) × Unit) : Option ((List (Int × Int × ByteArray × Unit)) × (Int × Int × ByteArray × Unit) × Unit) :=
  bif ((((List.length p0.2.2.2.1) : Nat) : Int) == (0 : Int)) then
    some (([] : List (Int × (Int × (ByteArray × Unit)))), (((0 : Int), ((0 : Int), (ByteArray.empty, ()))), ()))
  else
    bif (p0.1 == (5 : Int)) then
      bif ((decide ((0 : Int) ≤ (1 : Int))) && ((decide ((1 : Int) ≤ (((List.length p0.2.2.2.1) : Nat) : Int))) && (decide ((((List.length p0.2.2.2.1) : Nat) : Int) ≤ (((List.length p0.2.2.2.1) : Nat) : Int))))) then
        bif decide (((List.length (Go.Abs.sub p0.2.2.2.1 (1 : Int) (((List.length p0.2.2.2.1) : Nat) : Int))) * 32) ≤ 140737488351232) then
          bif ((decide ((0 : Int) ≤ (0 : Int))) && (decide ((0 : Int) < (((List.length p0.2.2.2.1) : Nat) : Int)))) then
            bif decide ((List.length (Go.Abs.sub p0.2.2.2.1 (1 : Int) (((List.length p0.2.2.2.1) : Nat) : Int))) = (List.length (Go.Abs.sub p0.2.2.2.1 (1 : Int) (((List.length p0.2.2.2.1) : Nat) : Int)))) then
              some ((Go.Abs.sub p0.2.2.2.1 (1 : Int) (((List.length p0.2.2.2.1) : Nat) : Int)), ((List.getD p0.2.2.2.1 (Int.toNat (0 : Int)) ((0 : Int), ((0 : Int), (ByteArray.empty, ())))), ()))
            else
              none
          else
            none
        else
          none
      else
        none
    else
      bif ((decide ((0 : Int) ≤ (0 : Int))) && ((decide ((0 : Int) ≤ (Go.IntKind.wrap .i64 ((((List.length p0.2.2.2.1) : Nat) : Int) - (1 : Int))))) && (decide ((Go.IntKind.wrap .i64 ((((List.length p0.2.2.2.1) : Nat) : Int) - (1 : Int))) ≤ (((List.length p0.2.2.2.1) : Nat) : Int))))) then
        bif decide (((List.length (Go.Abs.sub p0.2.2.2.1 (0 : Int) (Go.IntKind.wrap .i64 ((((List.length p0.2.2.2.1) : Nat) : Int) - (1 : Int))))) * 32) ≤ 140737488351232) then
          bif ((decide ((0 : Int) ≤ (Go.IntKind.wrap .i64 ((((List.length p0.2.2.2.1) : Nat) : Int) - (1 : Int))))) && (decide ((Go.IntKind.wrap .i64 ((((List.length p0.2.2.2.1) : Nat) : Int) - (1 : Int))) < (((List.length p0.2.2.2.1) : Nat) : Int)))) then
            bif decide ((List.length (Go.Abs.sub p0.2.2.2.1 (0 : Int) (Go.IntKind.wrap .i64 ((((List.length p0.2.2.2.1) : Nat) : Int) - (1 : Int))))) = (List.length (Go.Abs.sub p0.2.2.2.1 (0 : Int) (Go.IntKind.wrap .i64 ((((List.length p0.2.2.2.1) : Nat) : Int) - (1 : Int)))))) then
              some ((Go.Abs.sub p0.2.2.2.1 (0 : Int) (Go.IntKind.wrap .i64 ((((List.length p0.2.2.2.1) : Nat) : Int) - (1 : Int)))), ((List.getD p0.2.2.2.1 (Int.toNat (Go.IntKind.wrap .i64 ((((List.length p0.2.2.2.1) : Nat) : Int) - (1 : Int)))) ((0 : Int), ((0 : Int), (ByteArray.empty, ())))), ()))
            else
              none
          else
            none
        else
          none
      else
        none
theorem loops24 (N : Nat) : loopsOk C24 (L24 N) Go.Proofs.Tryd.f24 := ⟨trivial, ⟨trivial, ⟨⟨trivial, ⟨⟨trivial, trivial⟩, ⟨trivial, ⟨⟨trivial, trivial⟩, trivial⟩⟩⟩⟩, ⟨trivial, trivial⟩⟩⟩⟩
theorem runs24 (N : Nat) (x : S24.ta.den) : run C24 S24 (L24 N) Go.Proofs.Tryd.f24 x = F24 N x.1 := by kernel_rfl

/-! ### 8: incognito/incognitolaw15.own -/
def L8 (_ : Nat) : Loops (Bool × Unit) := fun _ _ _ => none
def F8 (N : Nat) (p0 : Int) : Option (Bool × Unit) :=
  bif (p0 == (5 : Int)) then
    some (true, ())
  else
    some ((p0 == (6 : Int)), ())
theorem loops8 (N : Nat) : loopsOk C8 (L8 N) Go.Proofs.Tryd.f8 := ⟨trivial, ⟨trivial, trivial⟩⟩
theorem runs8 (N : Nat) (x : S8.ta.den) : run C8 S8 (L8 N) Go.Proofs.Tryd.f8 x = F8 N x.1 := by kernel_rfl

/-! ### 10: incognito/incognitoref13.Same -/
def L10 (_ : Nat) : Loops (Bool × Unit) := fun _ _ _ => none
def F10 (N : Nat) (p0 : Int × (Int × Int × ByteArray × Unit) × Int × (List (Int × Int × ByteArray × Unit)) × Unit) (p1 : Int × (Int × Int × ByteArray × Unit) × Int × (List (Int × Int × ByteArray × Unit)) × Unit) : Option (Bool × Unit) :=
  bif (p0.1 == p1.1) then
    bif ((p0.2.1.1 == p1.2.1.1) && ((p0.2.1.2.1 == p1.2.1.2.1) && ((p0.2.1.2.2.1 == p1.2.1.2.2.1) && true))) then
      bif (p0.2.2.1 == p1.2.2.1) then
        bif (Go.Inc.okSame2 p0.2.2.2.1 p1.2.2.2.1) then
          some ((Go.Inc.sameV p0.2.2.2.1 p1.2.2.2.1), ())
        else
          none
      else
        some (false, ())
    else
      some (false, ())
  else
    some (false, ())
theorem loops10 (N : Nat) : loopsOk C10 (L10 N) Go.Proofs.Tryd.f10 := ⟨trivial, ⟨trivial, trivial⟩⟩
theorem runs10 (N : Nat) (x : S10.ta.den) : run C10 S10 (L10 N) Go.Proofs.Tryd.f10 x = F10 N x.1 x.2.1 := by kernel_rfl

/-! ### 39: incognito/incognitoref09.ModelName -/
def L39 (_ : Nat) : Loops (ByteArray × Unit) := fun _ _ _ => none
def F39 (N : Nat) (p0 : Int) : Option (ByteArray × Unit) :=
  bif (p0 == (1 : Int)) then
    some ((strL [114, 101, 103]), ())
  else
    bif (p0 == (2 : Int)) then
      some ((strL [99, 97, 115]), ())
    else
      bif (p0 == (3 : Int)) then
        some ((strL [115, 101, 116]), ())
      else
        bif (p0 == (4 : Int)) then
          some ((strL [109, 97, 112]), ())
        else
          bif (p0 == (5 : Int)) then
            some ((strL [102, 105, 102, 111]), ())
          else
            bif (p0 == (6 : Int)) then
              some ((strL [115, 116, 97, 99, 107]), ())
            else
              bif (p0 == (7 : Int)) then
              some ((strL [108, 111, 99, 107]), ())
            else
              bif (p0 == (8 : Int)) then
              some ((strL [99, 111, 117, 110, 116]), ())
            else
              bif (p0 == (9 : Int)) then
              some ((strL [109, 97, 120]), ())
            else
              bif (p0 == (10 : Int)) then
              some ((strL [111, 109, 97, 112]), ())
            else
              some ((strL []), ())
theorem loops39 (N : Nat) : loopsOk C39 (L39 N) Go.Proofs.Tryd.f39 := ⟨trivial, ⟨⟨trivial, ⟨trivial, ⟨⟨trivial, trivial⟩, ⟨trivial, ⟨⟨trivial, trivial⟩, ⟨trivial, ⟨⟨trivial, trivial⟩, ⟨trivial, ⟨⟨trivial, trivial⟩, ⟨trivial, ⟨⟨trivial, trivial⟩, ⟨trivial, ⟨⟨trivial, trivial⟩, ⟨trivial, ⟨⟨trivial, trivial⟩, ⟨trivial, ⟨⟨trivial, trivial⟩, ⟨trivial, ⟨⟨trivial, trivial⟩, ⟨trivial, ⟨⟨trivial, trivial⟩, trivial⟩⟩⟩⟩⟩⟩⟩⟩⟩⟩⟩⟩⟩⟩⟩⟩⟩⟩⟩⟩⟩, ⟨trivial, trivial⟩⟩⟩
theorem runs39 (N : Nat) (x : S39.ta.den) : run C39 S39 (L39 N) Go.Proofs.Tryd.f39 x = F39 N x.1 := by kernel_rfl

/-! ### 33: incognito/incognitoref09.Takes -/
def L33 (_ : Nat) : Loops (Bool × Unit) := fun _ _ _ => none
def F33 (N : Nat) (p0 : Int) (p1 : Int × Int × ByteArray × Unit) : Option (Bool × Unit) :=
  bif decide (p0 ≥ (0 : Int)) then
    bif decide (p0 ≤ (4 : Int)) then
      bif (Go.Inc.okV p1) then
        some ((Go.Inc.name p1), ())
      else
        none
    else
      bif (p0 == (5 : Int)) then
        bif (Go.Inc.okV p1) then
          bif (Go.Inc.right p1) then
            bif (p1.1 == (1 : Int)) then
              some (true, ())
            else
              bif (p0 == (6 : Int)) then
              bif (Go.Inc.okV p1) then
              bif (Go.Inc.right p1) then
              some ((p1.1 == (3 : Int)), ())
            else
              some (false, ())
            else
              none
            else
              some (false, ())
          else
            bif (p0 == (6 : Int)) then
              bif (Go.Inc.okV p1) then
              bif (Go.Inc.right p1) then
              some ((p1.1 == (3 : Int)), ())
            else
              some (false, ())
            else
              none
            else
              some (false, ())
        else
          none
      else
        bif (p0 == (6 : Int)) then
          bif (Go.Inc.okV p1) then
            bif (Go.Inc.right p1) then
              some ((p1.1 == (3 : Int)), ())
            else
              some (false, ())
          else
            none
        else
          some (false, ())
  else
    bif (p0 == (5 : Int)) then
      bif (Go.Inc.okV p1) then
        bif (Go.Inc.right p1) then
          bif (p1.1 == (1 : Int)) then
            some (true, ())
          else
            bif (p0 == (6 : Int)) then
              bif (Go.Inc.okV p1) then
              bif (Go.Inc.right p1) then
              some ((p1.1 == (3 : Int)), ())
            else
              some (false, ())
            else
              none
            else
              some (false, ())
        else
          bif (p0 == (6 : Int)) then
            bif (Go.Inc.okV p1) then
              bif (Go.Inc.right p1) then
              some ((p1.1 == (3 : Int)), ())
            else
              some (false, ())
            else
              none
          else
            some (false, ())
      else
        none
    else
      bif (p0 == (6 : Int)) then
        bif (Go.Inc.okV p1) then
          bif (Go.Inc.right p1) then
            some ((p1.1 == (3 : Int)), ())
          else
            some (false, ())
        else
          none
      else
        some (false, ())
theorem loops33 (N : Nat) : loopsOk C33 (L33 N) Go.Proofs.Tryd.f33 := ⟨trivial, ⟨⟨trivial, ⟨⟨trivial, trivial⟩, trivial⟩⟩, ⟨trivial, trivial⟩⟩⟩
theorem runs33 (N : Nat) (x : S33.ta.den) : run C33 S33 (L33 N) Go.Proofs.Tryd.f33 x = F33 N x.1 x.2.1 := by kernel_rfl

/-! ### 13: incognito/incognitolaw15.may -/
def L13 (_ : Nat) : Loops (Bool × Unit) := fun _ _ _ => none
def F13 (N : Nat) (p0 : Int) (p1 : (Int × Int × ByteArray × Unit) × Int × (List (Int × Int × ByteArray × Unit)) × Unit) : Option (Bool × Unit) :=
  bif (Go.Inc.okV p1.1) then
    bif (Go.Inc.name p1.1) then
      bif (Go.Inc.okF p0 p1.2.1 p1.2.2.1) then
        some ((Go.Inc.fits p0 p1.2.1 p1.2.2.1), ())
      else
        none
    else
      some (false, ())
  else
    none
theorem loops13 (N : Nat) : loopsOk C13 (L13 N) Go.Proofs.Tryd.f13 := ⟨trivial, ⟨trivial, trivial⟩⟩
theorem runs13 (N : Nat) (x : S13.ta.den) : run C13 S13 (L13 N) Go.Proofs.Tryd.f13 x = F13 N x.1 x.2.1 := by kernel_rfl

/-! ### 15: incognito/incognitoref15.Out -/
def L15 (_ : Nat) : Loops ((List (Int × Int × ByteArray × Unit)) × Unit) := fun _ _ _ => none
def F15 (N : Nat) (p0 : Int) (p1 : List ((Int × Int × ByteArray × Unit) × Int × (List (Int × Int × ByteArray × Unit)) × Unit)) (p2 : (Int × Int × ByteArray × Unit) × Int × (List (Int × Int × ByteArray × Unit)) × Unit) : Option ((List (Int × Int × ByteArray × Unit)) × Unit) :=
  bif (p2.2.1 != (10 : Int)) then
    some (([] : List (Int × (Int × (ByteArray × Unit)))), ())
  else
    bif (Go.Inc.okPast p0 p1) then
      bif ((((List.length (Go.Inc.queueLeft p0 p1)) : Nat) : Int) == (0 : Int)) then
        some ((((0 : Int), ((0 : Int), (ByteArray.empty, ()))) :: ([] : List (Int × (Int × (ByteArray × Unit))))), ())
      else
        bif (p0 == (6 : Int)) then
          bif ((decide ((0 : Int) ≤ (Go.IntKind.wrap .i64 ((((List.length (Go.Inc.queueLeft p0 p1)) : Nat) : Int) - (1 : Int))))) && (decide ((Go.IntKind.wrap .i64 ((((List.length (Go.Inc.queueLeft p0 p1)) : Nat) : Int) - (1 : Int))) < (((List.length (Go.Inc.queueLeft p0 p1)) : Nat) : Int)))) then
            some (((List.getD (Go.Inc.queueLeft p0 p1) (Int.toNat (Go.IntKind.wrap .i64 ((((List.length (Go.Inc.queueLeft p0 p1)) : Nat) : Int) - (1 : Int)))) ((0 : Int), ((0 : Int), (ByteArray.empty, ())))) :: ([] : List (Int × (Int × (ByteArray × Unit))))), ())
          else
            none
        else
          bif ((decide ((0 : Int) ≤ (0 : Int))) && (decide ((0 : Int) < (((List.length (Go.Inc.queueLeft p0 p1)) : Nat) : Int)))) then
            some (((List.getD (Go.Inc.queueLeft p0 p1) (Int.toNat (0 : Int)) ((0 : Int), ((0 : Int), (ByteArray.empty, ())))) :: ([] : List (Int × (Int × (ByteArray × Unit))))), ())
          else
            none
    else
      none
theorem loops15 (N : Nat) : loopsOk C15 (L15 N) Go.Proofs.Tryd.f15 := ⟨trivial, ⟨⟨trivial, ⟨⟨trivial, trivial⟩, trivial⟩⟩, ⟨trivial, ⟨⟨trivial, ⟨⟨trivial, trivial⟩, trivial⟩⟩, ⟨⟨trivial, ⟨⟨trivial, trivial⟩, trivial⟩⟩, ⟨trivial, trivial⟩⟩⟩⟩⟩⟩
theorem runs15 (N : Nat) (x : S15.ta.den) : run C15 S15 (L15 N) Go.Proofs.Tryd.f15 x = F15 N x.1 x.2.1 x.2.2.1 := by kernel_rfl

/-! ### 4: incognito/incognitolaw15.QueueAll -/
def W4_8 {β : Type} (N : Nat) (x0 : Bool → Option β) (x1 : (List (Int × Int × ByteArray × Unit)) → Int → Int → Int → ByteArray → Int → (List (Int × Int × ByteArray × Unit)) → Int → Int → Int → ByteArray → Int → (List (Int × Int × ByteArray × Unit)) → Option β) : Nat → (List (Int × Int × ByteArray × Unit)) → Int → Int → Int → ByteArray → Int → (List (Int × Int × ByteArray × Unit)) → Int → Int → Int → ByteArray → Int → (List (Int × Int × ByteArray × Unit)) → (List (Int × Int × ByteArray × Unit)) → Int → Int → Option β
  | 0, _, _, _, _, _, _, _, _, _, _, _, _, _, _, _, _ => none
  | n + 1, t0, b3a, b3ba, b3bba, b3bbba, b3bbbba, b3bbbbba, b5a, b5ba, b5bba, b5bbba, b5bbbba, b5bbbbba, t31, t32, t33 =>
  bif decide (t33 < t32) then
    bif ((decide ((0 : Int) ≤ t33)) && (decide (t33 < (((List.length t31) : Nat) : Int)))) then
      bif decide ((((ByteArray.size ((((List.getD t31 (Int.toNat t33) ((0 : Int), ((0 : Int), (ByteArray.empty, ())))).2).2).1)) : Nat) : Int) > (100 : Int)) then
        x0 true
      else
        bif (Go.Inc.okV (List.getD t31 (Int.toNat t33) ((0 : Int), ((0 : Int), (ByteArray.empty, ()))))) then
          bif (!(Go.Inc.name (List.getD t31 (Int.toNat t33) ((0 : Int), ((0 : Int), (ByteArray.empty, ())))))) then
            x0 true
          else
            bif (Go.Inc.okQStep (b3a, ((b3ba, (b3bba, (b3bbba, ()))), (b3bbbba, (b3bbbbba, ())))) (Go.Inc.num' (1 : Int)) (9 : Int) ((List.getD t31 (Int.toNat t33) ((0 : Int), ((0 : Int), (ByteArray.empty, ())))) :: ([] : List (Int × (Int × (ByteArray × Unit)))))) then
              bif (Go.Inc.okQStep (b5a, ((b5ba, (b5bba, (b5bbba, ()))), (b5bbbba, (b5bbbbba, ())))) (Go.Inc.num' (1 : Int)) (9 : Int) ((List.getD t31 (Int.toNat t33) ((0 : Int), ((0 : Int), (ByteArray.empty, ())))) :: ([] : List (Int × (Int × (ByteArray × Unit)))))) then
              W4_8 N x0 x1 n t0 (((Go.Inc.queueStep (b3a, ((b3ba, (b3bba, (b3bbba, ()))), (b3bbbba, (b3bbbbba, ())))) (Go.Inc.num' (1 : Int)) (9 : Int) ((List.getD t31 (Int.toNat t33) ((0 : Int), ((0 : Int), (ByteArray.empty, ())))) :: ([] : List (Int × (Int × (ByteArray × Unit)))))).1).1) (((((Go.Inc.queueStep (b3a, ((b3ba, (b3bba, (b3bbba, ()))), (b3bbbba, (b3bbbbba, ())))) (Go.Inc.num' (1 : Int)) (9 : Int) ((List.getD t31 (Int.toNat t33) ((0 : Int), ((0 : Int), (ByteArray.empty, ())))) :: ([] : List (Int × (Int × (ByteArray × Unit)))))).1).2).1).1) ((((((Go.Inc.queueStep (b3a, ((b3ba, (b3bba, (b3bbba, ()))), (b3bbbba, (b3bbbbba, ())))) (Go.Inc.num' (1 : Int)) (9 : Int) ((List.getD t31 (Int.toNat t33) ((0 : Int), ((0 : Int), (ByteArray.empty, ())))) :: ([] : List (Int × (Int × (ByteArray × Unit)))))).1).2).1).2).1) (((((((Go.Inc.queueStep (b3a, ((b3ba, (b3bba, (b3bbba, ()))), (b3bbbba, (b3bbbbba, ())))) (Go.Inc.num' (1 : Int)) (9 : Int) ((List.getD t31 (Int.toNat t33) ((0 : Int), ((0 : Int), (ByteArray.empty, ())))) :: ([] : List (Int × (Int × (ByteArray × Unit)))))).1).2).1).2).2).1) (((((Go.Inc.queueStep (b3a, ((b3ba, (b3bba, (b3bbba, ()))), (b3bbbba, (b3bbbbba, ())))) (Go.Inc.num' (1 : Int)) (9 : Int) ((List.getD t31 (Int.toNat t33) ((0 : Int), ((0 : Int), (ByteArray.empty, ())))) :: ([] : List (Int × (Int × (ByteArray × Unit)))))).1).2).2).1) ((((((Go.Inc.queueStep (b3a, ((b3ba, (b3bba, (b3bbba, ()))), (b3bbbba, (b3bbbbba, ())))) (Go.Inc.num' (1 : Int)) (9 : Int) ((List.getD t31 (Int.toNat t33) ((0 : Int), ((0 : Int), (ByteArray.empty, ())))) :: ([] : List (Int × (Int × (ByteArray × Unit)))))).1).2).2).2).1) (((Go.Inc.queueStep (b5a, ((b5ba, (b5bba, (b5bbba, ()))), (b5bbbba, (b5bbbbba, ())))) (Go.Inc.num' (1 : Int)) (9 : Int) ((List.getD t31 (Int.toNat t33) ((0 : Int), ((0 : Int), (ByteArray.empty, ())))) :: ([] : List (Int × (Int × (ByteArray × Unit)))))).1).1) (((((Go.Inc.queueStep (b5a, ((b5ba, (b5bba, (b5bbba, ()))), (b5bbbba, (b5bbbbba, ())))) (Go.Inc.num' (1 : Int)) (9 : Int) ((List.getD t31 (Int.toNat t33) ((0 : Int), ((0 : Int), (ByteArray.empty, ())))) :: ([] : List (Int × (Int × (ByteArray × Unit)))))).1).2).1).1) ((((((Go.Inc.queueStep (b5a, ((b5ba, (b5bba, (b5bbba, ()))), (b5bbbba, (b5bbbbba, ())))) (Go.Inc.num' (1 : Int)) (9 : Int) ((List.getD t31 (Int.toNat t33) ((0 : Int), ((0 : Int), (ByteArray.empty, ())))) :: ([] : List (Int × (Int × (ByteArray × Unit)))))).1).2).1).2).1) (((((((Go.Inc.queueStep (b5a, ((b5ba, (b5bba, (b5bbba, ()))), (b5bbbba, (b5bbbbba, ())))) (Go.Inc.num' (1 : Int)) (9 : Int) ((List.getD t31 (Int.toNat t33) ((0 : Int), ((0 : Int), (ByteArray.empty, ())))) :: ([] : List (Int × (Int × (ByteArray × Unit)))))).1).2).1).2).2).1) (((((Go.Inc.queueStep (b5a, ((b5ba, (b5bba, (b5bbba, ()))), (b5bbbba, (b5bbbbba, ())))) (Go.Inc.num' (1 : Int)) (9 : Int) ((List.getD t31 (Int.toNat t33) ((0 : Int), ((0 : Int), (ByteArray.empty, ())))) :: ([] : List (Int × (Int × (ByteArray × Unit)))))).1).2).2).1) ((((((Go.Inc.queueStep (b5a, ((b5ba, (b5bba, (b5bbba, ()))), (b5bbbba, (b5bbbbba, ())))) (Go.Inc.num' (1 : Int)) (9 : Int) ((List.getD t31 (Int.toNat t33) ((0 : Int), ((0 : Int), (ByteArray.empty, ())))) :: ([] : List (Int × (Int × (ByteArray × Unit)))))).1).2).2).2).1) t31 t32 (Go.IntKind.wrap .i64 (t33 + (1 : Int)))
            else
              none
            else
              none
        else
          none
    else
      none
  else
    x1 t0 b3a b3ba b3bba b3bbba b3bbbba b3bbbbba b5a b5ba b5bba b5bbba b5bbbba b5bbbbba
def W4_16 {β : Type} (N : Nat) (x0 : Bool → Option β) (x3 : Int → Int → Int → ByteArray → Int → (List (Int × Int × ByteArray × Unit)) → Int → Int → Int → ByteArray → Int → (List (Int × Int × ByteArray × Unit)) → Option β) : Nat → (List (Int × Int × ByteArray × Unit)) → Int → Int → Int → ByteArray → Int → (List (Int × Int × ByteArray × Unit)) → Int → Int → Int → ByteArray → Int → (List (Int × Int × ByteArray × Unit)) → Int → Int → Option β
  | 0, _, _, _, _, _, _, _, _, _, _, _, _, _, _, _ => none
  | n + 1, t0, b3a, b3ba, b3bba, b3bbba, b3bbbba, b3bbbbba, b5a, b5ba, b5bba, b5bbba, b5bbbba, b5bbbbba, t67, t68 =>
  bif decide (t68 < t67) then
    bif decide (t68 < (((List.length t0) : Nat) : Int)) then
      bif ((decide ((0 : Int) ≤ t68)) && (decide (t68 < (((List.length t0) : Nat) : Int)))) then
        bif ((decide ((0 : Int) ≤ (Go.IntKind.wrap .i64 ((Go.IntKind.wrap .i64 ((((List.length t0) : Nat) : Int) - (1 : Int))) - t68)))) && (decide ((Go.IntKind.wrap .i64 ((Go.IntKind.wrap .i64 ((((List.length t0) : Nat) : Int) - (1 : Int))) - t68)) < (((List.length t0) : Nat) : Int)))) then
          bif (Go.Inc.okQStep (b3a, ((b3ba, (b3bba, (b3bbba, ()))), (b3bbbba, (b3bbbbba, ())))) (Go.Inc.num' (1 : Int)) (10 : Int) ([] : List (Int × (Int × (ByteArray × Unit))))) then
            bif (Go.Inc.okQStep (b5a, ((b5ba, (b5bba, (b5bbba, ()))), (b5bbbba, (b5bbbbba, ())))) (Go.Inc.num' (1 : Int)) (10 : Int) ([] : List (Int × (Int × (ByteArray × Unit))))) then
              bif (!((((Go.Inc.queueStep (b3a, ((b3ba, (b3bba, (b3bbba, ()))), (b3bbbba, (b3bbbbba, ())))) (Go.Inc.num' (1 : Int)) (10 : Int) ([] : List (Int × (Int × (ByteArray × Unit))))).2).2).1)) then
              x0 false
            else
              bif (!((((Go.Inc.queueStep (b5a, ((b5ba, (b5bba, (b5bbba, ()))), (b5bbbba, (b5bbbbba, ())))) (Go.Inc.num' (1 : Int)) (10 : Int) ([] : List (Int × (Int × (ByteArray × Unit))))).2).2).1)) then
              x0 false
            else
              bif (Go.Inc.okSame2 (((Go.Inc.queueStep (b3a, ((b3ba, (b3bba, (b3bbba, ()))), (b3bbbba, (b3bbbbba, ())))) (Go.Inc.num' (1 : Int)) (10 : Int) ([] : List (Int × (Int × (ByteArray × Unit))))).2).1) ((List.getD t0 (Int.toNat t68) ((0 : Int), ((0 : Int), (ByteArray.empty, ())))) :: ([] : List (Int × (Int × (ByteArray × Unit)))))) then
              bif (!(Go.Inc.sameV (((Go.Inc.queueStep (b3a, ((b3ba, (b3bba, (b3bbba, ()))), (b3bbbba, (b3bbbbba, ())))) (Go.Inc.num' (1 : Int)) (10 : Int) ([] : List (Int × (Int × (ByteArray × Unit))))).2).1) ((List.getD t0 (Int.toNat t68) ((0 : Int), ((0 : Int), (ByteArray.empty, ())))) :: ([] : List (Int × (Int × (ByteArray × Unit))))))) then
              x0 false
            else
              bif (Go.Inc.okSame2 (((Go.Inc.queueStep (b5a, ((b5ba, (b5bba, (b5bbba, ()))), (b5bbbba, (b5bbbbba, ())))) (Go.Inc.num' (1 : Int)) (10 : Int) ([] : List (Int × (Int × (ByteArray × Unit))))).2).1) ((List.getD t0 (Int.toNat (Go.IntKind.wrap .i64 ((Go.IntKind.wrap .i64 ((((List.length t0) : Nat) : Int) - (1 : Int))) - t68))) ((0 : Int), ((0 : Int), (ByteArray.empty, ())))) :: ([] : List (Int × (Int × (ByteArray × Unit)))))) then
              bif (!(Go.Inc.sameV (((Go.Inc.queueStep (b5a, ((b5ba, (b5bba, (b5bbba, ()))), (b5bbbba, (b5bbbbba, ())))) (Go.Inc.num' (1 : Int)) (10 : Int) ([] : List (Int × (Int × (ByteArray × Unit))))).2).1) ((List.getD t0 (Int.toNat (Go.IntKind.wrap .i64 ((Go.IntKind.wrap .i64 ((((List.length t0) : Nat) : Int) - (1 : Int))) - t68))) ((0 : Int), ((0 : Int), (ByteArray.empty, ())))) :: ([] : List (Int × (Int × (ByteArray × Unit))))))) then
              x0 false
            else
              W4_16 N x0 x3 n t0 (((Go.Inc.queueStep (b3a, ((b3ba, (b3bba, (b3bbba, ()))), (b3bbbba, (b3bbbbba, ())))) (Go.Inc.num' (1 : Int)) (10 : Int) ([] : List (Int × (Int × (ByteArray × Unit))))).1).1) (((((Go.Inc.queueStep (b3a, ((b3ba, (b3bba, (b3bbba, ()))), (b3bbbba, (b3bbbbba, ())))) (Go.Inc.num' (1 : Int)) (10 : Int) ([] : List (Int × (Int × (ByteArray × Unit))))).1).2).1).1) ((((((Go.Inc.queueStep (b3a, ((b3ba, (b3bba, (b3bbba, ()))), (b3bbbba, (b3bbbbba, ())))) (Go.Inc.num' (1 : Int)) (10 : Int) ([] : List (Int × (Int × (ByteArray × Unit))))).1).2).1).2).1) (((((((Go.Inc.queueStep (b3a, ((b3ba, (b3bba, (b3bbba, ()))), (b3bbbba, (b3bbbbba, ())))) (Go.Inc.num' (1 : Int)) (10 : Int) ([] : List (Int × (Int × (ByteArray × Unit))))).1).2).1).2).2).1) (((((Go.Inc.queueStep (b3a, ((b3ba, (b3bba, (b3bbba, ()))), (b3bbbba, (b3bbbbba, ())))) (Go.Inc.num' (1 : Int)) (10 : Int) ([] : List (Int × (Int × (ByteArray × Unit))))).1).2).2).1) ((((((Go.Inc.queueStep (b3a, ((b3ba, (b3bba, (b3bbba, ()))), (b3bbbba, (b3bbbbba, ())))) (Go.Inc.num' (1 : Int)) (10 : Int) ([] : List (Int × (Int × (ByteArray × Unit))))).1).2).2).2).1) (((Go.Inc.queueStep (b5a, ((b5ba, (b5bba, (b5bbba, ()))), (b5bbbba, (b5bbbbba, ())))) (Go.Inc.num' (1 : Int)) (10 : Int) ([] : List (Int × (Int × (ByteArray × Unit))))).1).1) (((((Go.Inc.queueStep (b5a, ((b5ba, (b5bba, (b5bbba, ()))), (b5bbbba, (b5bbbbba, ())))) (Go.Inc.num' (1 : Int)) (10 : Int) ([] : List (Int × (Int × (ByteArray × Unit))))).1).2).1).1) ((((((Go.Inc.queueStep (b5a, ((b5ba, (b5bba, (b5bbba, ()))), (b5bbbba, (b5bbbbba, ())))) (Go.Inc.num' (1 : Int)) (10 : Int) ([] : List (Int × (Int × (ByteArray × Unit))))).1).2).1).2).1) (((((((Go.Inc.queueStep (b5a, ((b5ba, (b5bba, (b5bbba, ()))), (b5bbbba, (b5bbbbba, ())))) (Go.Inc.num' (1 : Int)) (10 : Int) ([] : List (Int × (Int × (ByteArray × Unit))))).1).2).1).2).2).1) (((((Go.Inc.queueStep (b5a, ((b5ba, (b5bba, (b5bbba, ()))), (b5bbbba, (b5bbbbba, ())))) (Go.Inc.num' (1 : Int)) (10 : Int) ([] : List (Int × (Int × (ByteArray × Unit))))).1).2).2).1) ((((((Go.Inc.queueStep (b5a, ((b5ba, (b5bba, (b5bbba, ()))), (b5bbbba, (b5bbbbba, ())))) (Go.Inc.num' (1 : Int)) (10 : Int) ([] : List (Int × (Int × (ByteArray × Unit))))).1).2).2).2).1) t67 (Go.IntKind.wrap .i64 (t68 + (1 : Int)))
            else
              none
            else
              none
            else
              none
          else
            none
        else
          none
      else
        none
    else
      bif (Go.Inc.okQStep (b3a, ((b3ba, (b3bba, (b3bbba, ()))), (b3bbbba, (b3bbbbba, ())))) (Go.Inc.num' (1 : Int)) (10 : Int) ([] : List (Int × (Int × (ByteArray × Unit))))) then
        bif (Go.Inc.okQStep (b5a, ((b5ba, (b5bba, (b5bbba, ()))), (b5bbbba, (b5bbbbba, ())))) (Go.Inc.num' (1 : Int)) (10 : Int) ([] : List (Int × (Int × (ByteArray × Unit))))) then
          bif (!((((Go.Inc.queueStep (b3a, ((b3ba, (b3bba, (b3bbba, ()))), (b3bbbba, (b3bbbbba, ())))) (Go.Inc.num' (1 : Int)) (10 : Int) ([] : List (Int × (Int × (ByteArray × Unit))))).2).2).1)) then
            x0 false
          else
            bif (!((((Go.Inc.queueStep (b5a, ((b5ba, (b5bba, (b5bbba, ()))), (b5bbbba, (b5bbbbba, ())))) (Go.Inc.num' (1 : Int)) (10 : Int) ([] : List (Int × (Int × (ByteArray × Unit))))).2).2).1)) then
              x0 false
            else
              bif (Go.Inc.okSame2 (((Go.Inc.queueStep (b3a, ((b3ba, (b3bba, (b3bbba, ()))), (b3bbbba, (b3bbbbba, ())))) (Go.Inc.num' (1 : Int)) (10 : Int) ([] : List (Int × (Int × (ByteArray × Unit))))).2).1) (((0 : Int), ((0 : Int), (ByteArray.empty, ()))) :: ([] : List (Int × (Int × (ByteArray × Unit)))))) then
              bif (!(Go.Inc.sameV (((Go.Inc.queueStep (b3a, ((b3ba, (b3bba, (b3bbba, ()))), (b3bbbba, (b3bbbbba, ())))) (Go.Inc.num' (1 : Int)) (10 : Int) ([] : List (Int × (Int × (ByteArray × Unit))))).2).1) (((0 : Int), ((0 : Int), (ByteArray.empty, ()))) :: ([] : List (Int × (Int × (ByteArray × Unit))))))) then
              x0 false
            else
              bif (Go.Inc.okSame2 (((Go.Inc.queueStep (b5a, ((b5ba, (b5bba, (b5bbba, ()))), (b5bbbba, (b5bbbbba, ())))) (Go.Inc.num' (1 : Int)) (10 : Int) ([] : List (Int × (Int × (ByteArray × Unit))))).2).1) (((0 : Int), ((0 : Int), (ByteArray.empty, ()))) :: ([] : List (Int × (Int × (ByteArray × Unit)))))) then
              bif (!(Go.Inc.sameV (((Go.Inc.queueStep (b5a, ((b5ba, (b5bba, (b5bbba, ()))), (b5bbbba, (b5bbbbba, ())))) (Go.Inc.num' (1 : Int)) (10 : Int) ([] : List (Int × (Int × (ByteArray × Unit))))).2).1) (((0 : Int), ((0 : Int), (ByteArray.empty, ()))) :: ([] : List (Int × (Int × (ByteArray × Unit))))))) then
              x0 false
            else
              W4_16 N x0 x3 n t0 (((Go.Inc.queueStep (b3a, ((b3ba, (b3bba, (b3bbba, ()))), (b3bbbba, (b3bbbbba, ())))) (Go.Inc.num' (1 : Int)) (10 : Int) ([] : List (Int × (Int × (ByteArray × Unit))))).1).1) (((((Go.Inc.queueStep (b3a, ((b3ba, (b3bba, (b3bbba, ()))), (b3bbbba, (b3bbbbba, ())))) (Go.Inc.num' (1 : Int)) (10 : Int) ([] : List (Int × (Int × (ByteArray × Unit))))).1).2).1).1) ((((((Go.Inc.queueStep (b3a, ((b3ba, (b3bba, (b3bbba, ()))), (b3bbbba, (b3bbbbba, ())))) (Go.Inc.num' (1 : Int)) (10 : Int) ([] : List (Int × (Int × (ByteArray × Unit))))).1).2).1).2).1) (((((((Go.Inc.queueStep (b3a, ((b3ba, (b3bba, (b3bbba, ()))), (b3bbbba, (b3bbbbba, ())))) (Go.Inc.num' (1 : Int)) (10 : Int) ([] : List (Int × (Int × (ByteArray × Unit))))).1).2).1).2).2).1) (((((Go.Inc.queueStep (b3a, ((b3ba, (b3bba, (b3bbba, ()))), (b3bbbba, (b3bbbbba, ())))) (Go.Inc.num' (1 : Int)) (10 : Int) ([] : List (Int × (Int × (ByteArray × Unit))))).1).2).2).1) ((((((Go.Inc.queueStep (b3a, ((b3ba, (b3bba, (b3bbba, ()))), (b3bbbba, (b3bbbbba, ())))) (Go.Inc.num' (1 : Int)) (10 : Int) ([] : List (Int × (Int × (ByteArray × Unit))))).1).2).2).2).1) (((Go.Inc.queueStep (b5a, ((b5ba, (b5bba, (b5bbba, ()))), (b5bbbba, (b5bbbbba, ())))) (Go.Inc.num' (1 : Int)) (10 : Int) ([] : List (Int × (Int × (ByteArray × Unit))))).1).1) (((((Go.Inc.queueStep (b5a, ((b5ba, (b5bba, (b5bbba, ()))), (b5bbbba, (b5bbbbba, ())))) (Go.Inc.num' (1 : Int)) (10 : Int) ([] : List (Int × (Int × (ByteArray × Unit))))).1).2).1).1) ((((((Go.Inc.queueStep (b5a, ((b5ba, (b5bba, (b5bbba, ()))), (b5bbbba, (b5bbbbba, ())))) (Go.Inc.num' (1 : Int)) (10 : Int) ([] : List (Int × (Int × (ByteArray × Unit))))).1).2).1).2).1) (((((((Go.Inc.queueStep (b5a, ((b5ba, (b5bba, (b5bbba, ()))), (b5bbbba, (b5bbbbba, ())))) (Go.Inc.num' (1 : Int)) (10 : Int) ([] : List (Int × (Int × (ByteArray × Unit))))).1).2).1).2).2).1) (((((Go.Inc.queueStep (b5a, ((b5ba, (b5bba, (b5bbba, ()))), (b5bbbba, (b5bbbbba, ())))) (Go.Inc.num' (1 : Int)) (10 : Int) ([] : List (Int × (Int × (ByteArray × Unit))))).1).2).2).1) ((((((Go.Inc.queueStep (b5a, ((b5ba, (b5bba, (b5bbba, ()))), (b5bbbba, (b5bbbbba, ())))) (Go.Inc.num' (1 : Int)) (10 : Int) ([] : List (Int × (Int × (ByteArray × Unit))))).1).2).2).2).1) t67 (Go.IntKind.wrap .i64 (t68 + (1 : Int)))
            else
              none
            else
              none
        else
          none
      else
        none
  else
    x3 b3a b3ba b3bba b3bbba b3bbbba b3bbbbba b5a b5ba b5bba b5bbba b5bbbba b5bbbbba
def L4 (N : Nat) : Loops (Bool × Unit) := fun k ρ K => match Nat.beq k 8 with
  | true => (match adH ρ H4_8.hd with
    | some v => W4_8 N (fun t2 => K .ret (encH [(4, .bo)] (t2, ()))) (fun t0 b3a b3ba b3bba b3bbba b3bbbba b3bbbbba b5a b5ba b5bba b5bbba b5bbbba b5bbbbba => K (.exit 0) (encH [(0, (.sl (.pr (.int .i64) (.pr (.int .i64) (.pr .str .un))) .no)), (6, (.bx 3 0)), (7, (.pr (.i .i64) (.pr (.i .i64) (.pr (.i .i64) (.pr .st (.pr (.i .i64) (.pr (.sl (.pr (.int .i64) (.pr (.int .i64) (.pr .str .un))) .no) .un))))))), (10, (.bx 5 0)), (11, (.pr (.i .i64) (.pr (.i .i64) (.pr (.i .i64) (.pr .st (.pr (.i .i64) (.pr (.sl (.pr (.int .i64) (.pr (.int .i64) (.pr .str .un))) .no) .un)))))))] (t0, ((), ((b3a, (b3ba, (b3bba, (b3bbba, (b3bbbba, (b3bbbbba, ())))))), ((), ((b5a, (b5ba, (b5bba, (b5bbba, (b5bbbba, (b5bbbbba, ())))))), ()))))))) N v.1 v.2.2.1.1 v.2.2.1.2.1 v.2.2.1.2.2.1 v.2.2.1.2.2.2.1 v.2.2.1.2.2.2.2.1 v.2.2.1.2.2.2.2.2.1 v.2.2.2.2.1.1 v.2.2.2.2.1.2.1 v.2.2.2.2.1.2.2.1 v.2.2.2.2.1.2.2.2.1 v.2.2.2.2.1.2.2.2.2.1 v.2.2.2.2.1.2.2.2.2.2.1 v.2.2.2.2.2.1 v.2.2.2.2.2.2.1 v.2.2.2.2.2.2.2.1
    | none => none)
  | false => match Nat.beq k 16 with
  | true => (match adH ρ H4_16.hd with
    | some v => W4_16 N (fun t2 => K .ret (encH [(4, .bo)] (t2, ()))) (fun b3a b3ba b3bba b3bbba b3bbbba b3bbbbba b5a b5ba b5bba b5bbba b5bbbba b5bbbbba => K (.exit 2) (encH [(6, (.bx 3 0)), (7, (.pr (.i .i64) (.pr (.i .i64) (.pr (.i .i64) (.pr .st (.pr (.i .i64) (.pr (.sl (.pr (.int .i64) (.pr (.int .i64) (.pr .str .un))) .no) .un))))))), (10, (.bx 5 0)), (11, (.pr (.i .i64) (.pr (.i .i64) (.pr (.i .i64) (.pr .st (.pr (.i .i64) (.pr (.sl (.pr (.int .i64) (.pr (.int .i64) (.pr .str .un))) .no) .un)))))))] ((), ((b3a, (b3ba, (b3bba, (b3bbba, (b3bbbba, (b3bbbbba, ())))))), ((), ((b5a, (b5ba, (b5bba, (b5bbba, (b5bbbba, (b5bbbbba, ())))))), ())))))) N v.1 v.2.2.1.1 v.2.2.1.2.1 v.2.2.1.2.2.1 v.2.2.1.2.2.2.1 v.2.2.1.2.2.2.2.1 v.2.2.1.2.2.2.2.2.1 v.2.2.2.2.1.1 v.2.2.2.2.1.2.1 v.2.2.2.2.1.2.2.1 v.2.2.2.2.1.2.2.2.1 v.2.2.2.2.1.2.2.2.2.1 v.2.2.2.2.1.2.2.2.2.2.1 v.2.2.2.2.2.1 v.2.2.2.2.2.2.1
    | none => none)
  | false => none
def F4 (N : Nat) (p0 : List (Int × Int × ByteArray × Unit)) : Option (Bool × Unit) :=
  bif decide ((((List.length p0) : Nat) : Int) > (40 : Int)) then
    some (true, ())
  else
    W4_8 N
      (fun t2 =>
        some (t2, ()))
      (fun t0 b3a b3ba b3bba b3bbba b3bbbba b3bbbbba b5a b5ba b5bba b5bbba b5bbbba b5bbbbba =>
        W4_16 N
          (fun t2 =>
            some (t2, ()))
          (fun b3a b3ba b3bba b3bbba b3bbbba b3bbbbba b5a b5ba b5bba b5bbba b5bbbba b5bbbbba =>
            bif ((((List.length b3bbbbba) : Nat) : Int) == (0 : Int)) then
              some (((((List.length b5bbbbba) : Nat) : Int) == (0 : Int)), ())
            else
              some (false, ()))
          N t0 b3a b3ba b3bba b3bbba b3bbbba b3bbbbba b5a b5ba b5bba b5bbba b5bbbba b5bbbbba (Go.IntKind.wrap .i64 ((((List.length t0) : Nat) : Int) + (1 : Int))) (0 : Int))
      N p0 (((Go.Inc.queueNew (5 : Int)).1).1) (((((Go.Inc.queueNew (5 : Int)).1).2).1).1) ((((((Go.Inc.queueNew (5 : Int)).1).2).1).2).1) (((((((Go.Inc.queueNew (5 : Int)).1).2).1).2).2).1) (((((Go.Inc.queueNew (5 : Int)).1).2).2).1) ((((((Go.Inc.queueNew (5 : Int)).1).2).2).2).1) (((Go.Inc.queueNew (6 : Int)).1).1) (((((Go.Inc.queueNew (6 : Int)).1).2).1).1) ((((((Go.Inc.queueNew (6 : Int)).1).2).1).2).1) (((((((Go.Inc.queueNew (6 : Int)).1).2).1).2).2).1) (((((Go.Inc.queueNew (6 : Int)).1).2).2).1) ((((((Go.Inc.queueNew (6 : Int)).1).2).2).2).1) p0 (((List.length p0) : Nat) : Int) (0 : Int)
theorem loops4 (N : Nat) : loopsOk C4 (L4 N) Go.Proofs.Tryd.f4 := ⟨trivial, ⟨⟨trivial, ⟨⟨trivial, trivial⟩, trivial⟩⟩, ⟨⟨trivial, ⟨⟨trivial, trivial⟩, trivial⟩⟩, ⟨trivial, ⟨trivial, ⟨⟨trivial, ⟨loopOk_of H4_8 N (fun K n v => W4_8 N (fun t2 => K .ret (encH [(4, .bo)] (t2, ()))) (fun t0 b3a b3ba b3bba b3bbba b3bbbba b3bbbbba b5a b5ba b5bba b5bbba b5bbbba b5bbbbba => K (.exit 0) (encH [(0, (.sl (.pr (.int .i64) (.pr (.int .i64) (.pr .str .un))) .no)), (6, (.bx 3 0)), (7, (.pr (.i .i64) (.pr (.i .i64) (.pr (.i .i64) (.pr .st (.pr (.i .i64) (.pr (.sl (.pr (.int .i64) (.pr (.int .i64) (.pr .str .un))) .no) .un))))))), (10, (.bx 5 0)), (11, (.pr (.i .i64) (.pr (.i .i64) (.pr (.i .i64) (.pr .st (.pr (.i .i64) (.pr (.sl (.pr (.int .i64) (.pr (.int .i64) (.pr .str .un))) .no) .un)))))))] (t0, ((), ((b3a, (b3ba, (b3bba, (b3bbba, (b3bbbba, (b3bbbbba, ())))))), ((), ((b5a, (b5ba, (b5bba, (b5bbba, (b5bbbba, (b5bbbbba, ())))))), ()))))))) n v.1 v.2.2.1.1 v.2.2.1.2.1 v.2.2.1.2.2.1 v.2.2.1.2.2.2.1 v.2.2.1.2.2.2.2.1 v.2.2.1.2.2.2.2.2.1 v.2.2.2.2.1.1 v.2.2.2.2.1.2.1 v.2.2.2.2.1.2.2.1 v.2.2.2.2.1.2.2.2.1 v.2.2.2.2.1.2.2.2.2.1 v.2.2.2.2.1.2.2.2.2.2.1 v.2.2.2.2.2.1 v.2.2.2.2.2.2.1 v.2.2.2.2.2.2.2.1) (by kernel_rfl) (fun K v => by kernel_rfl) (fun K v => by kernel_rfl) (fun K n v => by kernel_rfl), ⟨trivial, ⟨⟨trivial, trivial⟩, ⟨⟨trivial, ⟨⟨trivial, ⟨⟨trivial, trivial⟩, trivial⟩⟩, ⟨trivial, trivial⟩⟩⟩, trivial⟩⟩⟩⟩⟩, ⟨⟨trivial, ⟨loopOk_of H4_16 N (fun K n v => W4_16 N (fun t2 => K .ret (encH [(4, .bo)] (t2, ()))) (fun b3a b3ba b3bba b3bbba b3bbbba b3bbbbba b5a b5ba b5bba b5bbba b5bbbba b5bbbbba => K (.exit 2) (encH [(6, (.bx 3 0)), (7, (.pr (.i .i64) (.pr (.i .i64) (.pr (.i .i64) (.pr .st (.pr (.i .i64) (.pr (.sl (.pr (.int .i64) (.pr (.int .i64) (.pr .str .un))) .no) .un))))))), (10, (.bx 5 0)), (11, (.pr (.i .i64) (.pr (.i .i64) (.pr (.i .i64) (.pr .st (.pr (.i .i64) (.pr (.sl (.pr (.int .i64) (.pr (.int .i64) (.pr .str .un))) .no) .un)))))))] ((), ((b3a, (b3ba, (b3bba, (b3bbba, (b3bbbba, (b3bbbbba, ())))))), ((), ((b5a, (b5ba, (b5bba, (b5bbba, (b5bbbba, (b5bbbbba, ())))))), ())))))) n v.1 v.2.2.1.1 v.2.2.1.2.1 v.2.2.1.2.2.1 v.2.2.1.2.2.2.1 v.2.2.1.2.2.2.2.1 v.2.2.1.2.2.2.2.2.1 v.2.2.2.2.1.1 v.2.2.2.2.1.2.1 v.2.2.2.2.1.2.2.1 v.2.2.2.2.1.2.2.2.1 v.2.2.2.2.1.2.2.2.2.1 v.2.2.2.2.1.2.2.2.2.2.1 v.2.2.2.2.2.1 v.2.2.2.2.2.2.1) (by kernel_rfl) (fun K v => by kernel_rfl) (fun K v => by kernel_rfl) (fun K n v => by kernel_rfl), ⟨trivial, ⟨⟨trivial, trivial⟩, ⟨⟨trivial, ⟨trivial, ⟨⟨trivial, ⟨trivial, trivial⟩⟩, ⟨trivial, ⟨trivial, ⟨⟨trivial, ⟨⟨trivial, trivial⟩, trivial⟩⟩, trivial⟩⟩⟩⟩⟩⟩, trivial⟩⟩⟩⟩⟩, ⟨trivial, trivial⟩⟩⟩⟩⟩⟩⟩⟩
theorem runs4 (N : Nat) (x : S4.ta.den) : run C4 S4 (L4 N) Go.Proofs.Tryd.f4 x = F4 N x.1 := by kernel_rfl

end Go.L15
