/- The walks of package queue and its statements. Printed by a program of this session. -/
import Derived.Test.YtifkhlnojdjjcaaDoorW0
set_option linter.unusedVariables false
set_option maxRecDepth 100000
namespace Go.L15
open Go Go.Abs Go.Inc

/-! ### 17: incognito/incognitolaw15.num -/
def L17 (_ : Nat) : Loops ((Int × Int × ByteArray × Unit) × Unit) := fun _ _ _ => none
def F17 (N : Nat) (p0 : Int) : Option ((Int × Int × ByteArray × Unit) × Unit) :=
  some (((1 : Int), (p0, (ByteArray.empty, ()))), ())
theorem loops17 (N : Nat) : loopsOk C17 (L17 N) Go.Proofs.Tryd.f17 := ⟨trivial, ⟨trivial, trivial⟩⟩
theorem runs17 (N : Nat) (x : S17.ta.den) : run C17 S17 (L17 N) Go.Proofs.Tryd.f17 x = F17 N x.1 := by kernel_rfl

/-! ### 22: incognito/sign.Takes -/
def L22 (_ : Nat) : Loops (Bool × Unit) := fun _ _ _ => none
def F22 (N : Nat) (p0 : Int) (p1 : Int × Int × ByteArray × Unit) : Option (Bool × Unit) :=
  bif (Go.Inc.okV p1) then
    bif (!(Go.Inc.right p1)) then
      some (false, ())
    else
      bif (p0 == (0 : Int)) then
        bif (p0 == (0 : Int)) then
          bif (p1.1 == (1 : Int)) then
            some (true, ())
          else
            some ((p1.1 == (2 : Int)), ())
        else
          bif (p0 == (5 : Int)) then
            some ((p1.1 == (1 : Int)), ())
          else
            bif (p0 == (6 : Int)) then
              some ((p1.1 == (3 : Int)), ())
            else
              some (false, ())
      else
        bif (p0 == (1 : Int)) then
          bif (p0 == (1 : Int)) then
            bif (p1.1 == (1 : Int)) then
              some (true, ())
            else
              some ((p1.1 == (2 : Int)), ())
          else
            bif (p0 == (5 : Int)) then
              some ((p1.1 == (1 : Int)), ())
            else
              bif (p0 == (6 : Int)) then
              some ((p1.1 == (3 : Int)), ())
            else
              some (false, ())
        else
          bif (p0 == (2 : Int)) then
            bif (p0 == (2 : Int)) then
              bif (p1.1 == (1 : Int)) then
              some (true, ())
            else
              some ((p1.1 == (2 : Int)), ())
            else
              bif (p0 == (5 : Int)) then
              some ((p1.1 == (1 : Int)), ())
            else
              bif (p0 == (6 : Int)) then
              some ((p1.1 == (3 : Int)), ())
            else
              some (false, ())
          else
            bif (p0 == (3 : Int)) then
              bif (p0 == (3 : Int)) then
              bif (p1.1 == (1 : Int)) then
              some (true, ())
            else
              some ((p1.1 == (2 : Int)), ())
            else
              bif (p0 == (5 : Int)) then
              some ((p1.1 == (1 : Int)), ())
            else
              bif (p0 == (6 : Int)) then
              some ((p1.1 == (3 : Int)), ())
            else
              some (false, ())
            else
              bif (p0 == (4 : Int)) then
              bif (p1.1 == (1 : Int)) then
              some (true, ())
            else
              some ((p1.1 == (2 : Int)), ())
            else
              bif (p0 == (5 : Int)) then
              some ((p1.1 == (1 : Int)), ())
            else
              bif (p0 == (6 : Int)) then
              some ((p1.1 == (3 : Int)), ())
            else
              some (false, ())
  else
    none
theorem loops22 (N : Nat) : loopsOk C22 (L22 N) Go.Proofs.Tryd.f22 := ⟨trivial, ⟨⟨trivial, ⟨⟨trivial, trivial⟩, trivial⟩⟩, ⟨⟨trivial, ⟨⟨trivial, ⟨trivial, ⟨trivial, ⟨trivial, ⟨trivial, ⟨trivial, ⟨trivial, ⟨trivial, trivial⟩⟩⟩⟩⟩⟩⟩⟩, ⟨⟨trivial, trivial⟩, ⟨trivial, ⟨⟨trivial, trivial⟩, trivial⟩⟩⟩⟩⟩, ⟨trivial, trivial⟩⟩⟩⟩
theorem runs22 (N : Nat) (x : S22.ta.den) : run C22 S22 (L22 N) Go.Proofs.Tryd.f22 x = F22 N x.1 x.2.1 := by kernel_rfl

/-! ### 30: incognito/sign.Args -/
def W30_6 {β : Type} (N : Nat) (x1 : (List Int) → Option β) : Nat → Int → Int → ByteArray → Int → Bool → (List Int) → Int → Int → Option β
  | 0, _, _, _, _, _, _, _, _ => none
  | n + 1, b6a, b6ba, b6bba, b6bbba, b6bbbba, t8, t20, t21 =>
  bif decide (t21 < t20) then
    bif ((decide ((0 : Int) ≤ t21)) && (decide (t21 < (((ByteArray.size b6bba) : Nat) : Int)))) then
      bif decide ((((List.length t8) + (List.length ((Go.Inc.domain (((UInt8.toNat (List.getD (Array.toList (ByteArray.data b6bba)) (Int.toNat t21) (0 : UInt8))) : Nat) : Int)) :: ([] : List Int)))) * 8) ≤ 140737488351232) then
        W30_6 N x1 n b6a b6ba b6bba b6bbba b6bbbba (t8 ++ ((Go.Inc.domain (((UInt8.toNat (List.getD (Array.toList (ByteArray.data b6bba)) (Int.toNat t21) (0 : UInt8))) : Nat) : Int)) :: ([] : List Int))) t20 (Go.IntKind.wrap .i64 (t21 + (1 : Int)))
      else
        none
    else
      none
  else
    x1 t8
def L30 (N : Nat) : Loops ((List Int) × Bool × Unit) := fun k ρ K => match Nat.beq k 6 with
  | true => (match adH ρ H30_6.hd with
    | some v => W30_6 N (fun t8 => K (.exit 0) (encH [(16, (.sl (.int .i64) (.own 31)))] (t8, ()))) N v.2.1.1 v.2.1.2.1 v.2.1.2.2.1 v.2.1.2.2.2.1 v.2.1.2.2.2.2.1 v.2.2.1 v.2.2.2.1 v.2.2.2.2.1
    | none => none)
  | false => none
def F30 (N : Nat) (p0 : Int) (p1 : Int) : Option ((List Int) × Bool × Unit) :=
  bif (!(((Go.Inc.findGo p0 p1).2).1)) then
    some (([] : List Int), (false, ()))
  else
    W30_6 N
      (fun t8 =>
        some (t8, (true, ())))
      N (((Go.Inc.findGo p0 p1).1).1) ((((Go.Inc.findGo p0 p1).1).2).1) (((((Go.Inc.findGo p0 p1).1).2).2).1) ((((((Go.Inc.findGo p0 p1).1).2).2).2).1) (((((((Go.Inc.findGo p0 p1).1).2).2).2).2).1) ([] : List Int) (((ByteArray.size (((((Go.Inc.findGo p0 p1).1).2).2).1)) : Nat) : Int) (0 : Int)
theorem loops30 (N : Nat) : loopsOk C30 (L30 N) Go.Proofs.Tryd.f30 := ⟨trivial, ⟨trivial, ⟨⟨trivial, ⟨⟨trivial, trivial⟩, trivial⟩⟩, ⟨trivial, ⟨⟨trivial, ⟨loopOk_of H30_6 N (fun K n v => W30_6 N (fun t8 => K (.exit 0) (encH [(16, (.sl (.int .i64) (.own 31)))] (t8, ()))) n v.2.1.1 v.2.1.2.1 v.2.1.2.2.1 v.2.1.2.2.2.1 v.2.1.2.2.2.2.1 v.2.2.1 v.2.2.2.1 v.2.2.2.2.1) (by kernel_rfl) (fun K v => by kernel_rfl) (fun K v => by kernel_rfl) (fun K n v => by kernel_rfl), ⟨trivial, ⟨⟨trivial, trivial⟩, ⟨⟨trivial, trivial⟩, trivial⟩⟩⟩⟩⟩, ⟨trivial, trivial⟩⟩⟩⟩⟩⟩
theorem runs30 (N : Nat) (x : S30.ta.den) : run C30 S30 (L30 N) Go.Proofs.Tryd.f30 x = F30 N x.1 x.2.1 := by kernel_rfl

/-! ### 12x: incognito/queue.Step -/
def L12x (_ : Nat) : Loops (HS.den X12x.hout) := fun _ _ _ => none
def F12x (N : Nat) (t0a : Int) (t0baa : Int) (t0baba : Int) (t0babba : ByteArray) (t0bba : Int) (t0bbba : List (Int × Int × ByteArray × Unit)) (t1a : Int) (t1ba : Int) (t1bba : ByteArray) (t2 : Int) (t3 : List (Int × Int × ByteArray × Unit)) : Option (HS.den X12x.hout) :=
  bif (!(((Go.Inc.queueNew t0a).2).1)) then
    some (((0 : Int), (((0 : Int), ((0 : Int), (ByteArray.empty, ()))), ((0 : Int), (([] : List (Int × (Int × (ByteArray × Unit)))), ())))), (0, (false, (([] : List (Int × (Int × (ByteArray × Unit)))), ()))))
  else
    bif (Go.Inc.okT (0 : Int) (t1a, (t1ba, (t1bba, ())))) then
      bif (!(Go.Inc.takes (0 : Int) (t1a, (t1ba, (t1bba, ()))))) then
        some (((0 : Int), (((0 : Int), ((0 : Int), (ByteArray.empty, ()))), ((0 : Int), (([] : List (Int × (Int × (ByteArray × Unit)))), ())))), (0, (false, (([] : List (Int × (Int × (ByteArray × Unit)))), ()))))
      else
        bif (Go.Inc.okF t0a t2 t3) then
          bif (!(Go.Inc.fits t0a t2 t3)) then
            some (((0 : Int), (((0 : Int), ((0 : Int), (ByteArray.empty, ()))), ((0 : Int), (([] : List (Int × (Int × (ByteArray × Unit)))), ())))), (0, (false, (([] : List (Int × (Int × (ByteArray × Unit)))), ()))))
          else
            bif (t2 == (9 : Int)) then
              bif ((decide ((0 : Int) ≤ (0 : Int))) && ((decide ((0 : Int) ≤ (((List.length t0bbba) : Nat) : Int))) && (decide ((((List.length t0bbba) : Nat) : Int) ≤ (((List.length t0bbba) : Nat) : Int))))) then
              bif ((((List.length t0bbba) : Nat) : Int) == (((List.length t0bbba) : Nat) : Int)) then
              bif ((decide ((0 : Int) ≤ (0 : Int))) && (decide ((0 : Int) < (((List.length t3) : Nat) : Int)))) then
              bif decide ((((List.length (Go.Abs.sub t0bbba (0 : Int) (((List.length t0bbba) : Nat) : Int))) + (List.length ((List.getD t3 (Int.toNat (0 : Int)) ((0 : Int), ((0 : Int), (ByteArray.empty, ())))) :: ([] : List (Int × (Int × (ByteArray × Unit))))))) * 32) ≤ 140737488351232) then
              some ((t0a, ((t0baa, (t0baba, (t0babba, ()))), (t0bba, (((Go.Abs.sub t0bbba (0 : Int) (((List.length t0bbba) : Nat) : Int)) ++ ((List.getD t3 (Int.toNat (0 : Int)) ((0 : Int), ((0 : Int), (ByteArray.empty, ())))) :: ([] : List (Int × (Int × (ByteArray × Unit)))))), ())))), (0, (true, (([] : List (Int × (Int × (ByteArray × Unit)))), ()))))
            else
              none
            else
              none
            else
              none
            else
              none
            else
              bif (Go.Inc.okPop (t0a, ((t0baa, (t0baba, (t0babba, ()))), (t0bba, (t0bbba, ()))))) then
              some ((t0a, ((t0baa, (t0baba, (t0babba, ()))), (t0bba, ((Go.Inc.queuePop (t0a, ((t0baa, (t0baba, (t0babba, ()))), (t0bba, (t0bbba, ()))))).1, ())))), ((List.length ((((Go.Inc.queuePop (t0a, ((t0baa, (t0baba, (t0babba, ()))), (t0bba, (t0bbba, ()))))).2).1) :: ([] : List (Int × (Int × (ByteArray × Unit)))))), (true, (((((Go.Inc.queuePop (t0a, ((t0baa, (t0baba, (t0babba, ()))), (t0bba, (t0bbba, ()))))).2).1) :: ([] : List (Int × (Int × (ByteArray × Unit))))), ()))))
            else
              none
        else
          none
    else
      none
theorem loops12x (N : Nat) : loopsOk C12x (L12x N) Go.Proofs.Tryd.f12 := ⟨trivial, ⟨trivial, ⟨⟨trivial, ⟨⟨trivial, trivial⟩, trivial⟩⟩, ⟨⟨trivial, ⟨⟨trivial, ⟨trivial, trivial⟩⟩, trivial⟩⟩, ⟨trivial, ⟨trivial, ⟨trivial, trivial⟩⟩⟩⟩⟩⟩⟩
theorem runs12x (N : Nat) (x : HS.den X12x.hin) : runX C12x X12x (L12x N) Go.Proofs.Tryd.f12 x = F12x N x.1.1 x.1.2.1.1 x.1.2.1.2.1 x.1.2.1.2.2.1 x.1.2.2.1 x.1.2.2.2.1 x.2.1.1 x.2.1.2.1 x.2.1.2.2.1 x.2.2.1 x.2.2.2.1 := by kernel_rfl

/-! ### 20: incognito/incognitolaw15.two -/
def L20 (_ : Nat) : Loops ((List (Int × Int × ByteArray × Unit)) × Unit) := fun _ _ _ => none
def F20 (N : Nat) (p0 : Int) : Option ((List (Int × Int × ByteArray × Unit)) × Unit) :=
  bif (Go.Inc.okQStep ((Go.Inc.queueNew p0).1) (Go.Inc.num' (1 : Int)) (9 : Int) ((Go.Inc.num' (1 : Int)) :: ([] : List (Int × (Int × (ByteArray × Unit)))))) then
    bif (Go.Inc.okQStep ((Go.Inc.queueStep ((Go.Inc.queueNew p0).1) (Go.Inc.num' (1 : Int)) (9 : Int) ((Go.Inc.num' (1 : Int)) :: ([] : List (Int × (Int × (ByteArray × Unit)))))).1) (Go.Inc.num' (1 : Int)) (9 : Int) ((Go.Inc.num' (2 : Int)) :: ([] : List (Int × (Int × (ByteArray × Unit)))))) then
      bif (Go.Inc.okQStep ((Go.Inc.queueStep ((Go.Inc.queueStep ((Go.Inc.queueNew p0).1) (Go.Inc.num' (1 : Int)) (9 : Int) ((Go.Inc.num' (1 : Int)) :: ([] : List (Int × (Int × (ByteArray × Unit)))))).1) (Go.Inc.num' (1 : Int)) (9 : Int) ((Go.Inc.num' (2 : Int)) :: ([] : List (Int × (Int × (ByteArray × Unit)))))).1) (Go.Inc.num' (1 : Int)) (10 : Int) ([] : List (Int × (Int × (ByteArray × Unit))))) then
        some (((Go.Inc.queueStep ((Go.Inc.queueStep ((Go.Inc.queueStep ((Go.Inc.queueNew p0).1) (Go.Inc.num' (1 : Int)) (9 : Int) ((Go.Inc.num' (1 : Int)) :: ([] : List (Int × (Int × (ByteArray × Unit)))))).1) (Go.Inc.num' (1 : Int)) (9 : Int) ((Go.Inc.num' (2 : Int)) :: ([] : List (Int × (Int × (ByteArray × Unit)))))).1) (Go.Inc.num' (1 : Int)) (10 : Int) ([] : List (Int × (Int × (ByteArray × Unit))))).2).1, ())
      else
        none
    else
      none
  else
    none
theorem loops20 (N : Nat) : loopsOk C20 (L20 N) Go.Proofs.Tryd.f20 := ⟨trivial, ⟨trivial, ⟨trivial, ⟨trivial, ⟨trivial, ⟨trivial, trivial⟩⟩⟩⟩⟩⟩
theorem runs20 (N : Nat) (x : S20.ta.den) : run C20 S20 (L20 N) Go.Proofs.Tryd.f20 x = F20 N x.1 := by kernel_rfl

/-! ### 6: incognito/incognitolaw15.wakes -/
def L6 (_ : Nat) : Loops (Bool × Unit) := fun _ _ _ => none
def F6 (N : Nat) : Option (Bool × Unit) :=
  some ((Go.Inc.sameV (Go.Inc.twoV (6 : Int)) ((Go.Inc.num' (2 : Int)) :: ([] : List (Int × (Int × (ByteArray × Unit)))))), ())
theorem loops6 (N : Nat) : loopsOk C6 (L6 N) Go.Proofs.Tryd.f6 := ⟨trivial, ⟨trivial, trivial⟩⟩
theorem runs6 (N : Nat) (x : S6.ta.den) : run C6 S6 (L6 N) Go.Proofs.Tryd.f6 x = F6 N := by kernel_rfl

/-! ### 9: incognito/incognitolaw15.great -/
def W9_7 {β : Type} (N : Nat) (x0 : Bool → Option β) (x3 : (List ((Int × Int × ByteArray × Unit) × Int × (List (Int × Int × ByteArray × Unit)) × Unit)) → (List ((Int × Int × ByteArray × Unit) × Int × (List (Int × Int × ByteArray × Unit)) × Unit)) → Int → Int → Option β) : Nat → (List ((Int × Int × ByteArray × Unit) × Int × (List (Int × Int × ByteArray × Unit)) × Unit)) → (List ((Int × Int × ByteArray × Unit) × Int × (List (Int × Int × ByteArray × Unit)) × Unit)) → Int → Int → (List (Int × Int × ByteArray × Unit)) → Int → Int → Option β
  | 0, _, _, _, _, _, _, _ => none
  | n + 1, t0, t7, t8, t9, t25, t26, t27 =>
  bif decide (t27 < t26) then
    bif ((decide ((0 : Int) ≤ t27)) && (decide (t27 < (((List.length t25) : Nat) : Int)))) then
      bif decide ((((ByteArray.size ((((List.getD t25 (Int.toNat t27) ((0 : Int), ((0 : Int), (ByteArray.empty, ())))).2).2).1)) : Nat) : Int) > (100 : Int)) then
        x0 true
      else
        W9_7 N x0 x3 n t0 t7 t8 t9 t25 t26 (Go.IntKind.wrap .i64 (t27 + (1 : Int)))
    else
      none
  else
    x3 t0 t7 t8 t9
def W9_2 {β : Type} (N : Nat) (x0 : Bool → Option β) (x1 : (List ((Int × Int × ByteArray × Unit) × Int × (List (Int × Int × ByteArray × Unit)) × Unit)) → Option β) : Nat → (List ((Int × Int × ByteArray × Unit) × Int × (List (Int × Int × ByteArray × Unit)) × Unit)) → (List ((Int × Int × ByteArray × Unit) × Int × (List (Int × Int × ByteArray × Unit)) × Unit)) → Int → Int → Option β
  | 0, _, _, _, _ => none
  | n + 1, t0, t7, t8, t9 =>
  bif decide (t9 < t8) then
    bif ((decide ((0 : Int) ≤ t9)) && (decide (t9 < (((List.length t7) : Nat) : Int)))) then
      bif decide ((((List.length ((((List.getD t7 (Int.toNat t9) (((0 : Int), ((0 : Int), (ByteArray.empty, ()))), ((0 : Int), ([], ())))).2).2).1)) : Nat) : Int) > (10 : Int)) then
        x0 true
      else
        bif decide ((((ByteArray.size (((((List.getD t7 (Int.toNat t9) (((0 : Int), ((0 : Int), (ByteArray.empty, ()))), ((0 : Int), ([], ())))).1).2).2).1)) : Nat) : Int) > (100 : Int)) then
          x0 true
        else
          W9_7 N
            (fun t2 =>
              x0 t2)
            (fun t0 t7 t8 t9 =>
              W9_2 N x0 x1 n t0 t7 t8 (Go.IntKind.wrap .i64 (t9 + (1 : Int))))
            N t0 t7 t8 t9 ((((List.getD t7 (Int.toNat t9) (((0 : Int), ((0 : Int), (ByteArray.empty, ()))), ((0 : Int), ([], ())))).2).2).1) (((List.length ((((List.getD t7 (Int.toNat t9) (((0 : Int), ((0 : Int), (ByteArray.empty, ()))), ((0 : Int), ([], ())))).2).2).1)) : Nat) : Int) (0 : Int)
    else
      none
  else
    x1 t0
def L9 (N : Nat) : Loops (Bool × Unit) := fun k ρ K => match Nat.beq k 7 with
  | true => (match adH ρ H9_7.hd with
    | some v => W9_7 N (fun t2 => K .ret (encH [(4, .bo)] (t2, ()))) (fun t0 t7 t8 t9 => K (.exit 2) (encH [(0, (.sl (.pr (.pr (.int .i64) (.pr (.int .i64) (.pr .str .un))) (.pr (.int .i64) (.pr (.sl (.pr (.int .i64) (.pr (.int .i64) (.pr .str .un)))) .un))) .no)), (14, (.sl (.pr (.pr (.int .i64) (.pr (.int .i64) (.pr .str .un))) (.pr (.int .i64) (.pr (.sl (.pr (.int .i64) (.pr (.int .i64) (.pr .str .un)))) .un))) .no)), (16, (.i .i64)), (18, (.i .i64))] (t0, (t7, (t8, (t9, ())))))) N v.1 v.2.1 v.2.2.1 v.2.2.2.1 v.2.2.2.2.1 v.2.2.2.2.2.1 v.2.2.2.2.2.2.1
    | none => none)
  | false => match Nat.beq k 2 with
  | true => (match adH ρ H9_2.hd with
    | some v => W9_2 N (fun t2 => K .ret (encH [(4, .bo)] (t2, ()))) (fun t0 => K (.exit 0) (encH [(0, (.sl (.pr (.pr (.int .i64) (.pr (.int .i64) (.pr .str .un))) (.pr (.int .i64) (.pr (.sl (.pr (.int .i64) (.pr (.int .i64) (.pr .str .un)))) .un))) .no))] (t0, ()))) N v.1 v.2.1 v.2.2.1 v.2.2.2.1
    | none => none)
  | false => none
def F9 (N : Nat) (p0 : List ((Int × Int × ByteArray × Unit) × Int × (List (Int × Int × ByteArray × Unit)) × Unit)) : Option (Bool × Unit) :=
  W9_2 N
    (fun t2 =>
      some (t2, ()))
    (fun t0 =>
      some (decide ((((List.length t0) : Nat) : Int) > (40 : Int)), ()))
    N p0 p0 (((List.length p0) : Nat) : Int) (0 : Int)
theorem loops9 (N : Nat) : loopsOk C9 (L9 N) Go.Proofs.Tryd.f9 := ⟨trivial, ⟨⟨trivial, ⟨loopOk_of H9_2 N (fun K n v => W9_2 N (fun t2 => K .ret (encH [(4, .bo)] (t2, ()))) (fun t0 => K (.exit 0) (encH [(0, (.sl (.pr (.pr (.int .i64) (.pr (.int .i64) (.pr .str .un))) (.pr (.int .i64) (.pr (.sl (.pr (.int .i64) (.pr (.int .i64) (.pr .str .un)))) .un))) .no))] (t0, ()))) n v.1 v.2.1 v.2.2.1 v.2.2.2.1) (by kernel_rfl) (fun K v => by kernel_rfl) (fun K v => by kernel_rfl) (fun K n v => by kernel_rfl), ⟨trivial, ⟨⟨trivial, trivial⟩, ⟨⟨trivial, ⟨⟨trivial, ⟨⟨trivial, trivial⟩, trivial⟩⟩, ⟨trivial, ⟨loopOk_of H9_7 N (fun K n v => W9_7 N (fun t2 => K .ret (encH [(4, .bo)] (t2, ()))) (fun t0 t7 t8 t9 => K (.exit 2) (encH [(0, (.sl (.pr (.pr (.int .i64) (.pr (.int .i64) (.pr .str .un))) (.pr (.int .i64) (.pr (.sl (.pr (.int .i64) (.pr (.int .i64) (.pr .str .un)))) .un))) .no)), (14, (.sl (.pr (.pr (.int .i64) (.pr (.int .i64) (.pr .str .un))) (.pr (.int .i64) (.pr (.sl (.pr (.int .i64) (.pr (.int .i64) (.pr .str .un)))) .un))) .no)), (16, (.i .i64)), (18, (.i .i64))] (t0, (t7, (t8, (t9, ())))))) n v.1 v.2.1 v.2.2.1 v.2.2.2.1 v.2.2.2.2.1 v.2.2.2.2.2.1 v.2.2.2.2.2.2.1) (by kernel_rfl) (fun K v => by kernel_rfl) (fun K v => by kernel_rfl) (fun K n v => by kernel_rfl), ⟨trivial, ⟨⟨trivial, trivial⟩, ⟨⟨trivial, ⟨trivial, ⟨⟨trivial, trivial⟩, trivial⟩⟩⟩, trivial⟩⟩⟩⟩⟩⟩⟩, trivial⟩⟩⟩⟩⟩, ⟨trivial, trivial⟩⟩⟩
theorem runs9 (N : Nat) (x : S9.ta.den) : run C9 S9 (L9 N) Go.Proofs.Tryd.f9 x = F9 N x.1 := by kernel_rfl

/-! ### 41: incognito/incognitoref07.letter -/
def W41_2 {β : Type} (N : Nat) (x0 : Bool → Option β) (x1 : Int → Bool → Option β) : Nat → Int → Bool → Int → Option β
  | 0, _, _, _ => none
  | n + 1, t0, t1, t5 =>
  bif decide (t5 ≤ (122 : Int)) then
    bif (t0 == t5) then
      x0 true
    else
      W41_2 N x0 x1 n t0 t1 (Go.IntKind.wrap .u8 (t5 + (1 : Int)))
  else
    x1 t0 t1
def L41 (N : Nat) : Loops (Bool × Unit) := fun k ρ K => match Nat.beq k 2 with
  | true => (match adH ρ H41_2.hd with
    | some v => W41_2 N (fun t4 => K .ret (encH [(8, .bo)] (t4, ()))) (fun t0 t1 => K (.exit 0) (encH [(0, (.i .u8)), (2, .bo)] (t0, (t1, ())))) N v.1 v.2.1 v.2.2.1
    | none => none)
  | false => none
def F41 (N : Nat) (p0 : Int) (p1 : Bool) : Option (Bool × Unit) :=
  W41_2 N
    (fun t4 =>
      some (t4, ()))
    (fun t0 t1 =>
      bif (!t1) then
        bif (t0 == (95 : Int)) then
          some (true, ())
        else
          bif decide (t0 ≥ (48 : Int)) then
            some (decide (t0 ≤ (57 : Int)), ())
          else
            some (false, ())
      else
        some (false, ()))
    N p0 p1 (97 : Int)
theorem loops41 (N : Nat) : loopsOk C41 (L41 N) Go.Proofs.Tryd.f41 := ⟨trivial, ⟨⟨trivial, ⟨loopOk_of H41_2 N (fun K n v => W41_2 N (fun t4 => K .ret (encH [(8, .bo)] (t4, ()))) (fun t0 t1 => K (.exit 0) (encH [(0, (.i .u8)), (2, .bo)] (t0, (t1, ())))) n v.1 v.2.1 v.2.2.1) (by kernel_rfl) (fun K v => by kernel_rfl) (fun K v => by kernel_rfl) (fun K n v => by kernel_rfl), ⟨⟨trivial, ⟨trivial, trivial⟩⟩, ⟨⟨trivial, ⟨⟨trivial, trivial⟩, trivial⟩⟩, trivial⟩⟩⟩⟩, ⟨trivial, trivial⟩⟩⟩
theorem runs41 (N : Nat) (x : S41.ta.den) : run C41 S41 (L41 N) Go.Proofs.Tryd.f41 x = F41 N x.1 x.2.1 := by kernel_rfl

/-! ### 33: incognito/incognitoref09.Takes -/
def L33 (_ : Nat) : Loops (Bool × Unit) := fun _ _ _ => none
def F33 (N : Nat) (p0 : Int) (p1 : Int × Int × ByteArray × Unit) : Option (Bool × Unit) :=
  bif decide (p0 ≥ (0 : Int)) then
    bif decide (p0 ≤ (4 : Int)) then
      bif (Go.Inc.okV p1) then
        some ((Go.Inc.name p1), ())
      else
        none
    else
      bif (p0 == (5 : Int)) then
        bif (Go.Inc.okV p1) then
          bif (Go.Inc.right p1) then
            bif (p1.1 == (1 : Int)) then
              some (true, ())
            else
              bif (p0 == (6 : Int)) then
              bif (Go.Inc.okV p1) then
              bif (Go.Inc.right p1) then
              some ((p1.1 == (3 : Int)), ())
            else
              some (false, ())
            else
              none
            else
              some (false, ())
          else
            bif (p0 == (6 : Int)) then
              bif (Go.Inc.okV p1) then
              bif (Go.Inc.right p1) then
              some ((p1.1 == (3 : Int)), ())
            else
              some (false, ())
            else
              none
            else
              some (false, ())
        else
          none
      else
        bif (p0 == (6 : Int)) then
          bif (Go.Inc.okV p1) then
            bif (Go.Inc.right p1) then
              some ((p1.1 == (3 : Int)), ())
            else
              some (false, ())
          else
            none
        else
          some (false, ())
  else
    bif (p0 == (5 : Int)) then
      bif (Go.Inc.okV p1) then
        bif (Go.Inc.right p1) then
          bif (p1.1 == (1 : Int)) then
            some (true, ())
          else
            bif (p0 == (6 : Int)) then
              bif (Go.Inc.okV p1) then
              bif (Go.Inc.right p1) then
              some ((p1.1 == (3 : Int)), ())
            else
              some (false, ())
            else
              none
            else
              some (false, ())
        else
          bif (p0 == (6 : Int)) then
            bif (Go.Inc.okV p1) then
              bif (Go.Inc.right p1) then
              some ((p1.1 == (3 : Int)), ())
            else
              some (false, ())
            else
              none
          else
            some (false, ())
      else
        none
    else
      bif (p0 == (6 : Int)) then
        bif (Go.Inc.okV p1) then
          bif (Go.Inc.right p1) then
            some ((p1.1 == (3 : Int)), ())
          else
            some (false, ())
        else
          none
      else
        some (false, ())
theorem loops33 (N : Nat) : loopsOk C33 (L33 N) Go.Proofs.Tryd.f33 := ⟨trivial, ⟨⟨trivial, ⟨⟨trivial, trivial⟩, trivial⟩⟩, ⟨trivial, trivial⟩⟩⟩
theorem runs33 (N : Nat) (x : S33.ta.den) : run C33 S33 (L33 N) Go.Proofs.Tryd.f33 x = F33 N x.1 x.2.1 := by kernel_rfl

/-! ### 13: incognito/incognitolaw15.may -/
def L13 (_ : Nat) : Loops (Bool × Unit) := fun _ _ _ => none
def F13 (N : Nat) (p0 : Int) (p1 : (Int × Int × ByteArray × Unit) × Int × (List (Int × Int × ByteArray × Unit)) × Unit) : Option (Bool × Unit) :=
  bif (Go.Inc.okV p1.1) then
    bif (Go.Inc.name p1.1) then
      bif (Go.Inc.okF p0 p1.2.1 p1.2.2.1) then
        some ((Go.Inc.fits p0 p1.2.1 p1.2.2.1), ())
      else
        none
    else
      some (false, ())
  else
    none
theorem loops13 (N : Nat) : loopsOk C13 (L13 N) Go.Proofs.Tryd.f13 := ⟨trivial, ⟨trivial, trivial⟩⟩
theorem runs13 (N : Nat) (x : S13.ta.den) : run C13 S13 (L13 N) Go.Proofs.Tryd.f13 x = F13 N x.1 x.2.1 := by kernel_rfl

/-! ### 15: incognito/incognitoref15.Out -/
def L15 (_ : Nat) : Loops ((List (Int × Int × ByteArray × Unit)) × Unit) := fun _ _ _ => none
def F15 (N : Nat) (p0 : Int) (p1 : List ((Int × Int × ByteArray × Unit) × Int × (List (Int × Int × ByteArray × Unit)) × Unit)) (p2 : (Int × Int × ByteArray × Unit) × Int × (List (Int × Int × ByteArray × Unit)) × Unit) : Option ((List (Int × Int × ByteArray × Unit)) × Unit) :=
  bif (p2.2.1 != (10 : Int)) then
    some (([] : List (Int × (Int × (ByteArray × Unit)))), ())
  else
    bif (Go.Inc.okPast p0 p1) then
      bif ((((List.length (Go.Inc.queueLeft p0 p1)) : Nat) : Int) == (0 : Int)) then
        some ((((0 : Int), ((0 : Int), (ByteArray.empty, ()))) :: ([] : List (Int × (Int × (ByteArray × Unit))))), ())
      else
        bif (p0 == (6 : Int)) then
          bif ((decide ((0 : Int) ≤ (Go.IntKind.wrap .i64 ((((List.length (Go.Inc.queueLeft p0 p1)) : Nat) : Int) - (1 : Int))))) && (decide ((Go.IntKind.wrap .i64 ((((List.length (Go.Inc.queueLeft p0 p1)) : Nat) : Int) - (1 : Int))) < (((List.length (Go.Inc.queueLeft p0 p1)) : Nat) : Int)))) then
            some (((List.getD (Go.Inc.queueLeft p0 p1) (Int.toNat (Go.IntKind.wrap .i64 ((((List.length (Go.Inc.queueLeft p0 p1)) : Nat) : Int) - (1 : Int)))) ((0 : Int), ((0 : Int), (ByteArray.empty, ())))) :: ([] : List (Int × (Int × (ByteArray × Unit))))), ())
          else
            none
        else
          bif ((decide ((0 : Int) ≤ (0 : Int))) && (decide ((0 : Int) < (((List.length (Go.Inc.queueLeft p0 p1)) : Nat) : Int)))) then
            some (((List.getD (Go.Inc.queueLeft p0 p1) (Int.toNat (0 : Int)) ((0 : Int), ((0 : Int), (ByteArray.empty, ())))) :: ([] : List (Int × (Int × (ByteArray × Unit))))), ())
          else
            none
    else
      none
theorem loops15 (N : Nat) : loopsOk C15 (L15 N) Go.Proofs.Tryd.f15 := ⟨trivial, ⟨⟨trivial, ⟨⟨trivial, trivial⟩, trivial⟩⟩, ⟨trivial, ⟨⟨trivial, ⟨⟨trivial, trivial⟩, trivial⟩⟩, ⟨⟨trivial, ⟨⟨trivial, trivial⟩, trivial⟩⟩, ⟨trivial, trivial⟩⟩⟩⟩⟩⟩
theorem runs15 (N : Nat) (x : S15.ta.den) : run C15 S15 (L15 N) Go.Proofs.Tryd.f15 x = F15 N x.1 x.2.1 x.2.2.1 := by kernel_rfl

/-! ### 4: incognito/incognitolaw15.QueueAll -/
def W4_8 {β : Type} (N : Nat) (x0 : Bool → Option β) (x1 : (List (Int × Int × ByteArray × Unit)) → Int → Int → Int → ByteArray → Int → (List (Int × Int × ByteArray × Unit)) → Int → Int → Int → ByteArray → Int → (List (Int × Int × ByteArray × Unit)) → Option β) : Nat → (List (Int × Int × ByteArray × Unit)) → Int → Int → Int → ByteArray → Int → (List (Int × Int × ByteArray × Unit)) → Int → Int → Int → ByteArray → Int → (List (Int × Int × ByteArray × Unit)) → (List (Int × Int × ByteArray × Unit)) → Int → Int → Option β
  | 0, _, _, _, _, _, _, _, _, _, _, _, _, _, _, _, _ => none
  | n + 1, t0, b3a, b3ba, b3bba, b3bbba, b3bbbba, b3bbbbba, b5a, b5ba, b5bba, b5bbba, b5bbbba, b5bbbbba, t31, t32, t33 =>
  bif decide (t33 < t32) then
    bif ((decide ((0 : Int) ≤ t33)) && (decide (t33 < (((List.length t31) : Nat) : Int)))) then
      bif decide ((((ByteArray.size ((((List.getD t31 (Int.toNat t33) ((0 : Int), ((0 : Int), (ByteArray.empty, ())))).2).2).1)) : Nat) : Int) > (100 : Int)) then
        x0 true
      else
        bif (Go.Inc.okV (List.getD t31 (Int.toNat t33) ((0 : Int), ((0 : Int), (ByteArray.empty, ()))))) then
          bif (!(Go.Inc.name (List.getD t31 (Int.toNat t33) ((0 : Int), ((0 : Int), (ByteArray.empty, ())))))) then
            x0 true
          else
            bif (Go.Inc.okQStep (b3a, ((b3ba, (b3bba, (b3bbba, ()))), (b3bbbba, (b3bbbbba, ())))) (Go.Inc.num' (1 : Int)) (9 : Int) ((List.getD t31 (Int.toNat t33) ((0 : Int), ((0 : Int), (ByteArray.empty, ())))) :: ([] : List (Int × (Int × (ByteArray × Unit)))))) then
              bif (Go.Inc.okQStep (b5a, ((b5ba, (b5bba, (b5bbba, ()))), (b5bbbba, (b5bbbbba, ())))) (Go.Inc.num' (1 : Int)) (9 : Int) ((List.getD t31 (Int.toNat t33) ((0 : Int), ((0 : Int), (ByteArray.empty, ())))) :: ([] : List (Int × (Int × (ByteArray × Unit)))))) then
              W4_8 N x0 x1 n t0 (((Go.Inc.queueStep (b3a, ((b3ba, (b3bba, (b3bbba, ()))), (b3bbbba, (b3bbbbba, ())))) (Go.Inc.num' (1 : Int)) (9 : Int) ((List.getD t31 (Int.toNat t33) ((0 : Int), ((0 : Int), (ByteArray.empty, ())))) :: ([] : List (Int × (Int × (ByteArray × Unit)))))).1).1) (((((Go.Inc.queueStep (b3a, ((b3ba, (b3bba, (b3bbba, ()))), (b3bbbba, (b3bbbbba, ())))) (Go.Inc.num' (1 : Int)) (9 : Int) ((List.getD t31 (Int.toNat t33) ((0 : Int), ((0 : Int), (ByteArray.empty, ())))) :: ([] : List (Int × (Int × (ByteArray × Unit)))))).1).2).1).1) ((((((Go.Inc.queueStep (b3a, ((b3ba, (b3bba, (b3bbba, ()))), (b3bbbba, (b3bbbbba, ())))) (Go.Inc.num' (1 : Int)) (9 : Int) ((List.getD t31 (Int.toNat t33) ((0 : Int), ((0 : Int), (ByteArray.empty, ())))) :: ([] : List (Int × (Int × (ByteArray × Unit)))))).1).2).1).2).1) (((((((Go.Inc.queueStep (b3a, ((b3ba, (b3bba, (b3bbba, ()))), (b3bbbba, (b3bbbbba, ())))) (Go.Inc.num' (1 : Int)) (9 : Int) ((List.getD t31 (Int.toNat t33) ((0 : Int), ((0 : Int), (ByteArray.empty, ())))) :: ([] : List (Int × (Int × (ByteArray × Unit)))))).1).2).1).2).2).1) (((((Go.Inc.queueStep (b3a, ((b3ba, (b3bba, (b3bbba, ()))), (b3bbbba, (b3bbbbba, ())))) (Go.Inc.num' (1 : Int)) (9 : Int) ((List.getD t31 (Int.toNat t33) ((0 : Int), ((0 : Int), (ByteArray.empty, ())))) :: ([] : List (Int × (Int × (ByteArray × Unit)))))).1).2).2).1) ((((((Go.Inc.queueStep (b3a, ((b3ba, (b3bba, (b3bbba, ()))), (b3bbbba, (b3bbbbba, ())))) (Go.Inc.num' (1 : Int)) (9 : Int) ((List.getD t31 (Int.toNat t33) ((0 : Int), ((0 : Int), (ByteArray.empty, ())))) :: ([] : List (Int × (Int × (ByteArray × Unit)))))).1).2).2).2).1) (((Go.Inc.queueStep (b5a, ((b5ba, (b5bba, (b5bbba, ()))), (b5bbbba, (b5bbbbba, ())))) (Go.Inc.num' (1 : Int)) (9 : Int) ((List.getD t31 (Int.toNat t33) ((0 : Int), ((0 : Int), (ByteArray.empty, ())))) :: ([] : List (Int × (Int × (ByteArray × Unit)))))).1).1) (((((Go.Inc.queueStep (b5a, ((b5ba, (b5bba, (b5bbba, ()))), (b5bbbba, (b5bbbbba, ())))) (Go.Inc.num' (1 : Int)) (9 : Int) ((List.getD t31 (Int.toNat t33) ((0 : Int), ((0 : Int), (ByteArray.empty, ())))) :: ([] : List (Int × (Int × (ByteArray × Unit)))))).1).2).1).1) ((((((Go.Inc.queueStep (b5a, ((b5ba, (b5bba, (b5bbba, ()))), (b5bbbba, (b5bbbbba, ())))) (Go.Inc.num' (1 : Int)) (9 : Int) ((List.getD t31 (Int.toNat t33) ((0 : Int), ((0 : Int), (ByteArray.empty, ())))) :: ([] : List (Int × (Int × (ByteArray × Unit)))))).1).2).1).2).1) (((((((Go.Inc.queueStep (b5a, ((b5ba, (b5bba, (b5bbba, ()))), (b5bbbba, (b5bbbbba, ())))) (Go.Inc.num' (1 : Int)) (9 : Int) ((List.getD t31 (Int.toNat t33) ((0 : Int), ((0 : Int), (ByteArray.empty, ())))) :: ([] : List (Int × (Int × (ByteArray × Unit)))))).1).2).1).2).2).1) (((((Go.Inc.queueStep (b5a, ((b5ba, (b5bba, (b5bbba, ()))), (b5bbbba, (b5bbbbba, ())))) (Go.Inc.num' (1 : Int)) (9 : Int) ((List.getD t31 (Int.toNat t33) ((0 : Int), ((0 : Int), (ByteArray.empty, ())))) :: ([] : List (Int × (Int × (ByteArray × Unit)))))).1).2).2).1) ((((((Go.Inc.queueStep (b5a, ((b5ba, (b5bba, (b5bbba, ()))), (b5bbbba, (b5bbbbba, ())))) (Go.Inc.num' (1 : Int)) (9 : Int) ((List.getD t31 (Int.toNat t33) ((0 : Int), ((0 : Int), (ByteArray.empty, ())))) :: ([] : List (Int × (Int × (ByteArray × Unit)))))).1).2).2).2).1) t31 t32 (Go.IntKind.wrap .i64 (t33 + (1 : Int)))
            else
              none
            else
              none
        else
          none
    else
      none
  else
    x1 t0 b3a b3ba b3bba b3bbba b3bbbba b3bbbbba b5a b5ba b5bba b5bbba b5bbbba b5bbbbba
def W4_16 {β : Type} (N : Nat) (x0 : Bool → Option β) (x3 : Int → Int → Int → ByteArray → Int → (List (Int × Int × ByteArray × Unit)) → Int → Int → Int → ByteArray → Int → (List (Int × Int × ByteArray × Unit)) → Option β) : Nat → (List (Int × Int × ByteArray × Unit)) → Int → Int → Int → ByteArray → Int → (List (Int × Int × ByteArray × Unit)) → Int → Int → Int → ByteArray → Int → (List (Int × Int × ByteArray × Unit)) → Int → Int → Option β
  | 0, _, _, _, _, _, _, _, _, _, _, _, _, _, _, _ => none
  | n + 1, t0, b3a, b3ba, b3bba, b3bbba, b3bbbba, b3bbbbba, b5a, b5ba, b5bba, b5bbba, b5bbbba, b5bbbbba, t67, t68 =>
  bif decide (t68 < t67) then
    bif decide (t68 < (((List.length t0) : Nat) : Int)) then
      bif ((decide ((0 : Int) ≤ t68)) && (decide (t68 < (((List.length t0) : Nat) : Int)))) then
        bif ((decide ((0 : Int) ≤ (Go.IntKind.wrap .i64 ((Go.IntKind.wrap .i64 ((((List.length t0) : Nat) : Int) - (1 : Int))) - t68)))) && (decide ((Go.IntKind.wrap .i64 ((Go.IntKind.wrap .i64 ((((List.length t0) : Nat) : Int) - (1 : Int))) - t68)) < (((List.length t0) : Nat) : Int)))) then
          bif (Go.Inc.okQStep (b3a, ((b3ba, (b3bba, (b3bbba, ()))), (b3bbbba, (b3bbbbba, ())))) (Go.Inc.num' (1 : Int)) (10 : Int) ([] : List (Int × (Int × (ByteArray × Unit))))) then
            bif (Go.Inc.okQStep (b5a, ((b5ba, (b5bba, (b5bbba, ()))), (b5bbbba, (b5bbbbba, ())))) (Go.Inc.num' (1 : Int)) (10 : Int) ([] : List (Int × (Int × (ByteArray × Unit))))) then
              bif (!((((Go.Inc.queueStep (b3a, ((b3ba, (b3bba, (b3bbba, ()))), (b3bbbba, (b3bbbbba, ())))) (Go.Inc.num' (1 : Int)) (10 : Int) ([] : List (Int × (Int × (ByteArray × Unit))))).2).2).1)) then
              x0 false
            else
              bif (!((((Go.Inc.queueStep (b5a, ((b5ba, (b5bba, (b5bbba, ()))), (b5bbbba, (b5bbbbba, ())))) (Go.Inc.num' (1 : Int)) (10 : Int) ([] : List (Int × (Int × (ByteArray × Unit))))).2).2).1)) then
              x0 false
            else
              bif (Go.Inc.okSame2 (((Go.Inc.queueStep (b3a, ((b3ba, (b3bba, (b3bbba, ()))), (b3bbbba, (b3bbbbba, ())))) (Go.Inc.num' (1 : Int)) (10 : Int) ([] : List (Int × (Int × (ByteArray × Unit))))).2).1) ((List.getD t0 (Int.toNat t68) ((0 : Int), ((0 : Int), (ByteArray.empty, ())))) :: ([] : List (Int × (Int × (ByteArray × Unit)))))) then
              bif (!(Go.Inc.sameV (((Go.Inc.queueStep (b3a, ((b3ba, (b3bba, (b3bbba, ()))), (b3bbbba, (b3bbbbba, ())))) (Go.Inc.num' (1 : Int)) (10 : Int) ([] : List (Int × (Int × (ByteArray × Unit))))).2).1) ((List.getD t0 (Int.toNat t68) ((0 : Int), ((0 : Int), (ByteArray.empty, ())))) :: ([] : List (Int × (Int × (ByteArray × Unit))))))) then
              x0 false
            else
              bif (Go.Inc.okSame2 (((Go.Inc.queueStep (b5a, ((b5ba, (b5bba, (b5bbba, ()))), (b5bbbba, (b5bbbbba, ())))) (Go.Inc.num' (1 : Int)) (10 : Int) ([] : List (Int × (Int × (ByteArray × Unit))))).2).1) ((List.getD t0 (Int.toNat (Go.IntKind.wrap .i64 ((Go.IntKind.wrap .i64 ((((List.length t0) : Nat) : Int) - (1 : Int))) - t68))) ((0 : Int), ((0 : Int), (ByteArray.empty, ())))) :: ([] : List (Int × (Int × (ByteArray × Unit)))))) then
              bif (!(Go.Inc.sameV (((Go.Inc.queueStep (b5a, ((b5ba, (b5bba, (b5bbba, ()))), (b5bbbba, (b5bbbbba, ())))) (Go.Inc.num' (1 : Int)) (10 : Int) ([] : List (Int × (Int × (ByteArray × Unit))))).2).1) ((List.getD t0 (Int.toNat (Go.IntKind.wrap .i64 ((Go.IntKind.wrap .i64 ((((List.length t0) : Nat) : Int) - (1 : Int))) - t68))) ((0 : Int), ((0 : Int), (ByteArray.empty, ())))) :: ([] : List (Int × (Int × (ByteArray × Unit))))))) then
              x0 false
            else
              W4_16 N x0 x3 n t0 (((Go.Inc.queueStep (b3a, ((b3ba, (b3bba, (b3bbba, ()))), (b3bbbba, (b3bbbbba, ())))) (Go.Inc.num' (1 : Int)) (10 : Int) ([] : List (Int × (Int × (ByteArray × Unit))))).1).1) (((((Go.Inc.queueStep (b3a, ((b3ba, (b3bba, (b3bbba, ()))), (b3bbbba, (b3bbbbba, ())))) (Go.Inc.num' (1 : Int)) (10 : Int) ([] : List (Int × (Int × (ByteArray × Unit))))).1).2).1).1) ((((((Go.Inc.queueStep (b3a, ((b3ba, (b3bba, (b3bbba, ()))), (b3bbbba, (b3bbbbba, ())))) (Go.Inc.num' (1 : Int)) (10 : Int) ([] : List (Int × (Int × (ByteArray × Unit))))).1).2).1).2).1) (((((((Go.Inc.queueStep (b3a, ((b3ba, (b3bba, (b3bbba, ()))), (b3bbbba, (b3bbbbba, ())))) (Go.Inc.num' (1 : Int)) (10 : Int) ([] : List (Int × (Int × (ByteArray × Unit))))).1).2).1).2).2).1) (((((Go.Inc.queueStep (b3a, ((b3ba, (b3bba, (b3bbba, ()))), (b3bbbba, (b3bbbbba, ())))) (Go.Inc.num' (1 : Int)) (10 : Int) ([] : List (Int × (Int × (ByteArray × Unit))))).1).2).2).1) ((((((Go.Inc.queueStep (b3a, ((b3ba, (b3bba, (b3bbba, ()))), (b3bbbba, (b3bbbbba, ())))) (Go.Inc.num' (1 : Int)) (10 : Int) ([] : List (Int × (Int × (ByteArray × Unit))))).1).2).2).2).1) (((Go.Inc.queueStep (b5a, ((b5ba, (b5bba, (b5bbba, ()))), (b5bbbba, (b5bbbbba, ())))) (Go.Inc.num' (1 : Int)) (10 : Int) ([] : List (Int × (Int × (ByteArray × Unit))))).1).1) (((((Go.Inc.queueStep (b5a, ((b5ba, (b5bba, (b5bbba, ()))), (b5bbbba, (b5bbbbba, ())))) (Go.Inc.num' (1 : Int)) (10 : Int) ([] : List (Int × (Int × (ByteArray × Unit))))).1).2).1).1) ((((((Go.Inc.queueStep (b5a, ((b5ba, (b5bba, (b5bbba, ()))), (b5bbbba, (b5bbbbba, ())))) (Go.Inc.num' (1 : Int)) (10 : Int) ([] : List (Int × (Int × (ByteArray × Unit))))).1).2).1).2).1) (((((((Go.Inc.queueStep (b5a, ((b5ba, (b5bba, (b5bbba, ()))), (b5bbbba, (b5bbbbba, ())))) (Go.Inc.num' (1 : Int)) (10 : Int) ([] : List (Int × (Int × (ByteArray × Unit))))).1).2).1).2).2).1) (((((Go.Inc.queueStep (b5a, ((b5ba, (b5bba, (b5bbba, ()))), (b5bbbba, (b5bbbbba, ())))) (Go.Inc.num' (1 : Int)) (10 : Int) ([] : List (Int × (Int × (ByteArray × Unit))))).1).2).2).1) ((((((Go.Inc.queueStep (b5a, ((b5ba, (b5bba, (b5bbba, ()))), (b5bbbba, (b5bbbbba, ())))) (Go.Inc.num' (1 : Int)) (10 : Int) ([] : List (Int × (Int × (ByteArray × Unit))))).1).2).2).2).1) t67 (Go.IntKind.wrap .i64 (t68 + (1 : Int)))
            else
              none
            else
              none
            else
              none
          else
            none
        else
          none
      else
        none
    else
      bif (Go.Inc.okQStep (b3a, ((b3ba, (b3bba, (b3bbba, ()))), (b3bbbba, (b3bbbbba, ())))) (Go.Inc.num' (1 : Int)) (10 : Int) ([] : List (Int × (Int × (ByteArray × Unit))))) then
        bif (Go.Inc.okQStep (b5a, ((b5ba, (b5bba, (b5bbba, ()))), (b5bbbba, (b5bbbbba, ())))) (Go.Inc.num' (1 : Int)) (10 : Int) ([] : List (Int × (Int × (ByteArray × Unit))))) then
          bif (!((((Go.Inc.queueStep (b3a, ((b3ba, (b3bba, (b3bbba, ()))), (b3bbbba, (b3bbbbba, ())))) (Go.Inc.num' (1 : Int)) (10 : Int) ([] : List (Int × (Int × (ByteArray × Unit))))).2).2).1)) then
            x0 false
          else
            bif (!((((Go.Inc.queueStep (b5a, ((b5ba, (b5bba, (b5bbba, ()))), (b5bbbba, (b5bbbbba, ())))) (Go.Inc.num' (1 : Int)) (10 : Int) ([] : List (Int × (Int × (ByteArray × Unit))))).2).2).1)) then
              x0 false
            else
              bif (Go.Inc.okSame2 (((Go.Inc.queueStep (b3a, ((b3ba, (b3bba, (b3bbba, ()))), (b3bbbba, (b3bbbbba, ())))) (Go.Inc.num' (1 : Int)) (10 : Int) ([] : List (Int × (Int × (ByteArray × Unit))))).2).1) (((0 : Int), ((0 : Int), (ByteArray.empty, ()))) :: ([] : List (Int × (Int × (ByteArray × Unit)))))) then
              bif (!(Go.Inc.sameV (((Go.Inc.queueStep (b3a, ((b3ba, (b3bba, (b3bbba, ()))), (b3bbbba, (b3bbbbba, ())))) (Go.Inc.num' (1 : Int)) (10 : Int) ([] : List (Int × (Int × (ByteArray × Unit))))).2).1) (((0 : Int), ((0 : Int), (ByteArray.empty, ()))) :: ([] : List (Int × (Int × (ByteArray × Unit))))))) then
              x0 false
            else
              bif (Go.Inc.okSame2 (((Go.Inc.queueStep (b5a, ((b5ba, (b5bba, (b5bbba, ()))), (b5bbbba, (b5bbbbba, ())))) (Go.Inc.num' (1 : Int)) (10 : Int) ([] : List (Int × (Int × (ByteArray × Unit))))).2).1) (((0 : Int), ((0 : Int), (ByteArray.empty, ()))) :: ([] : List (Int × (Int × (ByteArray × Unit)))))) then
              bif (!(Go.Inc.sameV (((Go.Inc.queueStep (b5a, ((b5ba, (b5bba, (b5bbba, ()))), (b5bbbba, (b5bbbbba, ())))) (Go.Inc.num' (1 : Int)) (10 : Int) ([] : List (Int × (Int × (ByteArray × Unit))))).2).1) (((0 : Int), ((0 : Int), (ByteArray.empty, ()))) :: ([] : List (Int × (Int × (ByteArray × Unit))))))) then
              x0 false
            else
              W4_16 N x0 x3 n t0 (((Go.Inc.queueStep (b3a, ((b3ba, (b3bba, (b3bbba, ()))), (b3bbbba, (b3bbbbba, ())))) (Go.Inc.num' (1 : Int)) (10 : Int) ([] : List (Int × (Int × (ByteArray × Unit))))).1).1) (((((Go.Inc.queueStep (b3a, ((b3ba, (b3bba, (b3bbba, ()))), (b3bbbba, (b3bbbbba, ())))) (Go.Inc.num' (1 : Int)) (10 : Int) ([] : List (Int × (Int × (ByteArray × Unit))))).1).2).1).1) ((((((Go.Inc.queueStep (b3a, ((b3ba, (b3bba, (b3bbba, ()))), (b3bbbba, (b3bbbbba, ())))) (Go.Inc.num' (1 : Int)) (10 : Int) ([] : List (Int × (Int × (ByteArray × Unit))))).1).2).1).2).1) (((((((Go.Inc.queueStep (b3a, ((b3ba, (b3bba, (b3bbba, ()))), (b3bbbba, (b3bbbbba, ())))) (Go.Inc.num' (1 : Int)) (10 : Int) ([] : List (Int × (Int × (ByteArray × Unit))))).1).2).1).2).2).1) (((((Go.Inc.queueStep (b3a, ((b3ba, (b3bba, (b3bbba, ()))), (b3bbbba, (b3bbbbba, ())))) (Go.Inc.num' (1 : Int)) (10 : Int) ([] : List (Int × (Int × (ByteArray × Unit))))).1).2).2).1) ((((((Go.Inc.queueStep (b3a, ((b3ba, (b3bba, (b3bbba, ()))), (b3bbbba, (b3bbbbba, ())))) (Go.Inc.num' (1 : Int)) (10 : Int) ([] : List (Int × (Int × (ByteArray × Unit))))).1).2).2).2).1) (((Go.Inc.queueStep (b5a, ((b5ba, (b5bba, (b5bbba, ()))), (b5bbbba, (b5bbbbba, ())))) (Go.Inc.num' (1 : Int)) (10 : Int) ([] : List (Int × (Int × (ByteArray × Unit))))).1).1) (((((Go.Inc.queueStep (b5a, ((b5ba, (b5bba, (b5bbba, ()))), (b5bbbba, (b5bbbbba, ())))) (Go.Inc.num' (1 : Int)) (10 : Int) ([] : List (Int × (Int × (ByteArray × Unit))))).1).2).1).1) ((((((Go.Inc.queueStep (b5a, ((b5ba, (b5bba, (b5bbba, ()))), (b5bbbba, (b5bbbbba, ())))) (Go.Inc.num' (1 : Int)) (10 : Int) ([] : List (Int × (Int × (ByteArray × Unit))))).1).2).1).2).1) (((((((Go.Inc.queueStep (b5a, ((b5ba, (b5bba, (b5bbba, ()))), (b5bbbba, (b5bbbbba, ())))) (Go.Inc.num' (1 : Int)) (10 : Int) ([] : List (Int × (Int × (ByteArray × Unit))))).1).2).1).2).2).1) (((((Go.Inc.queueStep (b5a, ((b5ba, (b5bba, (b5bbba, ()))), (b5bbbba, (b5bbbbba, ())))) (Go.Inc.num' (1 : Int)) (10 : Int) ([] : List (Int × (Int × (ByteArray × Unit))))).1).2).2).1) ((((((Go.Inc.queueStep (b5a, ((b5ba, (b5bba, (b5bbba, ()))), (b5bbbba, (b5bbbbba, ())))) (Go.Inc.num' (1 : Int)) (10 : Int) ([] : List (Int × (Int × (ByteArray × Unit))))).1).2).2).2).1) t67 (Go.IntKind.wrap .i64 (t68 + (1 : Int)))
            else
              none
            else
              none
        else
          none
      else
        none
  else
    x3 b3a b3ba b3bba b3bbba b3bbbba b3bbbbba b5a b5ba b5bba b5bbba b5bbbba b5bbbbba
def L4 (N : Nat) : Loops (Bool × Unit) := fun k ρ K => match Nat.beq k 8 with
  | true => (match adH ρ H4_8.hd with
    | some v => W4_8 N (fun t2 => K .ret (encH [(4, .bo)] (t2, ()))) (fun t0 b3a b3ba b3bba b3bbba b3bbbba b3bbbbba b5a b5ba b5bba b5bbba b5bbbba b5bbbbba => K (.exit 0) (encH [(0, (.sl (.pr (.int .i64) (.pr (.int .i64) (.pr .str .un))) .no)), (6, (.bx 3 0)), (7, (.pr (.i .i64) (.pr (.i .i64) (.pr (.i .i64) (.pr .st (.pr (.i .i64) (.pr (.sl (.pr (.int .i64) (.pr (.int .i64) (.pr .str .un))) .no) .un))))))), (10, (.bx 5 0)), (11, (.pr (.i .i64) (.pr (.i .i64) (.pr (.i .i64) (.pr .st (.pr (.i .i64) (.pr (.sl (.pr (.int .i64) (.pr (.int .i64) (.pr .str .un))) .no) .un)))))))] (t0, ((), ((b3a, (b3ba, (b3bba, (b3bbba, (b3bbbba, (b3bbbbba, ())))))), ((), ((b5a, (b5ba, (b5bba, (b5bbba, (b5bbbba, (b5bbbbba, ())))))), ()))))))) N v.1 v.2.2.1.1 v.2.2.1.2.1 v.2.2.1.2.2.1 v.2.2.1.2.2.2.1 v.2.2.1.2.2.2.2.1 v.2.2.1.2.2.2.2.2.1 v.2.2.2.2.1.1 v.2.2.2.2.1.2.1 v.2.2.2.2.1.2.2.1 v.2.2.2.2.1.2.2.2.1 v.2.2.2.2.1.2.2.2.2.1 v.2.2.2.2.1.2.2.2.2.2.1 v.2.2.2.2.2.1 v.2.2.2.2.2.2.1 v.2.2.2.2.2.2.2.1
    | none => none)
  | false => match Nat.beq k 16 with
  | true => (match adH ρ H4_16.hd with
    | some v => W4_16 N (fun t2 => K .ret (encH [(4, .bo)] (t2, ()))) (fun b3a b3ba b3bba b3bbba b3bbbba b3bbbbba b5a b5ba b5bba b5bbba b5bbbba b5bbbbba => K (.exit 2) (encH [(6, (.bx 3 0)), (7, (.pr (.i .i64) (.pr (.i .i64) (.pr (.i .i64) (.pr .st (.pr (.i .i64) (.pr (.sl (.pr (.int .i64) (.pr (.int .i64) (.pr .str .un))) .no) .un))))))), (10, (.bx 5 0)), (11, (.pr (.i .i64) (.pr (.i .i64) (.pr (.i .i64) (.pr .st (.pr (.i .i64) (.pr (.sl (.pr (.int .i64) (.pr (.int .i64) (.pr .str .un))) .no) .un)))))))] ((), ((b3a, (b3ba, (b3bba, (b3bbba, (b3bbbba, (b3bbbbba, ())))))), ((), ((b5a, (b5ba, (b5bba, (b5bbba, (b5bbbba, (b5bbbbba, ())))))), ())))))) N v.1 v.2.2.1.1 v.2.2.1.2.1 v.2.2.1.2.2.1 v.2.2.1.2.2.2.1 v.2.2.1.2.2.2.2.1 v.2.2.1.2.2.2.2.2.1 v.2.2.2.2.1.1 v.2.2.2.2.1.2.1 v.2.2.2.2.1.2.2.1 v.2.2.2.2.1.2.2.2.1 v.2.2.2.2.1.2.2.2.2.1 v.2.2.2.2.1.2.2.2.2.2.1 v.2.2.2.2.2.1 v.2.2.2.2.2.2.1
    | none => none)
  | false => none
def F4 (N : Nat) (p0 : List (Int × Int × ByteArray × Unit)) : Option (Bool × Unit) :=
  bif decide ((((List.length p0) : Nat) : Int) > (40 : Int)) then
    some (true, ())
  else
    W4_8 N
      (fun t2 =>
        some (t2, ()))
      (fun t0 b3a b3ba b3bba b3bbba b3bbbba b3bbbbba b5a b5ba b5bba b5bbba b5bbbba b5bbbbba =>
        W4_16 N
          (fun t2 =>
            some (t2, ()))
          (fun b3a b3ba b3bba b3bbba b3bbbba b3bbbbba b5a b5ba b5bba b5bbba b5bbbba b5bbbbba =>
            bif ((((List.length b3bbbbba) : Nat) : Int) == (0 : Int)) then
              some (((((List.length b5bbbbba) : Nat) : Int) == (0 : Int)), ())
            else
              some (false, ()))
          N t0 b3a b3ba b3bba b3bbba b3bbbba b3bbbbba b5a b5ba b5bba b5bbba b5bbbba b5bbbbba (Go.IntKind.wrap .i64 ((((List.length t0) : Nat) : Int) + (1 : Int))) (0 : Int))
      N p0 (((Go.Inc.queueNew (5 : Int)).1).1) (((((Go.Inc.queueNew (5 : Int)).1).2).1).1) ((((((Go.Inc.queueNew (5 : Int)).1).2).1).2).1) (((((((Go.Inc.queueNew (5 : Int)).1).2).1).2).2).1) (((((Go.Inc.queueNew (5 : Int)).1).2).2).1) ((((((Go.Inc.queueNew (5 : Int)).1).2).2).2).1) (((Go.Inc.queueNew (6 : Int)).1).1) (((((Go.Inc.queueNew (6 : Int)).1).2).1).1) ((((((Go.Inc.queueNew (6 : Int)).1).2).1).2).1) (((((((Go.Inc.queueNew (6 : Int)).1).2).1).2).2).1) (((((Go.Inc.queueNew (6 : Int)).1).2).2).1) ((((((Go.Inc.queueNew (6 : Int)).1).2).2).2).1) p0 (((List.length p0) : Nat) : Int) (0 : Int)
theorem loops4 (N : Nat) : loopsOk C4 (L4 N) Go.Proofs.Tryd.f4 := ⟨trivial, ⟨⟨trivial, ⟨⟨trivial, trivial⟩, trivial⟩⟩, ⟨⟨trivial, ⟨⟨trivial, trivial⟩, trivial⟩⟩, ⟨trivial, ⟨trivial, ⟨⟨trivial, ⟨loopOk_of H4_8 N (fun K n v => W4_8 N (fun t2 => K .ret (encH [(4, .bo)] (t2, ()))) (fun t0 b3a b3ba b3bba b3bbba b3bbbba b3bbbbba b5a b5ba b5bba b5bbba b5bbbba b5bbbbba => K (.exit 0) (encH [(0, (.sl (.pr (.int .i64) (.pr (.int .i64) (.pr .str .un))) .no)), (6, (.bx 3 0)), (7, (.pr (.i .i64) (.pr (.i .i64) (.pr (.i .i64) (.pr .st (.pr (.i .i64) (.pr (.sl (.pr (.int .i64) (.pr (.int .i64) (.pr .str .un))) .no) .un))))))), (10, (.bx 5 0)), (11, (.pr (.i .i64) (.pr (.i .i64) (.pr (.i .i64) (.pr .st (.pr (.i .i64) (.pr (.sl (.pr (.int .i64) (.pr (.int .i64) (.pr .str .un))) .no) .un)))))))] (t0, ((), ((b3a, (b3ba, (b3bba, (b3bbba, (b3bbbba, (b3bbbbba, ())))))), ((), ((b5a, (b5ba, (b5bba, (b5bbba, (b5bbbba, (b5bbbbba, ())))))), ()))))))) n v.1 v.2.2.1.1 v.2.2.1.2.1 v.2.2.1.2.2.1 v.2.2.1.2.2.2.1 v.2.2.1.2.2.2.2.1 v.2.2.1.2.2.2.2.2.1 v.2.2.2.2.1.1 v.2.2.2.2.1.2.1 v.2.2.2.2.1.2.2.1 v.2.2.2.2.1.2.2.2.1 v.2.2.2.2.1.2.2.2.2.1 v.2.2.2.2.1.2.2.2.2.2.1 v.2.2.2.2.2.1 v.2.2.2.2.2.2.1 v.2.2.2.2.2.2.2.1) (by kernel_rfl) (fun K v => by kernel_rfl) (fun K v => by kernel_rfl) (fun K n v => by kernel_rfl), ⟨trivial, ⟨⟨trivial, trivial⟩, ⟨⟨trivial, ⟨⟨trivial, ⟨⟨trivial, trivial⟩, trivial⟩⟩, ⟨trivial, trivial⟩⟩⟩, trivial⟩⟩⟩⟩⟩, ⟨⟨trivial, ⟨loopOk_of H4_16 N (fun K n v => W4_16 N (fun t2 => K .ret (encH [(4, .bo)] (t2, ()))) (fun b3a b3ba b3bba b3bbba b3bbbba b3bbbbba b5a b5ba b5bba b5bbba b5bbbba b5bbbbba => K (.exit 2) (encH [(6, (.bx 3 0)), (7, (.pr (.i .i64) (.pr (.i .i64) (.pr (.i .i64) (.pr .st (.pr (.i .i64) (.pr (.sl (.pr (.int .i64) (.pr (.int .i64) (.pr .str .un))) .no) .un))))))), (10, (.bx 5 0)), (11, (.pr (.i .i64) (.pr (.i .i64) (.pr (.i .i64) (.pr .st (.pr (.i .i64) (.pr (.sl (.pr (.int .i64) (.pr (.int .i64) (.pr .str .un))) .no) .un)))))))] ((), ((b3a, (b3ba, (b3bba, (b3bbba, (b3bbbba, (b3bbbbba, ())))))), ((), ((b5a, (b5ba, (b5bba, (b5bbba, (b5bbbba, (b5bbbbba, ())))))), ())))))) n v.1 v.2.2.1.1 v.2.2.1.2.1 v.2.2.1.2.2.1 v.2.2.1.2.2.2.1 v.2.2.1.2.2.2.2.1 v.2.2.1.2.2.2.2.2.1 v.2.2.2.2.1.1 v.2.2.2.2.1.2.1 v.2.2.2.2.1.2.2.1 v.2.2.2.2.1.2.2.2.1 v.2.2.2.2.1.2.2.2.2.1 v.2.2.2.2.1.2.2.2.2.2.1 v.2.2.2.2.2.1 v.2.2.2.2.2.2.1) (by kernel_rfl) (fun K v => by kernel_rfl) (fun K v => by kernel_rfl) (fun K n v => by kernel_rfl), ⟨trivial, ⟨⟨trivial, trivial⟩, ⟨⟨trivial, ⟨trivial, ⟨⟨trivial, ⟨trivial, trivial⟩⟩, ⟨trivial, ⟨trivial, ⟨⟨trivial, ⟨⟨trivial, trivial⟩, trivial⟩⟩, trivial⟩⟩⟩⟩⟩⟩, trivial⟩⟩⟩⟩⟩, ⟨trivial, trivial⟩⟩⟩⟩⟩⟩⟩⟩
theorem runs4 (N : Nat) (x : S4.ta.den) : run C4 S4 (L4 N) Go.Proofs.Tryd.f4 x = F4 N x.1 := by kernel_rfl

/-! ### 18: incognito/incognitoref13.Copy -/
def L18 (_ : Nat) : Loops ((Int × (Int × Int × ByteArray × Unit) × Int × (List (Int × Int × ByteArray × Unit)) × Unit) × Unit) := fun _ _ _ => none
def F18 (N : Nat) (p0 : Int × (Int × Int × ByteArray × Unit) × Int × (List (Int × Int × ByteArray × Unit)) × Unit) : Option ((Int × (Int × Int × ByteArray × Unit) × Int × (List (Int × Int × ByteArray × Unit)) × Unit) × Unit) :=
  bif decide ((((List.length ([] : List (Int × (Int × (ByteArray × Unit))))) + (List.length p0.2.2.2.1)) * 32) ≤ 140737488351232) then
    some ((p0.1, (p0.2.1, (p0.2.2.1, ((([] : List (Int × (Int × (ByteArray × Unit)))) ++ p0.2.2.2.1), ())))), ())
  else
    none
theorem loops18 (N : Nat) : loopsOk C18 (L18 N) Go.Proofs.Tryd.f18 := ⟨trivial, ⟨trivial, ⟨trivial, trivial⟩⟩⟩
theorem runs18 (N : Nat) (x : S18.ta.den) : run C18 S18 (L18 N) Go.Proofs.Tryd.f18 x = F18 N x.1 := by kernel_rfl


end Go.L15
