/- The walks of package bag and its statements. Printed by a program of this session. -/
import Derived.Test.YtjhkmflnelbbmaaDoorW0
set_option linter.unusedVariables false
set_option maxRecDepth 100000
namespace Go.L14
open Go Go.Abs Go.Inc

/-! ### 7: incognito/bag.New -/
def L7 (_ : Nat) : Loops ((Int × (Int × Int × ByteArray × Unit) × Int × (List (Int × Int × ByteArray × Unit)) × Unit) × Bool × Unit) := fun _ _ _ => none
def F7 (N : Nat) (p0 : Int) : Option ((Int × (Int × Int × ByteArray × Unit) × Int × (List (Int × Int × ByteArray × Unit)) × Unit) × Bool × Unit) :=
  bif (p0 != (3 : Int)) then
    some (((0 : Int), (((0 : Int), ((0 : Int), (ByteArray.empty, ()))), ((0 : Int), (([] : List (Int × (Int × (ByteArray × Unit)))), ())))), (false, ()))
  else
    some ((p0, (((0 : Int), ((0 : Int), (ByteArray.empty, ()))), ((0 : Int), (([] : List (Int × (Int × (ByteArray × Unit)))), ())))), (true, ()))
theorem loops7 (N : Nat) : loopsOk C7 (L7 N) Go.Proofs.Tryd.f7 := ⟨trivial, ⟨⟨trivial, ⟨⟨trivial, trivial⟩, trivial⟩⟩, ⟨trivial, trivial⟩⟩⟩
theorem runs7 (N : Nat) (x : S7.ta.den) : run C7 S7 (L7 N) Go.Proofs.Tryd.f7 x = F7 N x.1 := by kernel_rfl

/-! ### 48: incognito/sign.find$1 -/
def L48 (_ : Nat) : Loops (HS.den X48.hout) := fun _ _ _ => none
def F48 (N : Nat) (t0a : Int) (t0ba : Int) (t0bba : ByteArray) (t0bbba : Int) (t0bbbba : Bool) (b1000a : Int) (b1001a : Int) : Option (HS.den X48.hout) :=
  bif (t0a == b1000a) then
    some ((t0ba == b1001a), ((b1000a, ()), ((b1001a, ()), ())))
  else
    some (false, ((b1000a, ()), ((b1001a, ()), ())))
theorem loops48 (N : Nat) : loopsOk C48 (L48 N) Go.Proofs.Tryd.f48 := ⟨trivial, ⟨trivial, trivial⟩⟩
theorem runs48 (N : Nat) (x : HS.den X48.hin) : runX C48 X48 (L48 N) Go.Proofs.Tryd.f48 x = F48 N x.1.1 x.1.2.1 x.1.2.2.1 x.1.2.2.2.1 x.1.2.2.2.2.1 x.2.2.2.1.1 x.2.2.2.2.1.1 := by kernel_rfl

/-! ### 50: incognito/sign.domain -/
def L50 (_ : Nat) : Loops (Int × Unit) := fun _ _ _ => none
def F50 (N : Nat) (p0 : Int) : Option (Int × Unit) :=
  bif (p0 == (118 : Int)) then
    some ((2 : Int), ())
  else
    bif (p0 == (102 : Int)) then
      some ((3 : Int), ())
    else
      bif (p0 == (111 : Int)) then
        some ((4 : Int), ())
      else
        some ((5 : Int), ())
theorem loops50 (N : Nat) : loopsOk C50 (L50 N) Go.Proofs.Tryd.f50 := ⟨trivial, ⟨⟨trivial, ⟨trivial, ⟨⟨trivial, trivial⟩, ⟨trivial, ⟨⟨trivial, trivial⟩, ⟨trivial, ⟨⟨trivial, trivial⟩, trivial⟩⟩⟩⟩⟩⟩⟩, ⟨trivial, trivial⟩⟩⟩
theorem runs50 (N : Nat) (x : S50.ta.den) : run C50 S50 (L50 N) Go.Proofs.Tryd.f50 x = F50 N x.1 := by kernel_rfl

/-! ### 23: incognito/sign.Fits -/
def W23_5 {β : Type} (N : Nat) (x0 : Bool → Option β) (x1 : Unit → Option β) : Nat → (List (Int × Int × ByteArray × Unit)) → (List Int) → Int → Int → Option β
  | 0, _, _, _, _ => none
  | n + 1, t2, t26, t27, t28 =>
  bif decide (t28 < t27) then
    bif ((decide ((0 : Int) ≤ t28)) && (decide (t28 < (((List.length t26) : Nat) : Int)))) then
      bif ((decide ((0 : Int) ≤ t28)) && (decide (t28 < (((List.length t2) : Nat) : Int)))) then
        bif (Go.Inc.okT (List.getD t26 (Int.toNat t28) (0 : Int)) (List.getD t2 (Int.toNat t28) ((0 : Int), ((0 : Int), (ByteArray.empty, ()))))) then
          bif (!(Go.Inc.takes (List.getD t26 (Int.toNat t28) (0 : Int)) (List.getD t2 (Int.toNat t28) ((0 : Int), ((0 : Int), (ByteArray.empty, ())))))) then
            x0 false
          else
            W23_5 N x0 x1 n t2 t26 t27 (Go.IntKind.wrap .i64 (t28 + (1 : Int)))
        else
          none
      else
        none
    else
      none
  else
    x1 ()
def L23 (N : Nat) : Loops (Bool × Unit) := fun k ρ K => match Nat.beq k 5 with
  | true => (match adH ρ H23_5.hd with
    | some v => W23_5 N (fun t6 => K .ret (encH [(12, .bo)] (t6, ()))) (fun _ => K (.exit 0) (encH [] ())) N v.1 v.2.1 v.2.2.1 v.2.2.2.1
    | none => none)
  | false => none
def F23 (N : Nat) (p0 : Int) (p1 : Int) (p2 : List (Int × Int × ByteArray × Unit)) : Option (Bool × Unit) :=
  bif (!(((Go.Inc.argsGo p0 p1).2).1)) then
    some (false, ())
  else
    bif ((((List.length ((Go.Inc.argsGo p0 p1).1)) : Nat) : Int) != (((List.length p2) : Nat) : Int)) then
      some (false, ())
    else
      W23_5 N
        (fun t6 =>
          some (t6, ()))
        (fun (_ : Unit) =>
          some (true, ()))
        N p2 ((Go.Inc.argsGo p0 p1).1) (((List.length ((Go.Inc.argsGo p0 p1).1)) : Nat) : Int) (0 : Int)
theorem loops23 (N : Nat) : loopsOk C23 (L23 N) Go.Proofs.Tryd.f23 := ⟨trivial, ⟨trivial, ⟨⟨trivial, ⟨⟨trivial, trivial⟩, trivial⟩⟩, ⟨⟨trivial, ⟨loopOk_of H23_5 N (fun K n v => W23_5 N (fun t6 => K .ret (encH [(12, .bo)] (t6, ()))) (fun _ => K (.exit 0) (encH [] ())) n v.1 v.2.1 v.2.2.1 v.2.2.2.1) (by kernel_rfl) (fun K v => by kernel_rfl) (fun K v => by kernel_rfl) (fun K n v => by kernel_rfl), ⟨trivial, ⟨⟨trivial, trivial⟩, ⟨⟨trivial, ⟨trivial, ⟨⟨trivial, trivial⟩, trivial⟩⟩⟩, trivial⟩⟩⟩⟩⟩, ⟨trivial, trivial⟩⟩⟩⟩⟩
theorem runs23 (N : Nat) (x : S23.ta.den) : run C23 S23 (L23 N) Go.Proofs.Tryd.f23 x = F23 N x.1 x.2.1 x.2.2.1 := by kernel_rfl

/-! ### 38: cmp.Or[int] -/
def W38_3 {β : Type} (N : Nat) (x0 : Int → Option β) (x1 : Int → Option β) : Nat → Int → (List Int) → Int → Int → Option β
  | 0, _, _, _, _ => none
  | n + 1, t3, t6, t7, t8 =>
  bif decide (t8 < t7) then
    bif ((decide ((0 : Int) ≤ t8)) && (decide (t8 < (((List.length t6) : Nat) : Int)))) then
      bif ((List.getD t6 (Int.toNat t8) (0 : Int)) != t3) then
        x0 (List.getD t6 (Int.toNat t8) (0 : Int))
      else
        W38_3 N x0 x1 n t3 t6 t7 (Go.IntKind.wrap .i64 (t8 + (1 : Int)))
    else
      none
  else
    x1 t3
def L38 (N : Nat) : Loops (Int × Unit) := fun k ρ K => match Nat.beq k 3 with
  | true => (match adH ρ H38_3.hd with
    | some v => W38_3 N (fun t2 => K .ret (encH [(4, (.i .i64))] (t2, ()))) (fun t3 => K (.exit 0) (encH [(6, (.i .i64))] (t3, ()))) N v.1 v.2.1 v.2.2.1 v.2.2.2.1
    | none => none)
  | false => none
def F38 (N : Nat) (p0 : List Int) : Option (Int × Unit) :=
  W38_3 N
    (fun t2 =>
      some (t2, ()))
    (fun t3 =>
      some (t3, ()))
    N (0 : Int) p0 (((List.length p0) : Nat) : Int) (0 : Int)
theorem loops38 (N : Nat) : loopsOk C38 (L38 N) Go.Proofs.Tryd.f38 := ⟨trivial, ⟨trivial, ⟨⟨trivial, ⟨loopOk_of H38_3 N (fun K n v => W38_3 N (fun t2 => K .ret (encH [(4, (.i .i64))] (t2, ()))) (fun t3 => K (.exit 0) (encH [(6, (.i .i64))] (t3, ()))) n v.1 v.2.1 v.2.2.1 v.2.2.2.1) (by kernel_rfl) (fun K v => by kernel_rfl) (fun K v => by kernel_rfl) (fun K n v => by kernel_rfl), ⟨trivial, ⟨⟨trivial, trivial⟩, ⟨⟨trivial, ⟨trivial, ⟨⟨trivial, trivial⟩, trivial⟩⟩⟩, trivial⟩⟩⟩⟩⟩, ⟨trivial, trivial⟩⟩⟩⟩
theorem runs38 (N : Nat) (x : S38.ta.den) : run C38 S38 (L38 N) Go.Proofs.Tryd.f38 x = F38 N x.1 := by kernel_rfl

/-! ### 40: cmp.Compare[int64] -/
def L40 (_ : Nat) : Loops (Int × Unit) := fun _ _ _ => none
def F40 (N : Nat) (p0 : Int) (p1 : Int) : Option (Int × Unit) :=
  bif decide (p0 < p1) then
    some ((-(1 : Int)), ())
  else
    bif decide (p0 > p1) then
      some ((1 : Int), ())
    else
      some ((0 : Int), ())
theorem loops40 (N : Nat) : loopsOk C40 (L40 N) Go.Proofs.Tryd.f40 := ⟨trivial, ⟨trivial, ⟨trivial, ⟨⟨trivial, ⟨⟨⟨trivial, ⟨⟨trivial, trivial⟩, trivial⟩⟩, ⟨trivial, trivial⟩⟩, trivial⟩⟩, ⟨⟨trivial, ⟨⟨trivial, trivial⟩, trivial⟩⟩, ⟨⟨trivial, ⟨⟨trivial, trivial⟩, trivial⟩⟩, ⟨⟨trivial, ⟨⟨trivial, trivial⟩, trivial⟩⟩, ⟨trivial, trivial⟩⟩⟩⟩⟩⟩⟩⟩
theorem runs40 (N : Nat) (x : S40.ta.den) : run C40 S40 (L40 N) Go.Proofs.Tryd.f40 x = F40 N x.1 x.2.1 := by kernel_rfl

/-! ### 26: incognito/value.Compare -/
def L26 (_ : Nat) : Loops (Int × Unit) := fun _ _ _ => none
def F26 (N : Nat) (p0 : Int × Int × ByteArray × Unit) (p1 : Int × Int × ByteArray × Unit) : Option (Int × Unit) :=
  some ((Go.Inc.orI ((Go.Inc.cmpI p0.1 p1.1) :: ((Go.Inc.cmpI p0.2.1 p1.2.1) :: ((Go.Abs.cmpS p0.2.2.1 p1.2.2.1) :: ([] : List Int))))), ())
theorem loops26 (N : Nat) : loopsOk C26 (L26 N) Go.Proofs.Tryd.f26 := ⟨trivial, ⟨trivial, trivial⟩⟩
theorem runs26 (N : Nat) (x : S26.ta.den) : run C26 S26 (L26 N) Go.Proofs.Tryd.f26 x = F26 N x.1 x.2.1 := by kernel_rfl

/-! ### 14: incognito/incognitoref07.Same -/
def W14_4 {β : Type} (N : Nat) (x0 : Bool → Option β) (x1 : Unit → Option β) : Nat → (List (Int × Int × ByteArray × Unit)) → (List (Int × Int × ByteArray × Unit)) → Int → Option β
  | 0, _, _, _ => none
  | n + 1, t0, t1, t5 =>
  bif decide (t5 < (((List.length t0) : Nat) : Int)) then
    bif ((decide ((0 : Int) ≤ t5)) && (decide (t5 < (((List.length t0) : Nat) : Int)))) then
      bif ((decide ((0 : Int) ≤ t5)) && (decide (t5 < (((List.length t1) : Nat) : Int)))) then
        bif (!((((List.getD t0 (Int.toNat t5) ((0 : Int), ((0 : Int), (ByteArray.empty, ())))).1) == ((List.getD t1 (Int.toNat t5) ((0 : Int), ((0 : Int), (ByteArray.empty, ())))).1)) && (((((List.getD t0 (Int.toNat t5) ((0 : Int), ((0 : Int), (ByteArray.empty, ())))).2).1) == (((List.getD t1 (Int.toNat t5) ((0 : Int), ((0 : Int), (ByteArray.empty, ())))).2).1)) && ((((((List.getD t0 (Int.toNat t5) ((0 : Int), ((0 : Int), (ByteArray.empty, ())))).2).2).1) == ((((List.getD t1 (Int.toNat t5) ((0 : Int), ((0 : Int), (ByteArray.empty, ())))).2).2).1)) && true)))) then
          x0 false
        else
          W14_4 N x0 x1 n t0 t1 (Go.IntKind.wrap .i64 (t5 + (1 : Int)))
      else
        none
    else
      none
  else
    x1 ()
def L14 (N : Nat) : Loops (Bool × Unit) := fun k ρ K => match Nat.beq k 4 with
  | true => (match adH ρ H14_4.hd with
    | some v => W14_4 N (fun t4 => K .ret (encH [(8, .bo)] (t4, ()))) (fun _ => K (.exit 0) (encH [] ())) N v.1 v.2.1 v.2.2.1
    | none => none)
  | false => none
def F14 (N : Nat) (p0 : List (Int × Int × ByteArray × Unit)) (p1 : List (Int × Int × ByteArray × Unit)) : Option (Bool × Unit) :=
  bif ((((List.length p0) : Nat) : Int) != (((List.length p1) : Nat) : Int)) then
    some (false, ())
  else
    W14_4 N
      (fun t4 =>
        some (t4, ()))
      (fun (_ : Unit) =>
        some (true, ()))
      N p0 p1 (0 : Int)
theorem loops14 (N : Nat) : loopsOk C14 (L14 N) Go.Proofs.Tryd.f14 := ⟨trivial, ⟨⟨trivial, ⟨⟨trivial, trivial⟩, trivial⟩⟩, ⟨⟨trivial, ⟨loopOk_of H14_4 N (fun K n v => W14_4 N (fun t4 => K .ret (encH [(8, .bo)] (t4, ()))) (fun _ => K (.exit 0) (encH [] ())) n v.1 v.2.1 v.2.2.1) (by kernel_rfl) (fun K v => by kernel_rfl) (fun K v => by kernel_rfl) (fun K n v => by kernel_rfl), ⟨⟨trivial, ⟨trivial, trivial⟩⟩, ⟨⟨trivial, ⟨⟨trivial, trivial⟩, trivial⟩⟩, trivial⟩⟩⟩⟩, ⟨trivial, trivial⟩⟩⟩⟩
theorem runs14 (N : Nat) (x : S14.ta.den) : run C14 S14 (L14 N) Go.Proofs.Tryd.f14 x = F14 N x.1 x.2.1 := by kernel_rfl

/-! ### 17: incognito/incognitolaw14.num -/
def L17 (_ : Nat) : Loops ((Int × Int × ByteArray × Unit) × Unit) := fun _ _ _ => none
def F17 (N : Nat) (p0 : Int) : Option ((Int × Int × ByteArray × Unit) × Unit) :=
  some (((1 : Int), (p0, (ByteArray.empty, ()))), ())
theorem loops17 (N : Nat) : loopsOk C17 (L17 N) Go.Proofs.Tryd.f17 := ⟨trivial, ⟨trivial, trivial⟩⟩
theorem runs17 (N : Nat) (x : S17.ta.den) : run C17 S17 (L17 N) Go.Proofs.Tryd.f17 x = F17 N x.1 := by kernel_rfl

/-! ### 9: incognito/incognitolaw14.great -/
def W9_7 {β : Type} (N : Nat) (x0 : Bool → Option β) (x3 : (List ((Int × Int × ByteArray × Unit) × Int × (List (Int × Int × ByteArray × Unit)) × Unit)) → (List ((Int × Int × ByteArray × Unit) × Int × (List (Int × Int × ByteArray × Unit)) × Unit)) → Int → Int → Option β) : Nat → (List ((Int × Int × ByteArray × Unit) × Int × (List (Int × Int × ByteArray × Unit)) × Unit)) → (List ((Int × Int × ByteArray × Unit) × Int × (List (Int × Int × ByteArray × Unit)) × Unit)) → Int → Int → (List (Int × Int × ByteArray × Unit)) → Int → Int → Option β
  | 0, _, _, _, _, _, _, _ => none
  | n + 1, t0, t7, t8, t9, t25, t26, t27 =>
  bif decide (t27 < t26) then
    bif ((decide ((0 : Int) ≤ t27)) && (decide (t27 < (((List.length t25) : Nat) : Int)))) then
      bif decide ((((ByteArray.size ((((List.getD t25 (Int.toNat t27) ((0 : Int), ((0 : Int), (ByteArray.empty, ())))).2).2).1)) : Nat) : Int) > (100 : Int)) then
        x0 true
      else
        W9_7 N x0 x3 n t0 t7 t8 t9 t25 t26 (Go.IntKind.wrap .i64 (t27 + (1 : Int)))
    else
      none
  else
    x3 t0 t7 t8 t9
def W9_2 {β : Type} (N : Nat) (x0 : Bool → Option β) (x1 : (List ((Int × Int × ByteArray × Unit) × Int × (List (Int × Int × ByteArray × Unit)) × Unit)) → Option β) : Nat → (List ((Int × Int × ByteArray × Unit) × Int × (List (Int × Int × ByteArray × Unit)) × Unit)) → (List ((Int × Int × ByteArray × Unit) × Int × (List (Int × Int × ByteArray × Unit)) × Unit)) → Int → Int → Option β
  | 0, _, _, _, _ => none
  | n + 1, t0, t7, t8, t9 =>
  bif decide (t9 < t8) then
    bif ((decide ((0 : Int) ≤ t9)) && (decide (t9 < (((List.length t7) : Nat) : Int)))) then
      bif decide ((((List.length ((((List.getD t7 (Int.toNat t9) (((0 : Int), ((0 : Int), (ByteArray.empty, ()))), ((0 : Int), ([], ())))).2).2).1)) : Nat) : Int) > (10 : Int)) then
        x0 true
      else
        bif decide ((((ByteArray.size (((((List.getD t7 (Int.toNat t9) (((0 : Int), ((0 : Int), (ByteArray.empty, ()))), ((0 : Int), ([], ())))).1).2).2).1)) : Nat) : Int) > (100 : Int)) then
          x0 true
        else
          W9_7 N
            (fun t2 =>
              x0 t2)
            (fun t0 t7 t8 t9 =>
              W9_2 N x0 x1 n t0 t7 t8 (Go.IntKind.wrap .i64 (t9 + (1 : Int))))
            N t0 t7 t8 t9 ((((List.getD t7 (Int.toNat t9) (((0 : Int), ((0 : Int), (ByteArray.empty, ()))), ((0 : Int), ([], ())))).2).2).1) (((List.length ((((List.getD t7 (Int.toNat t9) (((0 : Int), ((0 : Int), (ByteArray.empty, ()))), ((0 : Int), ([], ())))).2).2).1)) : Nat) : Int) (0 : Int)
    else
      none
  else
    x1 t0
def L9 (N : Nat) : Loops (Bool × Unit) := fun k ρ K => match Nat.beq k 7 with
  | true => (match adH ρ H9_7.hd with
    | some v => W9_7 N (fun t2 => K .ret (encH [(4, .bo)] (t2, ()))) (fun t0 t7 t8 t9 => K (.exit 2) (encH [(0, (.sl (.pr (.pr (.int .i64) (.pr (.int .i64) (.pr .str .un))) (.pr (.int .i64) (.pr (.sl (.pr (.int .i64) (.pr (.int .i64) (.pr .str .un)))) .un))) .no)), (14, (.sl (.pr (.pr (.int .i64) (.pr (.int .i64) (.pr .str .un))) (.pr (.int .i64) (.pr (.sl (.pr (.int .i64) (.pr (.int .i64) (.pr .str .un)))) .un))) .no)), (16, (.i .i64)), (18, (.i .i64))] (t0, (t7, (t8, (t9, ())))))) N v.1 v.2.1 v.2.2.1 v.2.2.2.1 v.2.2.2.2.1 v.2.2.2.2.2.1 v.2.2.2.2.2.2.1
    | none => none)
  | false => match Nat.beq k 2 with
  | true => (match adH ρ H9_2.hd with
    | some v => W9_2 N (fun t2 => K .ret (encH [(4, .bo)] (t2, ()))) (fun t0 => K (.exit 0) (encH [(0, (.sl (.pr (.pr (.int .i64) (.pr (.int .i64) (.pr .str .un))) (.pr (.int .i64) (.pr (.sl (.pr (.int .i64) (.pr (.int .i64) (.pr .str .un)))) .un))) .no))] (t0, ()))) N v.1 v.2.1 v.2.2.1 v.2.2.2.1
    | none => none)
  | false => none
def F9 (N : Nat) (p0 : List ((Int × Int × ByteArray × Unit) × Int × (List (Int × Int × ByteArray × Unit)) × Unit)) : Option (Bool × Unit) :=
  W9_2 N
    (fun t2 =>
      some (t2, ()))
    (fun t0 =>
      some (decide ((((List.length t0) : Nat) : Int) > (40 : Int)), ()))
    N p0 p0 (((List.length p0) : Nat) : Int) (0 : Int)
theorem loops9 (N : Nat) : loopsOk C9 (L9 N) Go.Proofs.Tryd.f9 := ⟨trivial, ⟨⟨trivial, ⟨loopOk_of H9_2 N (fun K n v => W9_2 N (fun t2 => K .ret (encH [(4, .bo)] (t2, ()))) (fun t0 => K (.exit 0) (encH [(0, (.sl (.pr (.pr (.int .i64) (.pr (.int .i64) (.pr .str .un))) (.pr (.int .i64) (.pr (.sl (.pr (.int .i64) (.pr (.int .i64) (.pr .str .un)))) .un))) .no))] (t0, ()))) n v.1 v.2.1 v.2.2.1 v.2.2.2.1) (by kernel_rfl) (fun K v => by kernel_rfl) (fun K v => by kernel_rfl) (fun K n v => by kernel_rfl), ⟨trivial, ⟨⟨trivial, trivial⟩, ⟨⟨trivial, ⟨⟨trivial, ⟨⟨trivial, trivial⟩, trivial⟩⟩, ⟨trivial, ⟨loopOk_of H9_7 N (fun K n v => W9_7 N (fun t2 => K .ret (encH [(4, .bo)] (t2, ()))) (fun t0 t7 t8 t9 => K (.exit 2) (encH [(0, (.sl (.pr (.pr (.int .i64) (.pr (.int .i64) (.pr .str .un))) (.pr (.int .i64) (.pr (.sl (.pr (.int .i64) (.pr (.int .i64) (.pr .str .un)))) .un))) .no)), (14, (.sl (.pr (.pr (.int .i64) (.pr (.int .i64) (.pr .str .un))) (.pr (.int .i64) (.pr (.sl (.pr (.int .i64) (.pr (.int .i64) (.pr .str .un)))) .un))) .no)), (16, (.i .i64)), (18, (.i .i64))] (t0, (t7, (t8, (t9, ())))))) n v.1 v.2.1 v.2.2.1 v.2.2.2.1 v.2.2.2.2.1 v.2.2.2.2.2.1 v.2.2.2.2.2.2.1) (by kernel_rfl) (fun K v => by kernel_rfl) (fun K v => by kernel_rfl) (fun K n v => by kernel_rfl), ⟨trivial, ⟨⟨trivial, trivial⟩, ⟨⟨trivial, ⟨trivial, ⟨⟨trivial, trivial⟩, trivial⟩⟩⟩, trivial⟩⟩⟩⟩⟩⟩⟩, trivial⟩⟩⟩⟩⟩, ⟨trivial, trivial⟩⟩⟩
theorem runs9 (N : Nat) (x : S9.ta.den) : run C9 S9 (L9 N) Go.Proofs.Tryd.f9 x = F9 N x.1 := by kernel_rfl

/-! ### 20: incognito/incognitoref14.has -/
def W20_2 {β : Type} (N : Nat) (x0 : Bool → Option β) (x1 : Unit → Option β) : Nat → (List ((Int × Int × ByteArray × Unit) × Int × (List (Int × Int × ByteArray × Unit)) × Unit)) → Int → Int → ByteArray → Int → Option β
  | 0, _, _, _, _, _ => none
  | n + 1, t0, b3a, b3ba, b3bba, t5 =>
  bif decide (t5 ≥ (0 : Int)) then
    bif ((decide ((0 : Int) ≤ t5)) && (decide (t5 < (((List.length t0) : Nat) : Int)))) then
      bif ((((List.getD t0 (Int.toNat t5) (((0 : Int), ((0 : Int), (ByteArray.empty, ()))), ((0 : Int), ([], ())))).2).1) != (6 : Int)) then
        bif ((decide ((0 : Int) ≤ t5)) && (decide (t5 < (((List.length t0) : Nat) : Int)))) then
          bif ((decide ((0 : Int) ≤ (0 : Int))) && (decide ((0 : Int) < (((List.length ((((List.getD t0 (Int.toNat t5) (((0 : Int), ((0 : Int), (ByteArray.empty, ()))), ((0 : Int), ([], ())))).2).2).1)) : Nat) : Int)))) then
            bif ((((List.getD ((((List.getD t0 (Int.toNat t5) (((0 : Int), ((0 : Int), (ByteArray.empty, ()))), ((0 : Int), ([], ())))).2).2).1) (Int.toNat (0 : Int)) ((0 : Int), ((0 : Int), (ByteArray.empty, ())))).1) == b3a) && (((((List.getD ((((List.getD t0 (Int.toNat t5) (((0 : Int), ((0 : Int), (ByteArray.empty, ()))), ((0 : Int), ([], ())))).2).2).1) (Int.toNat (0 : Int)) ((0 : Int), ((0 : Int), (ByteArray.empty, ())))).2).1) == b3ba) && ((((((List.getD ((((List.getD t0 (Int.toNat t5) (((0 : Int), ((0 : Int), (ByteArray.empty, ()))), ((0 : Int), ([], ())))).2).2).1) (Int.toNat (0 : Int)) ((0 : Int), ((0 : Int), (ByteArray.empty, ())))).2).2).1) == b3bba) && true))) then
              bif ((decide ((0 : Int) ≤ t5)) && (decide (t5 < (((List.length t0) : Nat) : Int)))) then
              x0 ((((List.getD t0 (Int.toNat t5) (((0 : Int), ((0 : Int), (ByteArray.empty, ()))), ((0 : Int), ([], ())))).2).1) == (4 : Int))
            else
              none
            else
              W20_2 N x0 x1 n t0 b3a b3ba b3bba (Go.IntKind.wrap .i64 (t5 - (1 : Int)))
          else
            none
        else
          none
      else
        W20_2 N x0 x1 n t0 b3a b3ba b3bba (Go.IntKind.wrap .i64 (t5 - (1 : Int)))
    else
      none
  else
    x1 ()
def L20 (N : Nat) : Loops (Bool × Unit) := fun k ρ K => match Nat.beq k 2 with
  | true => (match adH ρ H20_2.hd with
    | some v => W20_2 N (fun t4 => K .ret (encH [(8, .bo)] (t4, ()))) (fun _ => K (.exit 0) (encH [] ())) N v.1 v.2.2.1.1 v.2.2.1.2.1 v.2.2.1.2.2.1 v.2.2.2.1
    | none => none)
  | false => none
def F20 (N : Nat) (p0 : List ((Int × Int × ByteArray × Unit) × Int × (List (Int × Int × ByteArray × Unit)) × Unit)) (p1 : Int × Int × ByteArray × Unit) : Option (Bool × Unit) :=
  W20_2 N
    (fun t4 =>
      some (t4, ()))
    (fun (_ : Unit) =>
      some (false, ()))
    N p0 p1.1 p1.2.1 p1.2.2.1 (Go.IntKind.wrap .i64 ((((List.length p0) : Nat) : Int) - (1 : Int)))
theorem loops20 (N : Nat) : loopsOk C20 (L20 N) Go.Proofs.Tryd.f20 := ⟨trivial, ⟨⟨trivial, ⟨loopOk_of H20_2 N (fun K n v => W20_2 N (fun t4 => K .ret (encH [(8, .bo)] (t4, ()))) (fun _ => K (.exit 0) (encH [] ())) n v.1 v.2.2.1.1 v.2.2.1.2.1 v.2.2.1.2.2.1 v.2.2.2.1) (by kernel_rfl) (fun K v => by kernel_rfl) (fun K v => by kernel_rfl) (fun K n v => by kernel_rfl), ⟨⟨trivial, ⟨trivial, trivial⟩⟩, ⟨⟨trivial, ⟨⟨trivial, trivial⟩, trivial⟩⟩, trivial⟩⟩⟩⟩, ⟨trivial, trivial⟩⟩⟩
theorem runs20 (N : Nat) (x : S20.ta.den) : run C20 S20 (L20 N) Go.Proofs.Tryd.f20 x = F20 N x.1 x.2.1 := by kernel_rfl

/-! ### 21: incognito/incognitoref07.Sort -/
def W21_6 {β : Type} (N : Nat) (x3 : (List (Int × Int × ByteArray × Unit)) → (List (Int × Int × ByteArray × Unit)) → Int → Int → Option β) : Nat → (List (Int × Int × ByteArray × Unit)) → (List (Int × Int × ByteArray × Unit)) → Int → Int → Option β
  | 0, _, _, _, _ => none
  | n + 1, t0, t3, t4, t5 =>
  bif decide (t5 > (0 : Int)) then
    bif ((decide ((0 : Int) ≤ t4)) && (decide (t4 < (((List.length t0) : Nat) : Int)))) then
      bif ((decide ((0 : Int) ≤ (Go.IntKind.wrap .i64 (t5 - (1 : Int))))) && (decide ((Go.IntKind.wrap .i64 (t5 - (1 : Int))) < (((List.length t3) : Nat) : Int)))) then
        bif (Go.Inc.lessV (List.getD t0 (Int.toNat t4) ((0 : Int), ((0 : Int), (ByteArray.empty, ())))) (List.getD t3 (Int.toNat (Go.IntKind.wrap .i64 (t5 - (1 : Int)))) ((0 : Int), ((0 : Int), (ByteArray.empty, ()))))) then
          W21_6 N x3 n t0 t3 t4 (Go.IntKind.wrap .i64 (t5 - (1 : Int)))
        else
          x3 t0 t3 t4 t5
      else
        none
    else
      none
  else
    x3 t0 t3 t4 t5
def W21_3 {β : Type} (N : Nat) (x1 : (List (Int × Int × ByteArray × Unit)) → Option β) : Nat → (List (Int × Int × ByteArray × Unit)) → (List (Int × Int × ByteArray × Unit)) → Int → Option β
  | 0, _, _, _ => none
  | n + 1, t0, t3, t4 =>
  bif decide (t4 < (((List.length t0) : Nat) : Int)) then
    W21_6 N
      (fun t0 t3 t4 t5 =>
        bif ((decide ((0 : Int) ≤ (0 : Int))) && ((decide ((0 : Int) ≤ t5)) && (decide (t5 ≤ (((List.length t3) : Nat) : Int))))) then
          bif decide ((((List.length ([] : List (Int × (Int × (ByteArray × Unit))))) + (List.length (Go.Abs.sub t3 (0 : Int) t5))) * 32) ≤ 140737488351232) then
            bif ((decide ((0 : Int) ≤ t4)) && (decide (t4 < (((List.length t0) : Nat) : Int)))) then
              bif decide ((((List.length (([] : List (Int × (Int × (ByteArray × Unit)))) ++ (Go.Abs.sub t3 (0 : Int) t5))) + (List.length ((List.getD t0 (Int.toNat t4) ((0 : Int), ((0 : Int), (ByteArray.empty, ())))) :: ([] : List (Int × (Int × (ByteArray × Unit))))))) * 32) ≤ 140737488351232) then
              bif ((decide ((0 : Int) ≤ t5)) && ((decide (t5 ≤ (((List.length t3) : Nat) : Int))) && (decide ((((List.length t3) : Nat) : Int) ≤ (((List.length t3) : Nat) : Int))))) then
              bif decide ((((List.length ((([] : List (Int × (Int × (ByteArray × Unit)))) ++ (Go.Abs.sub t3 (0 : Int) t5)) ++ ((List.getD t0 (Int.toNat t4) ((0 : Int), ((0 : Int), (ByteArray.empty, ())))) :: ([] : List (Int × (Int × (ByteArray × Unit))))))) + (List.length (Go.Abs.sub t3 t5 (((List.length t3) : Nat) : Int)))) * 32) ≤ 140737488351232) then
              W21_3 N x1 n t0 (((([] : List (Int × (Int × (ByteArray × Unit)))) ++ (Go.Abs.sub t3 (0 : Int) t5)) ++ ((List.getD t0 (Int.toNat t4) ((0 : Int), ((0 : Int), (ByteArray.empty, ())))) :: ([] : List (Int × (Int × (ByteArray × Unit)))))) ++ (Go.Abs.sub t3 t5 (((List.length t3) : Nat) : Int))) (Go.IntKind.wrap .i64 (t4 + (1 : Int)))
            else
              none
            else
              none
            else
              none
            else
              none
          else
            none
        else
          none)
      N t0 t3 t4 (((List.length t3) : Nat) : Int)
  else
    x1 t3
def L21 (N : Nat) : Loops ((List (Int × Int × ByteArray × Unit)) × Unit) := fun k ρ K => match Nat.beq k 6 with
  | true => (match adH ρ H21_6.hd with
    | some v => W21_6 N (fun t0 t3 t4 t5 => K (.exit 2) (encH [(0, (.sl (.pr (.int .i64) (.pr (.int .i64) (.pr .str .un))) .no)), (6, (.sl (.pr (.int .i64) (.pr (.int .i64) (.pr .str .un))) (.own 35))), (8, (.i .i64)), (10, (.i .i64))] (t0, (t3, (t4, (t5, ())))))) N v.1 v.2.1 v.2.2.1 v.2.2.2.1
    | none => none)
  | false => match Nat.beq k 3 with
  | true => (match adH ρ H21_3.hd with
    | some v => W21_3 N (fun t3 => K (.exit 0) (encH [(6, (.sl (.pr (.int .i64) (.pr (.int .i64) (.pr .str .un))) (.own 35)))] (t3, ()))) N v.1 v.2.1 v.2.2.1
    | none => none)
  | false => none
def F21 (N : Nat) (p0 : List (Int × Int × ByteArray × Unit)) : Option ((List (Int × Int × ByteArray × Unit)) × Unit) :=
  W21_3 N
    (fun t3 =>
      some (t3, ()))
    N p0 ([] : List (Int × (Int × (ByteArray × Unit)))) (0 : Int)
theorem loops21 (N : Nat) : loopsOk C21 (L21 N) Go.Proofs.Tryd.f21 := ⟨trivial, ⟨trivial, ⟨⟨trivial, ⟨loopOk_of H21_3 N (fun K n v => W21_3 N (fun t3 => K (.exit 0) (encH [(6, (.sl (.pr (.int .i64) (.pr (.int .i64) (.pr .str .un))) (.own 35)))] (t3, ()))) n v.1 v.2.1 v.2.2.1) (by kernel_rfl) (fun K v => by kernel_rfl) (fun K v => by kernel_rfl) (fun K n v => by kernel_rfl), ⟨⟨trivial, ⟨trivial, trivial⟩⟩, ⟨⟨trivial, ⟨⟨loopOk_of H21_6 N (fun K n v => W21_6 N (fun t0 t3 t4 t5 => K (.exit 2) (encH [(0, (.sl (.pr (.int .i64) (.pr (.int .i64) (.pr .str .un))) .no)), (6, (.sl (.pr (.int .i64) (.pr (.int .i64) (.pr .str .un))) (.own 35))), (8, (.i .i64)), (10, (.i .i64))] (t0, (t3, (t4, (t5, ())))))) n v.1 v.2.1 v.2.2.1 v.2.2.2.1) (by kernel_rfl) (fun K v => by kernel_rfl) (fun K v => by kernel_rfl) (fun K n v => by kernel_rfl), ⟨⟨trivial, ⟨trivial, trivial⟩⟩, trivial⟩⟩, ⟨trivial, ⟨trivial, ⟨trivial, trivial⟩⟩⟩⟩⟩, trivial⟩⟩⟩⟩, ⟨trivial, trivial⟩⟩⟩⟩
theorem runs21 (N : Nat) (x : S21.ta.den) : run C21 S21 (L21 N) Go.Proofs.Tryd.f21 x = F21 N x.1 := by kernel_rfl

/-! ### 15: incognito/incognitoref14.Out -/
def L15 (_ : Nat) : Loops ((List (Int × Int × ByteArray × Unit)) × Unit) := fun _ _ _ => none
def F15 (N : Nat) (p0 : Int) (p1 : List ((Int × Int × ByteArray × Unit) × Int × (List (Int × Int × ByteArray × Unit)) × Unit)) (p2 : (Int × Int × ByteArray × Unit) × Int × (List (Int × Int × ByteArray × Unit)) × Unit) : Option ((List (Int × Int × ByteArray × Unit)) × Unit) :=
  bif (p2.2.1 != (6 : Int)) then
    some (([] : List (Int × (Int × (ByteArray × Unit)))), ())
  else
    bif ((decide ((0 : Int) ≤ (0 : Int))) && (decide ((0 : Int) < (((List.length p2.2.2.1) : Nat) : Int)))) then
      bif (Go.Inc.okBPast p1 (List.getD p2.2.2.1 (Int.toNat (0 : Int)) ((0 : Int), ((0 : Int), (ByteArray.empty, ()))))) then
        some (((Go.Inc.yesV (Go.Inc.bagHas p1 (List.getD p2.2.2.1 (Int.toNat (0 : Int)) ((0 : Int), ((0 : Int), (ByteArray.empty, ())))))) :: ([] : List (Int × (Int × (ByteArray × Unit))))), ())
      else
        none
    else
      none
theorem loops15 (N : Nat) : loopsOk C15 (L15 N) Go.Proofs.Tryd.f15 := ⟨trivial, ⟨⟨trivial, ⟨⟨trivial, trivial⟩, trivial⟩⟩, ⟨trivial, trivial⟩⟩⟩
theorem runs15 (N : Nat) (x : S15.ta.den) : run C15 S15 (L15 N) Go.Proofs.Tryd.f15 x = F15 N x.1 x.2.1 x.2.2.1 := by kernel_rfl

/-! ### 3: incognito/incognitolaw14.BagPlays -/
def W3_12 {β : Type} (N : Nat) (x0 : Bool → Option β) (x1 : Unit → Option β) : Nat → Int → Int → Int → Int → ByteArray → Int → (List (Int × Int × ByteArray × Unit)) → (List ((Int × Int × ByteArray × Unit) × Int × (List (Int × Int × ByteArray × Unit)) × Unit)) → (List ((Int × Int × ByteArray × Unit) × Int × (List (Int × Int × ByteArray × Unit)) × Unit)) → Int → Int → Option β
  | 0, _, _, _, _, _, _, _, _, _, _, _ => none
  | n + 1, t0, b5a, b5ba, b5bba, b5bbba, b5bbbba, b5bbbbba, t7, t42, t43, t44 =>
  bif decide (t44 < t43) then
    bif ((decide ((0 : Int) ≤ t44)) && (decide (t44 < (((List.length t42) : Nat) : Int)))) then
      bif (Go.Inc.okBStep (b5a, ((b5ba, (b5bba, (b5bbba, ()))), (b5bbbba, (b5bbbbba, ())))) ((List.getD t42 (Int.toNat t44) (((0 : Int), ((0 : Int), (ByteArray.empty, ()))), ((0 : Int), ([], ())))).1) (((List.getD t42 (Int.toNat t44) (((0 : Int), ((0 : Int), (ByteArray.empty, ()))), ((0 : Int), ([], ())))).2).1) ((((List.getD t42 (Int.toNat t44) (((0 : Int), ((0 : Int), (ByteArray.empty, ()))), ((0 : Int), ([], ())))).2).2).1)) then
        bif (Go.Inc.okMay t0 (List.getD t42 (Int.toNat t44) (((0 : Int), ((0 : Int), (ByteArray.empty, ()))), ((0 : Int), ([], ()))))) then
          bif (!(((((Go.Inc.bagStep (b5a, ((b5ba, (b5bba, (b5bbba, ()))), (b5bbbba, (b5bbbbba, ())))) ((List.getD t42 (Int.toNat t44) (((0 : Int), ((0 : Int), (ByteArray.empty, ()))), ((0 : Int), ([], ())))).1) (((List.getD t42 (Int.toNat t44) (((0 : Int), ((0 : Int), (ByteArray.empty, ()))), ((0 : Int), ([], ())))).2).1) ((((List.getD t42 (Int.toNat t44) (((0 : Int), ((0 : Int), (ByteArray.empty, ()))), ((0 : Int), ([], ())))).2).2).1)).2).2).1) == (Go.Inc.mayD t0 (List.getD t42 (Int.toNat t44) (((0 : Int), ((0 : Int), (ByteArray.empty, ()))), ((0 : Int), ([], ()))))))) then
            x0 false
          else
            bif (!((((Go.Inc.bagStep (b5a, ((b5ba, (b5bba, (b5bbba, ()))), (b5bbbba, (b5bbbbba, ())))) ((List.getD t42 (Int.toNat t44) (((0 : Int), ((0 : Int), (ByteArray.empty, ()))), ((0 : Int), ([], ())))).1) (((List.getD t42 (Int.toNat t44) (((0 : Int), ((0 : Int), (ByteArray.empty, ()))), ((0 : Int), ([], ())))).2).1) ((((List.getD t42 (Int.toNat t44) (((0 : Int), ((0 : Int), (ByteArray.empty, ()))), ((0 : Int), ([], ())))).2).2).1)).2).2).1)) then
              bif decide ((((List.length (((Go.Inc.bagStep (b5a, ((b5ba, (b5bba, (b5bbba, ()))), (b5bbbba, (b5bbbbba, ())))) ((List.getD t42 (Int.toNat t44) (((0 : Int), ((0 : Int), (ByteArray.empty, ()))), ((0 : Int), ([], ())))).1) (((List.getD t42 (Int.toNat t44) (((0 : Int), ((0 : Int), (ByteArray.empty, ()))), ((0 : Int), ([], ())))).2).1) ((((List.getD t42 (Int.toNat t44) (((0 : Int), ((0 : Int), (ByteArray.empty, ()))), ((0 : Int), ([], ())))).2).2).1)).2).1)) : Nat) : Int) > (0 : Int)) then
              x0 false
            else
              bif (Go.Inc.okSS ((Go.Inc.bagStep (b5a, ((b5ba, (b5bba, (b5bbba, ()))), (b5bbbba, (b5bbbbba, ())))) ((List.getD t42 (Int.toNat t44) (((0 : Int), ((0 : Int), (ByteArray.empty, ()))), ((0 : Int), ([], ())))).1) (((List.getD t42 (Int.toNat t44) (((0 : Int), ((0 : Int), (ByteArray.empty, ()))), ((0 : Int), ([], ())))).2).1) ((((List.getD t42 (Int.toNat t44) (((0 : Int), ((0 : Int), (ByteArray.empty, ()))), ((0 : Int), ([], ())))).2).2).1)).1) ((0 : Int), (((0 : Int), ((0 : Int), (ByteArray.empty, ()))), ((0 : Int), (([] : List (Int × (Int × (ByteArray × Unit)))), ()))))) then
              bif (!(Go.Inc.sameS ((Go.Inc.bagStep (b5a, ((b5ba, (b5bba, (b5bbba, ()))), (b5bbbba, (b5bbbbba, ())))) ((List.getD t42 (Int.toNat t44) (((0 : Int), ((0 : Int), (ByteArray.empty, ()))), ((0 : Int), ([], ())))).1) (((List.getD t42 (Int.toNat t44) (((0 : Int), ((0 : Int), (ByteArray.empty, ()))), ((0 : Int), ([], ())))).2).1) ((((List.getD t42 (Int.toNat t44) (((0 : Int), ((0 : Int), (ByteArray.empty, ()))), ((0 : Int), ([], ())))).2).2).1)).1) ((0 : Int), (((0 : Int), ((0 : Int), (ByteArray.empty, ()))), ((0 : Int), (([] : List (Int × (Int × (ByteArray × Unit)))), ())))))) then
              x0 false
            else
              W3_12 N x0 x1 n t0 b5a b5ba b5bba b5bbba b5bbbba b5bbbbba t7 t42 t43 (Go.IntKind.wrap .i64 (t44 + (1 : Int)))
            else
              none
            else
              bif (Go.Inc.okBPast1 t0 t7 (List.getD t42 (Int.toNat t44) (((0 : Int), ((0 : Int), (ByteArray.empty, ()))), ((0 : Int), ([], ()))))) then
              bif (Go.Inc.okSame2 (((Go.Inc.bagStep (b5a, ((b5ba, (b5bba, (b5bbba, ()))), (b5bbbba, (b5bbbbba, ())))) ((List.getD t42 (Int.toNat t44) (((0 : Int), ((0 : Int), (ByteArray.empty, ()))), ((0 : Int), ([], ())))).1) (((List.getD t42 (Int.toNat t44) (((0 : Int), ((0 : Int), (ByteArray.empty, ()))), ((0 : Int), ([], ())))).2).1) ((((List.getD t42 (Int.toNat t44) (((0 : Int), ((0 : Int), (ByteArray.empty, ()))), ((0 : Int), ([], ())))).2).2).1)).2).1) (Go.Inc.bagOut t0 t7 (List.getD t42 (Int.toNat t44) (((0 : Int), ((0 : Int), (ByteArray.empty, ()))), ((0 : Int), ([], ())))))) then
              bif (!(Go.Inc.sameV (((Go.Inc.bagStep (b5a, ((b5ba, (b5bba, (b5bbba, ()))), (b5bbbba, (b5bbbbba, ())))) ((List.getD t42 (Int.toNat t44) (((0 : Int), ((0 : Int), (ByteArray.empty, ()))), ((0 : Int), ([], ())))).1) (((List.getD t42 (Int.toNat t44) (((0 : Int), ((0 : Int), (ByteArray.empty, ()))), ((0 : Int), ([], ())))).2).1) ((((List.getD t42 (Int.toNat t44) (((0 : Int), ((0 : Int), (ByteArray.empty, ()))), ((0 : Int), ([], ())))).2).2).1)).2).1) (Go.Inc.bagOut t0 t7 (List.getD t42 (Int.toNat t44) (((0 : Int), ((0 : Int), (ByteArray.empty, ()))), ((0 : Int), ([], ()))))))) then
              x0 false
            else
              bif decide ((((List.length t7) + (List.length ((List.getD t42 (Int.toNat t44) (((0 : Int), ((0 : Int), (ByteArray.empty, ()))), ((0 : Int), ([], ())))) :: ([] : List ((Int × (Int × (ByteArray × Unit))) × (Int × ((List (Int × (Int × (ByteArray × Unit)))) × Unit))))))) * 64) ≤ 140737488351232) then
              bif (Go.Inc.okBPast0 t0 (t7 ++ ((List.getD t42 (Int.toNat t44) (((0 : Int), ((0 : Int), (ByteArray.empty, ()))), ((0 : Int), ([], ())))) :: ([] : List ((Int × (Int × (ByteArray × Unit))) × (Int × ((List (Int × (Int × (ByteArray × Unit)))) × Unit))))))) then
              bif (Go.Inc.okSS ((Go.Inc.bagStep (b5a, ((b5ba, (b5bba, (b5bbba, ()))), (b5bbbba, (b5bbbbba, ())))) ((List.getD t42 (Int.toNat t44) (((0 : Int), ((0 : Int), (ByteArray.empty, ()))), ((0 : Int), ([], ())))).1) (((List.getD t42 (Int.toNat t44) (((0 : Int), ((0 : Int), (ByteArray.empty, ()))), ((0 : Int), ([], ())))).2).1) ((((List.getD t42 (Int.toNat t44) (((0 : Int), ((0 : Int), (ByteArray.empty, ()))), ((0 : Int), ([], ())))).2).2).1)).1) (Go.Inc.bagState t0 (t7 ++ ((List.getD t42 (Int.toNat t44) (((0 : Int), ((0 : Int), (ByteArray.empty, ()))), ((0 : Int), ([], ())))) :: ([] : List ((Int × (Int × (ByteArray × Unit))) × (Int × ((List (Int × (Int × (ByteArray × Unit)))) × Unit)))))))) then
              bif (!(Go.Inc.sameS ((Go.Inc.bagStep (b5a, ((b5ba, (b5bba, (b5bbba, ()))), (b5bbbba, (b5bbbbba, ())))) ((List.getD t42 (Int.toNat t44) (((0 : Int), ((0 : Int), (ByteArray.empty, ()))), ((0 : Int), ([], ())))).1) (((List.getD t42 (Int.toNat t44) (((0 : Int), ((0 : Int), (ByteArray.empty, ()))), ((0 : Int), ([], ())))).2).1) ((((List.getD t42 (Int.toNat t44) (((0 : Int), ((0 : Int), (ByteArray.empty, ()))), ((0 : Int), ([], ())))).2).2).1)).1) (Go.Inc.bagState t0 (t7 ++ ((List.getD t42 (Int.toNat t44) (((0 : Int), ((0 : Int), (ByteArray.empty, ()))), ((0 : Int), ([], ())))) :: ([] : List ((Int × (Int × (ByteArray × Unit))) × (Int × ((List (Int × (Int × (ByteArray × Unit)))) × Unit))))))))) then
              x0 false
            else
              W3_12 N x0 x1 n t0 (((Go.Inc.bagStep (b5a, ((b5ba, (b5bba, (b5bbba, ()))), (b5bbbba, (b5bbbbba, ())))) ((List.getD t42 (Int.toNat t44) (((0 : Int), ((0 : Int), (ByteArray.empty, ()))), ((0 : Int), ([], ())))).1) (((List.getD t42 (Int.toNat t44) (((0 : Int), ((0 : Int), (ByteArray.empty, ()))), ((0 : Int), ([], ())))).2).1) ((((List.getD t42 (Int.toNat t44) (((0 : Int), ((0 : Int), (ByteArray.empty, ()))), ((0 : Int), ([], ())))).2).2).1)).1).1) (((((Go.Inc.bagStep (b5a, ((b5ba, (b5bba, (b5bbba, ()))), (b5bbbba, (b5bbbbba, ())))) ((List.getD t42 (Int.toNat t44) (((0 : Int), ((0 : Int), (ByteArray.empty, ()))), ((0 : Int), ([], ())))).1) (((List.getD t42 (Int.toNat t44) (((0 : Int), ((0 : Int), (ByteArray.empty, ()))), ((0 : Int), ([], ())))).2).1) ((((List.getD t42 (Int.toNat t44) (((0 : Int), ((0 : Int), (ByteArray.empty, ()))), ((0 : Int), ([], ())))).2).2).1)).1).2).1).1) ((((((Go.Inc.bagStep (b5a, ((b5ba, (b5bba, (b5bbba, ()))), (b5bbbba, (b5bbbbba, ())))) ((List.getD t42 (Int.toNat t44) (((0 : Int), ((0 : Int), (ByteArray.empty, ()))), ((0 : Int), ([], ())))).1) (((List.getD t42 (Int.toNat t44) (((0 : Int), ((0 : Int), (ByteArray.empty, ()))), ((0 : Int), ([], ())))).2).1) ((((List.getD t42 (Int.toNat t44) (((0 : Int), ((0 : Int), (ByteArray.empty, ()))), ((0 : Int), ([], ())))).2).2).1)).1).2).1).2).1) (((((((Go.Inc.bagStep (b5a, ((b5ba, (b5bba, (b5bbba, ()))), (b5bbbba, (b5bbbbba, ())))) ((List.getD t42 (Int.toNat t44) (((0 : Int), ((0 : Int), (ByteArray.empty, ()))), ((0 : Int), ([], ())))).1) (((List.getD t42 (Int.toNat t44) (((0 : Int), ((0 : Int), (ByteArray.empty, ()))), ((0 : Int), ([], ())))).2).1) ((((List.getD t42 (Int.toNat t44) (((0 : Int), ((0 : Int), (ByteArray.empty, ()))), ((0 : Int), ([], ())))).2).2).1)).1).2).1).2).2).1) (((((Go.Inc.bagStep (b5a, ((b5ba, (b5bba, (b5bbba, ()))), (b5bbbba, (b5bbbbba, ())))) ((List.getD t42 (Int.toNat t44) (((0 : Int), ((0 : Int), (ByteArray.empty, ()))), ((0 : Int), ([], ())))).1) (((List.getD t42 (Int.toNat t44) (((0 : Int), ((0 : Int), (ByteArray.empty, ()))), ((0 : Int), ([], ())))).2).1) ((((List.getD t42 (Int.toNat t44) (((0 : Int), ((0 : Int), (ByteArray.empty, ()))), ((0 : Int), ([], ())))).2).2).1)).1).2).2).1) ((((((Go.Inc.bagStep (b5a, ((b5ba, (b5bba, (b5bbba, ()))), (b5bbbba, (b5bbbbba, ())))) ((List.getD t42 (Int.toNat t44) (((0 : Int), ((0 : Int), (ByteArray.empty, ()))), ((0 : Int), ([], ())))).1) (((List.getD t42 (Int.toNat t44) (((0 : Int), ((0 : Int), (ByteArray.empty, ()))), ((0 : Int), ([], ())))).2).1) ((((List.getD t42 (Int.toNat t44) (((0 : Int), ((0 : Int), (ByteArray.empty, ()))), ((0 : Int), ([], ())))).2).2).1)).1).2).2).2).1) (t7 ++ ((List.getD t42 (Int.toNat t44) (((0 : Int), ((0 : Int), (ByteArray.empty, ()))), ((0 : Int), ([], ())))) :: ([] : List ((Int × (Int × (ByteArray × Unit))) × (Int × ((List (Int × (Int × (ByteArray × Unit)))) × Unit)))))) t42 t43 (Go.IntKind.wrap .i64 (t44 + (1 : Int)))
            else
              none
            else
              none
            else
              none
            else
              none
            else
              none
        else
          none
      else
        none
    else
      none
  else
    x1 ()
def L3 (N : Nat) : Loops (Bool × Unit) := fun k ρ K => match Nat.beq k 12 with
  | true => (match adH ρ H3_12.hd with
    | some v => W3_12 N (fun t4 => K .ret (encH [(8, .bo)] (t4, ()))) (fun _ => K (.exit 0) (encH [] ())) N v.1 v.2.2.1.1 v.2.2.1.2.1 v.2.2.1.2.2.1 v.2.2.1.2.2.2.1 v.2.2.1.2.2.2.2.1 v.2.2.1.2.2.2.2.2.1 v.2.2.2.1 v.2.2.2.2.1 v.2.2.2.2.2.1 v.2.2.2.2.2.2.1
    | none => none)
  | false => none
def F3 (N : Nat) (p0 : Int) (p1 : List ((Int × Int × ByteArray × Unit) × Int × (List (Int × Int × ByteArray × Unit)) × Unit)) : Option (Bool × Unit) :=
  bif (!((((Go.Inc.bagNew p0).2).1) == (Go.Inc.bagOwn p0))) then
    some (false, ())
  else
    bif (!(((Go.Inc.bagNew p0).2).1)) then
      bif (Go.Inc.okSS ((Go.Inc.bagNew p0).1) ((0 : Int), (((0 : Int), ((0 : Int), (ByteArray.empty, ()))), ((0 : Int), (([] : List (Int × (Int × (ByteArray × Unit)))), ()))))) then
        bif (Go.Inc.sameS ((Go.Inc.bagNew p0).1) ((0 : Int), (((0 : Int), ((0 : Int), (ByteArray.empty, ()))), ((0 : Int), (([] : List (Int × (Int × (ByteArray × Unit)))), ()))))) then
          some (true, ())
        else
          some ((Go.Inc.bagNew p0).2)
      else
        none
    else
      bif (Go.Inc.okDs p1) then
        bif (Go.Inc.greatD p1) then
          bif (Go.Inc.okSS ((Go.Inc.bagNew p0).1) ((0 : Int), (((0 : Int), ((0 : Int), (ByteArray.empty, ()))), ((0 : Int), (([] : List (Int × (Int × (ByteArray × Unit)))), ()))))) then
            bif (Go.Inc.sameS ((Go.Inc.bagNew p0).1) ((0 : Int), (((0 : Int), ((0 : Int), (ByteArray.empty, ()))), ((0 : Int), (([] : List (Int × (Int × (ByteArray × Unit)))), ()))))) then
              some (true, ())
            else
              some ((Go.Inc.bagNew p0).2)
          else
            none
        else
          bif (Go.Inc.okSS ((Go.Inc.bagNew p0).1) (Go.Inc.bagState p0 ([] : List ((Int × (Int × (ByteArray × Unit))) × (Int × ((List (Int × (Int × (ByteArray × Unit)))) × Unit)))))) then
            bif (!(Go.Inc.sameS ((Go.Inc.bagNew p0).1) (Go.Inc.bagState p0 ([] : List ((Int × (Int × (ByteArray × Unit))) × (Int × ((List (Int × (Int × (ByteArray × Unit)))) × Unit))))))) then
              some (false, ())
            else
              W3_12 N
              (fun t4 =>
                some (t4, ()))
              (fun (_ : Unit) =>
                some (true, ()))
              N p0 (((Go.Inc.bagNew p0).1).1) (((((Go.Inc.bagNew p0).1).2).1).1) ((((((Go.Inc.bagNew p0).1).2).1).2).1) (((((((Go.Inc.bagNew p0).1).2).1).2).2).1) (((((Go.Inc.bagNew p0).1).2).2).1) ((((((Go.Inc.bagNew p0).1).2).2).2).1) ([] : List ((Int × (Int × (ByteArray × Unit))) × (Int × ((List (Int × (Int × (ByteArray × Unit)))) × Unit)))) p1 (((List.length p1) : Nat) : Int) (0 : Int)
          else
            none
      else
        none
theorem loops3 (N : Nat) : loopsOk C3 (L3 N) Go.Proofs.Tryd.f3 := ⟨trivial, ⟨⟨trivial, ⟨⟨trivial, trivial⟩, trivial⟩⟩, ⟨trivial, ⟨⟨trivial, ⟨⟨trivial, trivial⟩, trivial⟩⟩, ⟨⟨trivial, ⟨⟨trivial, trivial⟩, trivial⟩⟩, ⟨trivial, ⟨⟨trivial, ⟨⟨trivial, trivial⟩, trivial⟩⟩, ⟨⟨trivial, ⟨loopOk_of H3_12 N (fun K n v => W3_12 N (fun t4 => K .ret (encH [(8, .bo)] (t4, ()))) (fun _ => K (.exit 0) (encH [] ())) n v.1 v.2.2.1.1 v.2.2.1.2.1 v.2.2.1.2.2.1 v.2.2.1.2.2.2.1 v.2.2.1.2.2.2.2.1 v.2.2.1.2.2.2.2.2.1 v.2.2.2.1 v.2.2.2.2.1 v.2.2.2.2.2.1 v.2.2.2.2.2.2.1) (by kernel_rfl) (fun K v => by kernel_rfl) (fun K v => by kernel_rfl) (fun K n v => by kernel_rfl), ⟨trivial, ⟨⟨trivial, trivial⟩, ⟨⟨trivial, ⟨trivial, ⟨⟨trivial, ⟨⟨trivial, trivial⟩, trivial⟩⟩, ⟨⟨trivial, ⟨⟨⟨trivial, ⟨⟨trivial, trivial⟩, trivial⟩⟩, trivial⟩, trivial⟩⟩, ⟨⟨trivial, ⟨⟨trivial, trivial⟩, trivial⟩⟩, ⟨trivial, ⟨trivial, ⟨trivial, ⟨⟨trivial, trivial⟩, trivial⟩⟩⟩⟩⟩⟩⟩⟩⟩, trivial⟩⟩⟩⟩⟩, ⟨trivial, trivial⟩⟩⟩⟩⟩⟩⟩⟩⟩
theorem runs3 (N : Nat) (x : S3.ta.den) : run C3 S3 (L3 N) Go.Proofs.Tryd.f3 x = F3 N x.1 x.2.1 := by kernel_rfl

/-! ### 19x: incognito/sign.Outs -/
def L19x (_ : Nat) : Loops (HS.den X19x.hout) := fun _ _ _ => none
def F19x (N : Nat) (t0 : Int) (t1 : Int) (t2 : Nat) (b1000 : List (Int × Int × ByteArray × Unit)) : Option (HS.den X19x.hout) :=
  bif (!(((Go.Inc.findGo t0 t1).2).1)) then
    some (([] : List Int), (false, (b1000, ())))
  else
    bif decide (((((((Go.Inc.findGo t0 t1).1).2).2).2).1) < (0 : Int)) then
      some (([] : List Int), ((((t2 : Nat) : Int) == (0 : Int)), (b1000, ())))
    else
      bif (((((((Go.Inc.findGo t0 t1).1).2).2).2).1) == (99 : Int)) then
        bif (Go.Inc.okPX t2 b1000) then
          some ((Go.Inc.pairedGo b1000).1, (((Go.Inc.pairedGo b1000).2).1, (b1000, ())))
        else
          none
      else
        bif (((t2 : Nat) : Int) != (1 : Int)) then
          some (([] : List Int), (false, (b1000, ())))
        else
          bif ((decide ((0 : Int) ≤ (0 : Int))) && (decide ((0 : Int) < ((t2 : Nat) : Int)))) then
            bif decide ((Int.toNat (0 : Int)) < (List.length b1000)) then
              bif (Go.Inc.okT ((((((Go.Inc.findGo t0 t1).1).2).2).2).1) (List.getD b1000 (Int.toNat (0 : Int)) ((0 : Int), ((0 : Int), (ByteArray.empty, ()))))) then
              bif (!(Go.Inc.takes ((((((Go.Inc.findGo t0 t1).1).2).2).2).1) (List.getD b1000 (Int.toNat (0 : Int)) ((0 : Int), ((0 : Int), (ByteArray.empty, ())))))) then
              bif ((((((Go.Inc.findGo t0 t1).1).2).2).2).2).1 then
              bif ((decide ((0 : Int) ≤ (0 : Int))) && (decide ((0 : Int) < ((t2 : Nat) : Int)))) then
              bif decide ((Int.toNat (0 : Int)) < (List.length b1000)) then
              bif (!((((List.getD b1000 (Int.toNat (0 : Int)) ((0 : Int), ((0 : Int), (ByteArray.empty, ())))).1) == (0 : Int)) && (((((List.getD b1000 (Int.toNat (0 : Int)) ((0 : Int), ((0 : Int), (ByteArray.empty, ())))).2).1) == (0 : Int)) && ((((((List.getD b1000 (Int.toNat (0 : Int)) ((0 : Int), ((0 : Int), (ByteArray.empty, ())))).2).2).1) == ByteArray.empty) && true)))) then
              some (([] : List Int), (false, (b1000, ())))
            else
              some ((((((((Go.Inc.findGo t0 t1).1).2).2).2).1) :: ([] : List Int)), (true, (b1000, ())))
            else
              none
            else
              none
            else
              some (([] : List Int), (false, (b1000, ())))
            else
              some ((((((((Go.Inc.findGo t0 t1).1).2).2).2).1) :: ([] : List Int)), (true, (b1000, ())))
            else
              none
            else
              none
          else
            none
theorem loops19x (N : Nat) : loopsOk C19x (L19x N) Go.Proofs.Tryd.f19 := ⟨trivial, ⟨trivial, ⟨⟨trivial, ⟨⟨trivial, trivial⟩, ⟨trivial, ⟨⟨trivial, trivial⟩, ⟨trivial, ⟨⟨trivial, trivial⟩, ⟨trivial, ⟨⟨trivial, trivial⟩, trivial⟩⟩⟩⟩⟩⟩⟩⟩, ⟨trivial, trivial⟩⟩⟩⟩
theorem runs19x (N : Nat) (x : HS.den X19x.hin) : runX C19x X19x (L19x N) Go.Proofs.Tryd.f19 x = F19x N x.1 x.2.1 x.2.2.1 x.2.2.2.1 := by kernel_rfl

/-! ### 5: incognito/incognitolaw14.BagOuts -/
def W5_18 {β : Type} (N : Nat) (x3 : Int → Int → Int → Int → ByteArray → Int → (List (Int × Int × ByteArray × Unit)) → Int → Int → Int → ByteArray → Int → (List (Int × Int × ByteArray × Unit)) → Int → Int → Int → ByteArray → Int → (List (Int × Int × ByteArray × Unit)) → (List ((Int × Int × ByteArray × Unit) × Int × (List (Int × Int × ByteArray × Unit)) × Unit)) → Int → Int → Option β) : Nat → Int → Int → Int → Int → ByteArray → Int → (List (Int × Int × ByteArray × Unit)) → Int → Int → Int → ByteArray → Int → (List (Int × Int × ByteArray × Unit)) → Int → Int → Int → ByteArray → Int → (List (Int × Int × ByteArray × Unit)) → Nat → (List ((Int × Int × ByteArray × Unit) × Int × (List (Int × Int × ByteArray × Unit)) × Unit)) → Int → Int → (List (Int × Int × ByteArray × Unit)) → Int → Int → Option β
  | 0, _, _, _, _, _, _, _, _, _, _, _, _, _, _, _, _, _, _, _, _, _, _, _, _, _, _ => none
  | n + 1, t0, b5a, b5ba, b5bba, b5bbba, b5bbbba, b5bbbbba, b9a, b9ba, b9bba, b9bbba, b9bbbba, b9bbbbba, b10a, b10ba, b10bba, b10bbba, b10bbbba, b10bbbbba, t11, t29, t30, t31, b45, t72, t73 =>
  bif decide (t73 < t72) then
    bif ((decide ((0 : Int) ≤ t73)) && (decide (t73 < ((t11 : Nat) : Int)))) then
      bif decide ((Int.toNat t73) < (List.length b45)) then
        W5_18 N x3 n t0 b5a b5ba b5bba b5bbba b5bbbba b5bbbbba b9a b9ba b9bba b9bbba b9bbbba b9bbbbba b10a b10ba b10bba b10bbba b10bbbba b10bbbbba t11 t29 t30 t31 (List.set b45 (Int.toNat t73) ((9 : Int), (List.getD b45 (Int.toNat t73) ((0 : Int), ((0 : Int), (ByteArray.empty, ())))).2)) t72 (Go.IntKind.wrap .i64 (t73 + (1 : Int)))
      else
        none
    else
      none
  else
    x3 t0 b5a b5ba b5bba b5bbba b5bbbba b5bbbbba b9a b9ba b9bba b9bbba b9bbbba b9bbbbba b10a b10ba b10bba b10bbba b10bbbba b10bbbbba t29 t30 t31
def W5_7 {β : Type} (N : Nat) (x0 : Bool → Option β) (x1 : Unit → Option β) : Nat → Int → Int → Int → Int → ByteArray → Int → (List (Int × Int × ByteArray × Unit)) → (List ((Int × Int × ByteArray × Unit) × Int × (List (Int × Int × ByteArray × Unit)) × Unit)) → Int → Int → Option β
  | 0, _, _, _, _, _, _, _, _, _, _ => none
  | n + 1, t0, b5a, b5ba, b5bba, b5bbba, b5bbbba, b5bbbbba, t29, t30, t31 =>
  bif decide (t31 < t30) then
    bif ((decide ((0 : Int) ≤ t31)) && (decide (t31 < (((List.length t29) : Nat) : Int)))) then
      bif (Go.Inc.okPop (b5a, ((b5ba, (b5bba, (b5bbba, ()))), (b5bbbba, (b5bbbbba, ()))))) then
        bif (Go.Inc.okBStep (b5a, ((b5ba, (b5bba, (b5bbba, ()))), (b5bbbba, (b5bbbbba, ())))) ((List.getD t29 (Int.toNat t31) (((0 : Int), ((0 : Int), (ByteArray.empty, ()))), ((0 : Int), ([], ())))).1) (((List.getD t29 (Int.toNat t31) (((0 : Int), ((0 : Int), (ByteArray.empty, ()))), ((0 : Int), ([], ())))).2).1) ((((List.getD t29 (Int.toNat t31) (((0 : Int), ((0 : Int), (ByteArray.empty, ()))), ((0 : Int), ([], ())))).2).2).1)) then
          bif (Go.Inc.okSS (Go.Inc.copyS (b5a, ((b5ba, (b5bba, (b5bbba, ()))), (b5bbbba, (b5bbbbba, ()))))) (b5a, ((b5ba, (b5bba, (b5bbba, ()))), (b5bbbba, (b5bbbbba, ()))))) then
            bif (!(Go.Inc.sameS (Go.Inc.copyS (b5a, ((b5ba, (b5bba, (b5bbba, ()))), (b5bbbba, (b5bbbbba, ()))))) (b5a, ((b5ba, (b5bba, (b5bbba, ()))), (b5bbbba, (b5bbbbba, ())))))) then
              x0 false
            else
              bif (!((((Go.Inc.stepX (Go.Inc.bagStep (b5a, ((b5ba, (b5bba, (b5bbba, ()))), (b5bbbba, (b5bbbbba, ())))) ((List.getD t29 (Int.toNat t31) (((0 : Int), ((0 : Int), (ByteArray.empty, ()))), ((0 : Int), ([], ())))).1) (((List.getD t29 (Int.toNat t31) (((0 : Int), ((0 : Int), (ByteArray.empty, ()))), ((0 : Int), ([], ())))).2).1) ((((List.getD t29 (Int.toNat t31) (((0 : Int), ((0 : Int), (ByteArray.empty, ()))), ((0 : Int), ([], ())))).2).2).1))).2).2).1)) then
              W5_7 N x0 x1 n t0 b5a b5ba b5bba b5bbba b5bbbba b5bbbbba t29 t30 (Go.IntKind.wrap .i64 (t31 + (1 : Int)))
            else
              bif (Go.Inc.okOX t0 (((List.getD t29 (Int.toNat t31) (((0 : Int), ((0 : Int), (ByteArray.empty, ()))), ((0 : Int), ([], ())))).2).1) (((Go.Inc.stepX (Go.Inc.bagStep (b5a, ((b5ba, (b5bba, (b5bbba, ()))), (b5bbbba, (b5bbbbba, ())))) ((List.getD t29 (Int.toNat t31) (((0 : Int), ((0 : Int), (ByteArray.empty, ()))), ((0 : Int), ([], ())))).1) (((List.getD t29 (Int.toNat t31) (((0 : Int), ((0 : Int), (ByteArray.empty, ()))), ((0 : Int), ([], ())))).2).1) ((((List.getD t29 (Int.toNat t31) (((0 : Int), ((0 : Int), (ByteArray.empty, ()))), ((0 : Int), ([], ())))).2).2).1))).2).1) (((((Go.Inc.stepX (Go.Inc.bagStep (b5a, ((b5ba, (b5bba, (b5bbba, ()))), (b5bbbba, (b5bbbbba, ())))) ((List.getD t29 (Int.toNat t31) (((0 : Int), ((0 : Int), (ByteArray.empty, ()))), ((0 : Int), ([], ())))).1) (((List.getD t29 (Int.toNat t31) (((0 : Int), ((0 : Int), (ByteArray.empty, ()))), ((0 : Int), ([], ())))).2).1) ((((List.getD t29 (Int.toNat t31) (((0 : Int), ((0 : Int), (ByteArray.empty, ()))), ((0 : Int), ([], ())))).2).2).1))).2).2).2).1)) then
              bif (!(((Go.Inc.outsGo t0 (((List.getD t29 (Int.toNat t31) (((0 : Int), ((0 : Int), (ByteArray.empty, ()))), ((0 : Int), ([], ())))).2).1) (((((Go.Inc.stepX (Go.Inc.bagStep (b5a, ((b5ba, (b5bba, (b5bbba, ()))), (b5bbbba, (b5bbbbba, ())))) ((List.getD t29 (Int.toNat t31) (((0 : Int), ((0 : Int), (ByteArray.empty, ()))), ((0 : Int), ([], ())))).1) (((List.getD t29 (Int.toNat t31) (((0 : Int), ((0 : Int), (ByteArray.empty, ()))), ((0 : Int), ([], ())))).2).1) ((((List.getD t29 (Int.toNat t31) (((0 : Int), ((0 : Int), (ByteArray.empty, ()))), ((0 : Int), ([], ())))).2).2).1))).2).2).2).1)).2).1)) then
              x0 false
            else
              bif ((((Go.Inc.stepX (Go.Inc.bagStep (b5a, ((b5ba, (b5bba, (b5bbba, ()))), (b5bbbba, (b5bbbbba, ())))) ((List.getD t29 (Int.toNat t31) (((0 : Int), ((0 : Int), (ByteArray.empty, ()))), ((0 : Int), ([], ())))).1) (((List.getD t29 (Int.toNat t31) (((0 : Int), ((0 : Int), (ByteArray.empty, ()))), ((0 : Int), ([], ())))).2).1) ((((List.getD t29 (Int.toNat t31) (((0 : Int), ((0 : Int), (ByteArray.empty, ()))), ((0 : Int), ([], ())))).2).2).1))).1).1) != t0) then
              x0 false
            else
              W5_18 N
              (fun t0 b5a b5ba b5bba b5bbba b5bbbba b5bbbbba b9a b9ba b9bba b9bbba b9bbbba b9bbbbba b10a b10ba b10bba b10bbba b10bbbba b10bbbbba t29 t30 t31 =>
                bif (Go.Inc.okSS (b9a, ((b9ba, (b9bba, (b9bbba, ()))), (b9bbbba, (b9bbbbba, ())))) (b5a, ((b5ba, (b5bba, (b5bbba, ()))), (b5bbbba, (b5bbbbba, ()))))) then
              bif (!(Go.Inc.sameS (b9a, ((b9ba, (b9bba, (b9bbba, ()))), (b9bbbba, (b9bbbbba, ())))) (b5a, ((b5ba, (b5bba, (b5bbba, ()))), (b5bbbba, (b5bbbbba, ())))))) then
              x0 false
            else
              W5_7 N x0 x1 n t0 b10a b10ba b10bba b10bbba b10bbbba b10bbbbba t29 t30 (Go.IntKind.wrap .i64 (t31 + (1 : Int)))
            else
              none)
              N t0 b5a b5ba b5bba b5bbba b5bbbba b5bbbbba ((Go.Inc.copyS (b5a, ((b5ba, (b5bba, (b5bbba, ()))), (b5bbbba, (b5bbbbba, ()))))).1) ((((Go.Inc.copyS (b5a, ((b5ba, (b5bba, (b5bbba, ()))), (b5bbbba, (b5bbbbba, ()))))).2).1).1) (((((Go.Inc.copyS (b5a, ((b5ba, (b5bba, (b5bbba, ()))), (b5bbbba, (b5bbbbba, ()))))).2).1).2).1) ((((((Go.Inc.copyS (b5a, ((b5ba, (b5bba, (b5bbba, ()))), (b5bbbba, (b5bbbbba, ()))))).2).1).2).2).1) ((((Go.Inc.copyS (b5a, ((b5ba, (b5bba, (b5bbba, ()))), (b5bbbba, (b5bbbbba, ()))))).2).2).1) (((((Go.Inc.copyS (b5a, ((b5ba, (b5bba, (b5bbba, ()))), (b5bbbba, (b5bbbbba, ()))))).2).2).2).1) (((Go.Inc.stepX (Go.Inc.bagStep (b5a, ((b5ba, (b5bba, (b5bbba, ()))), (b5bbbba, (b5bbbbba, ())))) ((List.getD t29 (Int.toNat t31) (((0 : Int), ((0 : Int), (ByteArray.empty, ()))), ((0 : Int), ([], ())))).1) (((List.getD t29 (Int.toNat t31) (((0 : Int), ((0 : Int), (ByteArray.empty, ()))), ((0 : Int), ([], ())))).2).1) ((((List.getD t29 (Int.toNat t31) (((0 : Int), ((0 : Int), (ByteArray.empty, ()))), ((0 : Int), ([], ())))).2).2).1))).1).1) (((((Go.Inc.stepX (Go.Inc.bagStep (b5a, ((b5ba, (b5bba, (b5bbba, ()))), (b5bbbba, (b5bbbbba, ())))) ((List.getD t29 (Int.toNat t31) (((0 : Int), ((0 : Int), (ByteArray.empty, ()))), ((0 : Int), ([], ())))).1) (((List.getD t29 (Int.toNat t31) (((0 : Int), ((0 : Int), (ByteArray.empty, ()))), ((0 : Int), ([], ())))).2).1) ((((List.getD t29 (Int.toNat t31) (((0 : Int), ((0 : Int), (ByteArray.empty, ()))), ((0 : Int), ([], ())))).2).2).1))).1).2).1).1) ((((((Go.Inc.stepX (Go.Inc.bagStep (b5a, ((b5ba, (b5bba, (b5bbba, ()))), (b5bbbba, (b5bbbbba, ())))) ((List.getD t29 (Int.toNat t31) (((0 : Int), ((0 : Int), (ByteArray.empty, ()))), ((0 : Int), ([], ())))).1) (((List.getD t29 (Int.toNat t31) (((0 : Int), ((0 : Int), (ByteArray.empty, ()))), ((0 : Int), ([], ())))).2).1) ((((List.getD t29 (Int.toNat t31) (((0 : Int), ((0 : Int), (ByteArray.empty, ()))), ((0 : Int), ([], ())))).2).2).1))).1).2).1).2).1) (((((((Go.Inc.stepX (Go.Inc.bagStep (b5a, ((b5ba, (b5bba, (b5bbba, ()))), (b5bbbba, (b5bbbbba, ())))) ((List.getD t29 (Int.toNat t31) (((0 : Int), ((0 : Int), (ByteArray.empty, ()))), ((0 : Int), ([], ())))).1) (((List.getD t29 (Int.toNat t31) (((0 : Int), ((0 : Int), (ByteArray.empty, ()))), ((0 : Int), ([], ())))).2).1) ((((List.getD t29 (Int.toNat t31) (((0 : Int), ((0 : Int), (ByteArray.empty, ()))), ((0 : Int), ([], ())))).2).2).1))).1).2).1).2).2).1) (((((Go.Inc.stepX (Go.Inc.bagStep (b5a, ((b5ba, (b5bba, (b5bbba, ()))), (b5bbbba, (b5bbbbba, ())))) ((List.getD t29 (Int.toNat t31) (((0 : Int), ((0 : Int), (ByteArray.empty, ()))), ((0 : Int), ([], ())))).1) (((List.getD t29 (Int.toNat t31) (((0 : Int), ((0 : Int), (ByteArray.empty, ()))), ((0 : Int), ([], ())))).2).1) ((((List.getD t29 (Int.toNat t31) (((0 : Int), ((0 : Int), (ByteArray.empty, ()))), ((0 : Int), ([], ())))).2).2).1))).1).2).2).1) ((((((Go.Inc.stepX (Go.Inc.bagStep (b5a, ((b5ba, (b5bba, (b5bbba, ()))), (b5bbbba, (b5bbbbba, ())))) ((List.getD t29 (Int.toNat t31) (((0 : Int), ((0 : Int), (ByteArray.empty, ()))), ((0 : Int), ([], ())))).1) (((List.getD t29 (Int.toNat t31) (((0 : Int), ((0 : Int), (ByteArray.empty, ()))), ((0 : Int), ([], ())))).2).1) ((((List.getD t29 (Int.toNat t31) (((0 : Int), ((0 : Int), (ByteArray.empty, ()))), ((0 : Int), ([], ())))).2).2).1))).1).2).2).2).1) (((Go.Inc.stepX (Go.Inc.bagStep (b5a, ((b5ba, (b5bba, (b5bbba, ()))), (b5bbbba, (b5bbbbba, ())))) ((List.getD t29 (Int.toNat t31) (((0 : Int), ((0 : Int), (ByteArray.empty, ()))), ((0 : Int), ([], ())))).1) (((List.getD t29 (Int.toNat t31) (((0 : Int), ((0 : Int), (ByteArray.empty, ()))), ((0 : Int), ([], ())))).2).1) ((((List.getD t29 (Int.toNat t31) (((0 : Int), ((0 : Int), (ByteArray.empty, ()))), ((0 : Int), ([], ())))).2).2).1))).2).1) t29 t30 t31 (((((Go.Inc.stepX (Go.Inc.bagStep (b5a, ((b5ba, (b5bba, (b5bbba, ()))), (b5bbbba, (b5bbbbba, ())))) ((List.getD t29 (Int.toNat t31) (((0 : Int), ((0 : Int), (ByteArray.empty, ()))), ((0 : Int), ([], ())))).1) (((List.getD t29 (Int.toNat t31) (((0 : Int), ((0 : Int), (ByteArray.empty, ()))), ((0 : Int), ([], ())))).2).1) ((((List.getD t29 (Int.toNat t31) (((0 : Int), ((0 : Int), (ByteArray.empty, ()))), ((0 : Int), ([], ())))).2).2).1))).2).2).2).1) ((((Go.Inc.stepX (Go.Inc.bagStep (b5a, ((b5ba, (b5bba, (b5bbba, ()))), (b5bbbba, (b5bbbbba, ())))) ((List.getD t29 (Int.toNat t31) (((0 : Int), ((0 : Int), (ByteArray.empty, ()))), ((0 : Int), ([], ())))).1) (((List.getD t29 (Int.toNat t31) (((0 : Int), ((0 : Int), (ByteArray.empty, ()))), ((0 : Int), ([], ())))).2).1) ((((List.getD t29 (Int.toNat t31) (((0 : Int), ((0 : Int), (ByteArray.empty, ()))), ((0 : Int), ([], ())))).2).2).1))).2).1 : Nat) : Int) (0 : Int)
            else
              none
          else
            none
        else
          none
      else
        none
    else
      none
  else
    x1 ()
def L5 (N : Nat) : Loops (Bool × Unit) := fun k ρ K => match Nat.beq k 18 with
  | true => (match adH ρ H5_18.hd with
    | some v => W5_18 N (fun t0 b5a b5ba b5bba b5bbba b5bbbba b5bbbbba b9a b9ba b9bba b9bbba b9bbbba b9bbbbba b10a b10ba b10bba b10bbba b10bbbba b10bbbbba t29 t30 t31 => K (.exit 2) (encH [(0, (.i .i64)), (10, (.bx 5 0)), (11, (.pr (.i .i64) (.pr (.i .i64) (.pr (.i .i64) (.pr .st (.pr (.i .i64) (.pr (.sl (.pr (.int .i64) (.pr (.int .i64) (.pr .str .un))) .no) .un))))))), (18, (.bx 9 0)), (19, (.pr (.i .i64) (.pr (.i .i64) (.pr (.i .i64) (.pr .st (.pr (.i .i64) (.pr (.sl (.pr (.int .i64) (.pr (.int .i64) (.pr .str .un))) .no) .un))))))), (20, (.bx 10 0)), (21, (.pr (.i .i64) (.pr (.i .i64) (.pr (.i .i64) (.pr .st (.pr (.i .i64) (.pr (.sl (.pr (.int .i64) (.pr (.int .i64) (.pr .str .un))) .no) .un))))))), (58, (.sl (.pr (.pr (.int .i64) (.pr (.int .i64) (.pr .str .un))) (.pr (.int .i64) (.pr (.sl (.pr (.int .i64) (.pr (.int .i64) (.pr .str .un)))) .un))) .no)), (60, (.i .i64)), (62, (.i .i64))] (t0, ((), ((b5a, (b5ba, (b5bba, (b5bbba, (b5bbbba, (b5bbbbba, ())))))), ((), ((b9a, (b9ba, (b9bba, (b9bbba, (b9bbbba, (b9bbbbba, ())))))), ((), ((b10a, (b10ba, (b10bba, (b10bbba, (b10bbbba, (b10bbbbba, ())))))), (t29, (t30, (t31, ())))))))))))) N v.1 v.2.2.1.1 v.2.2.1.2.1 v.2.2.1.2.2.1 v.2.2.1.2.2.2.1 v.2.2.1.2.2.2.2.1 v.2.2.1.2.2.2.2.2.1 v.2.2.2.2.1.1 v.2.2.2.2.1.2.1 v.2.2.2.2.1.2.2.1 v.2.2.2.2.1.2.2.2.1 v.2.2.2.2.1.2.2.2.2.1 v.2.2.2.2.1.2.2.2.2.2.1 v.2.2.2.2.2.2.1.1 v.2.2.2.2.2.2.1.2.1 v.2.2.2.2.2.2.1.2.2.1 v.2.2.2.2.2.2.1.2.2.2.1 v.2.2.2.2.2.2.1.2.2.2.2.1 v.2.2.2.2.2.2.1.2.2.2.2.2.1 v.2.2.2.2.2.2.2.1 v.2.2.2.2.2.2.2.2.1 v.2.2.2.2.2.2.2.2.2.1 v.2.2.2.2.2.2.2.2.2.2.1 v.2.2.2.2.2.2.2.2.2.2.2.1 v.2.2.2.2.2.2.2.2.2.2.2.2.1 v.2.2.2.2.2.2.2.2.2.2.2.2.2.1
    | none => none)
  | false => match Nat.beq k 7 with
  | true => (match adH ρ H5_7.hd with
    | some v => W5_7 N (fun t4 => K .ret (encH [(8, .bo)] (t4, ()))) (fun _ => K (.exit 0) (encH [] ())) N v.1 v.2.2.1.1 v.2.2.1.2.1 v.2.2.1.2.2.1 v.2.2.1.2.2.2.1 v.2.2.1.2.2.2.2.1 v.2.2.1.2.2.2.2.2.1 v.2.2.2.1 v.2.2.2.2.1 v.2.2.2.2.2.1
    | none => none)
  | false => none
def F5 (N : Nat) (p0 : Int) (p1 : List ((Int × Int × ByteArray × Unit) × Int × (List (Int × Int × ByteArray × Unit)) × Unit)) : Option (Bool × Unit) :=
  bif (!(((Go.Inc.bagNew p0).2).1)) then
    some (true, ())
  else
    bif (Go.Inc.okDs p1) then
      bif (Go.Inc.greatD p1) then
        some (true, ())
      else
        W5_7 N
          (fun t4 =>
            some (t4, ()))
          (fun (_ : Unit) =>
            some (true, ()))
          N p0 (((Go.Inc.bagNew p0).1).1) (((((Go.Inc.bagNew p0).1).2).1).1) ((((((Go.Inc.bagNew p0).1).2).1).2).1) (((((((Go.Inc.bagNew p0).1).2).1).2).2).1) (((((Go.Inc.bagNew p0).1).2).2).1) ((((((Go.Inc.bagNew p0).1).2).2).2).1) p1 (((List.length p1) : Nat) : Int) (0 : Int)
    else
      none
theorem loops5 (N : Nat) : loopsOk C5 (L5 N) Go.Proofs.Tryd.f5 := ⟨trivial, ⟨⟨trivial, ⟨⟨trivial, trivial⟩, trivial⟩⟩, ⟨trivial, ⟨⟨trivial, ⟨⟨trivial, trivial⟩, trivial⟩⟩, ⟨⟨trivial, ⟨loopOk_of H5_7 N (fun K n v => W5_7 N (fun t4 => K .ret (encH [(8, .bo)] (t4, ()))) (fun _ => K (.exit 0) (encH [] ())) n v.1 v.2.2.1.1 v.2.2.1.2.1 v.2.2.1.2.2.1 v.2.2.1.2.2.2.1 v.2.2.1.2.2.2.2.1 v.2.2.1.2.2.2.2.2.1 v.2.2.2.1 v.2.2.2.2.1 v.2.2.2.2.2.1) (by kernel_rfl) (fun K v => by kernel_rfl) (fun K v => by kernel_rfl) (fun K n v => by kernel_rfl), ⟨trivial, ⟨⟨trivial, trivial⟩, ⟨⟨trivial, ⟨trivial, ⟨trivial, ⟨⟨trivial, ⟨⟨trivial, trivial⟩, trivial⟩⟩, ⟨⟨trivial, ⟨trivial, trivial⟩⟩, ⟨trivial, ⟨⟨trivial, ⟨⟨trivial, trivial⟩, trivial⟩⟩, ⟨⟨trivial, ⟨loopOk_of H5_18 N (fun K n v => W5_18 N (fun t0 b5a b5ba b5bba b5bbba b5bbbba b5bbbbba b9a b9ba b9bba b9bbba b9bbbba b9bbbbba b10a b10ba b10bba b10bbba b10bbbba b10bbbbba t29 t30 t31 => K (.exit 2) (encH [(0, (.i .i64)), (10, (.bx 5 0)), (11, (.pr (.i .i64) (.pr (.i .i64) (.pr (.i .i64) (.pr .st (.pr (.i .i64) (.pr (.sl (.pr (.int .i64) (.pr (.int .i64) (.pr .str .un))) .no) .un))))))), (18, (.bx 9 0)), (19, (.pr (.i .i64) (.pr (.i .i64) (.pr (.i .i64) (.pr .st (.pr (.i .i64) (.pr (.sl (.pr (.int .i64) (.pr (.int .i64) (.pr .str .un))) .no) .un))))))), (20, (.bx 10 0)), (21, (.pr (.i .i64) (.pr (.i .i64) (.pr (.i .i64) (.pr .st (.pr (.i .i64) (.pr (.sl (.pr (.int .i64) (.pr (.int .i64) (.pr .str .un))) .no) .un))))))), (58, (.sl (.pr (.pr (.int .i64) (.pr (.int .i64) (.pr .str .un))) (.pr (.int .i64) (.pr (.sl (.pr (.int .i64) (.pr (.int .i64) (.pr .str .un)))) .un))) .no)), (60, (.i .i64)), (62, (.i .i64))] (t0, ((), ((b5a, (b5ba, (b5bba, (b5bbba, (b5bbbba, (b5bbbbba, ())))))), ((), ((b9a, (b9ba, (b9bba, (b9bbba, (b9bbbba, (b9bbbbba, ())))))), ((), ((b10a, (b10ba, (b10bba, (b10bbba, (b10bbbba, (b10bbbbba, ())))))), (t29, (t30, (t31, ())))))))))))) n v.1 v.2.2.1.1 v.2.2.1.2.1 v.2.2.1.2.2.1 v.2.2.1.2.2.2.1 v.2.2.1.2.2.2.2.1 v.2.2.1.2.2.2.2.2.1 v.2.2.2.2.1.1 v.2.2.2.2.1.2.1 v.2.2.2.2.1.2.2.1 v.2.2.2.2.1.2.2.2.1 v.2.2.2.2.1.2.2.2.2.1 v.2.2.2.2.1.2.2.2.2.2.1 v.2.2.2.2.2.2.1.1 v.2.2.2.2.2.2.1.2.1 v.2.2.2.2.2.2.1.2.2.1 v.2.2.2.2.2.2.1.2.2.2.1 v.2.2.2.2.2.2.1.2.2.2.2.1 v.2.2.2.2.2.2.1.2.2.2.2.2.1 v.2.2.2.2.2.2.2.1 v.2.2.2.2.2.2.2.2.1 v.2.2.2.2.2.2.2.2.2.1 v.2.2.2.2.2.2.2.2.2.2.1 v.2.2.2.2.2.2.2.2.2.2.2.1 v.2.2.2.2.2.2.2.2.2.2.2.2.1 v.2.2.2.2.2.2.2.2.2.2.2.2.2.1) (by kernel_rfl) (fun K v => by kernel_rfl) (fun K v => by kernel_rfl) (fun K n v => by kernel_rfl), ⟨trivial, ⟨⟨trivial, trivial⟩, ⟨⟨trivial, trivial⟩, trivial⟩⟩⟩⟩⟩, ⟨⟨trivial, ⟨⟨trivial, trivial⟩, trivial⟩⟩, trivial⟩⟩⟩⟩⟩⟩⟩⟩⟩, trivial⟩⟩⟩⟩⟩, ⟨trivial, trivial⟩⟩⟩⟩⟩⟩
theorem runs5 (N : Nat) (x : S5.ta.den) : run C5 S5 (L5 N) Go.Proofs.Tryd.f5 x = F5 N x.1 x.2.1 := by kernel_rfl

end Go.L14
